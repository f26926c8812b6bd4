/- What this claim reaches of longer texts of this session. -/
import Derived.Test.YtbblomnhobodkaaDoorPTwx0
import Derived.Test.YtbblomnhobodkaaDoorPTwx1
import Derived.Test.YtbblomnhobodkaaDoorPTwx5
import Derived.Test.YtbblomnhobodkaaDoorPTwx14
import Derived.Test.YtbblomnhobodkaaDoorPTwx18
import Derived.Test.YtbblomnhobodkaaDoorPTwx32
import Derived.Test.YtbblomnhobodkaaDoorPTwx4
import Derived.Test.YtbblomnhobodkaaDoorPTwx6
import Derived.Test.YtbblomnhobodkaaDoorPTwx7
import Derived.Test.YtbblomnhobodkaaDoorPTwx8
import Derived.Test.YtbblomnhobodkaaDoorPTwx15
import Derived.Test.YtbblomnhobodkaaDoorPTwx24
namespace Go.Proofs.YtbblomnhobodkaaDoor.PTw
open Go.RowKit Go.Proofs.YtbblomnhobodkaaDoorW.PW Go.Proofs.YtbblomnhobodkaaDoorW.PL Go.Proofs.YtbblomnhobodkaaDoorW.PM
attribute [local go_sem] max2_int min2_int max_two min_two max_three min_three max_four min_four   -- for this text's walks alone
set_option linter.unusedVariables false
set_option linter.unusedSimpArgs false
def w4step.f (k : Nat) (l0 : List (S29)) (l1 : List (S29)) (a2_0 : Int) (a2_1 : Int) (a2_2 : Bool) (a2_3 : Int) (a2_4 : Int) (a2_5 : Int) (a2_6 : Int) (l2_7 : List Int) (a2_8 : Int) : Option ((List (S29)) × (List (S29)) × Bool):=if a2_0 = 1 then ((tree_Add.f k l0 a2_2 a2_3 a2_4 a2_5 a2_6 l2_7).bind fun bt839=>((r4Add.f k l1 a2_2 a2_3 a2_4 a2_5 a2_6 l2_7).bind fun bt844=>(if bt839.2.1 = bt844.2.1 then (some (bt839.1,bt844.1,(bt839.2.2 == bt844.2.2))) else (some (bt839.1,bt844.1,false))))) else (if a2_0 = 2 then ((tree_Update.f k l0 a2_1 a2_2 a2_3 a2_4 a2_5 a2_6 l2_7).bind fun bt849=>((r4Update.f k l1 a2_1 a2_2 a2_3 a2_4 a2_5 a2_6 l2_7).bind fun bt853=>(some (bt849.1,bt853.1,(bt849.2 == bt853.2))))) else (if a2_0 = 3 then ((tree_Remove.f k l0 a2_1).bind fun bt857=>((r4Remove.f k l1 a2_1).bind fun bt861=>(some (bt857.1,bt861.1,(bt857.2 == bt861.2))))) else (if a2_0 = 4 then ((w4keys.f k l1 a2_0 a2_1 a2_2 a2_3 a2_4 a2_5 a2_6 l2_7 a2_8).bind fun t865=>((some (([] : List Int) : List Int)).bind fun y868=>(if y868.length + t865.length < 17592186044416 then ((tree_Merge.f k l0 a2_1 a2_2 a2_3 a2_4 a2_5 a2_6 l2_7 t865 (y868 ++ t865)).bind fun bt874=>((r4Merge.f k l1 a2_1 a2_2 a2_3 a2_4 a2_5 a2_6 l2_7 t865 t865).bind fun bt878=>(some (bt874.1,bt878.1,(bt874.2 == bt878.2))))) else (none)))) else (some (([] : List (S29)),([] : List (S29)),true)))))
theorem w4step.mono : ∀ a0 a1 a2 a3 a4 a5 a6 a7 a8 a9 a10 k,LeO (w4step.f k a0 a1 a2 a3 a4 a5 a6 a7 a8 a9 a10) (w4step.f (k + 1) a0 a1 a2 a3 a4 a5 a6 a7 a8 a9 a10):=by
 intro a0 a1 a2 a3 a4 a5 a6 a7 a8 a9 a10 k;unfold w4step.f
 repeat' first
  | (with_reducible exact w4keys.mono _ _ _ _ _ _ _ _ _ _ _)
  | (with_reducible exact r4Add.mono _ _ _ _ _ _ _ _)
  | (with_reducible exact r4Merge.mono _ _ _ _ _ _ _ _ _ _ _)
  | (with_reducible exact r4Remove.mono _ _ _)
  | (with_reducible exact r4Update.mono _ _ _ _ _ _ _ _ _)
  | (with_reducible exact tree_Add.mono _ _ _ _ _ _ _ _)
  | (with_reducible exact tree_Merge.mono _ _ _ _ _ _ _ _ _ _ _)
  | (with_reducible exact tree_Remove.mono _ _ _)
  | (with_reducible exact tree_Update.mono _ _ _ _ _ _ _ _ _)
  | (with_reducible exact LeO.refl _)
  | (with_reducible exact LeO.none _)
  | (with_reducible refine LeO.ite ?_ ?_)
  | (with_reducible refine LeO.bind ?_ (fun _=>?_))
  | exact w4keys.mono _ _ _ _ _ _ _ _ _ _ _
  | exact r4Add.mono _ _ _ _ _ _ _ _
  | exact r4Merge.mono _ _ _ _ _ _ _ _ _ _ _
  | exact r4Remove.mono _ _ _
  | exact r4Update.mono _ _ _ _ _ _ _ _ _
  | exact tree_Add.mono _ _ _ _ _ _ _ _
  | exact tree_Merge.mono _ _ _ _ _ _ _ _ _ _ _
  | exact tree_Remove.mono _ _ _
  | exact tree_Update.mono _ _ _ _ _ _ _ _ _
  | exact LeO.none _
  | refine LeO.ite ?_ ?_
  | refine LeO.bind ?_ (fun _=>?_)
def w4step.T16 : Bool × List (List Nat × List Nat):=(true,[([],[]),([],[]),([1],[1]),([],[]),([3],[3]),([],[]),([],[]),([],[]),([6,7],[6,7]),([0,2,4,5,8,8],[0,2,4,5,8]),([9],[9]),([10],[10]),([10],[10]),([11,9,0,1,2,3,4,5,6,7,8,9,10,11],[11]),([12,13,0,1,2,3,4,5,6,7,8,9,10,11,12,13],[12])])
def w4step.B16 : List Nat:=[0,0,2,0,8,0,0,0,192,511,1023,2047,2047,4095,16383]
theorem w4step.tab16 : rtab .any (opsOf Tryd.f36 16) = w4step.T16:=by kernel_rfl
theorem w4step.bits16 : waitsOk w4step.T16.2 w4step.B16 = true:=by kernel_rfl
set_option maxHeartbeats 8000000 in
set_option maxRecDepth 100000 in
theorem w4step.calls (k : Nat) (P0_ : Nat→Prop) (A0 : Option Addr) (c0 : Nat) (l0 : List (S29)) (A1 : Option Addr) (c1 : Nat) (l1 : List (S29)) (a2_0 : Int) (a2_1 : Int) (a2_2 : Bool) (a2_3 : Int) (a2_4 : Int) (a2_5 : Int) (a2_6 : Int) (A2_7 : Option Addr) (c2_7 : Nat) (l2_7 : List Int) (a2_8 : Int) (r1 : List (S29)) (r2 : List (S29)) (r3 : Bool) (w : World) (hrG : TabG w) (hs0 : Kd.V k29 29 w w.heap.size (fun k_=>P0_ k_) (.slice A0 l0.length c0) l0) (hr1 : Kd.C k29 w A1 l1.length l1) (hc1 : l1.length≤c1) (hr2_7 : Kd.C (Kd.int .i64) w A2_7 l2_7.length l2_7) (hc2_7 : l2_7.length≤c2_7) (h : w4step.f k l0 l1 a2_0 a2_1 a2_2 a2_3 a2_4 a2_5 a2_6 l2_7 a2_8 = some (r1,r2,r3)) :
 Calls Tryd.prog 36 #[.slice A0 l0.length c0,.slice A1 l1.length c1,.agg #[.int .i64 a2_0,.int .i64 a2_1,.bool a2_2,.int .i64 a2_3,.int .i64 a2_4,.int .i64 a2_5,.int .i64 a2_6,.slice A2_7 l2_7.length c2_7,.int .i64 a2_8]] w fun e w'=>∃ v0_ v1_ : Value,e = .returned (.tuple #[v0_,v1_,.bool r3])∧Kd.V k29 29 w' w.heap.size (fun k_=>(P0_ k_∨w.heap.size≤k_)∧some k_≠(v1_ : Value).ownBlock) v0_ r1∧Kd.S k29 29 w' w.heap.size (fun k_=>(w.heap.size≤k_)) v1_ r2∧Below w.heap.size w w':=by
 have HRG:=Az.mk hrG;clear hrG;have hu32:=Tryd.underlying32;have hu29:=Tryd.underlying29;have HO0:=Az.mk (show Kd.V k29 29 w w.heap.size (fun k_=>(P0_ k_∨w.heap.size≤k_)) (.slice A0 l0.length c0) l0 from Kd.V_mono hs0 (fun k_ hk=>.inl hk));have HR1:=Az.mk hr1;have HC1:=Az.mk hc1;clear hr1 hc1;have HR2_7:=Az.mk hr2_7;have HC2_7:=Az.mk hc2_7;clear hr2_7 hc2_7;have HB:=Az.mk (Below.refl w.heap.size w);have H : (if a2_0 = 1 then ((tree_Add.f k l0 a2_2 a2_3 a2_4 a2_5 a2_6 l2_7).bind fun bt839=>((r4Add.f k l1 a2_2 a2_3 a2_4 a2_5 a2_6 l2_7).bind fun bt844=>(if bt839.2.1 = bt844.2.1 then (some (bt839.1,bt844.1,(bt839.2.2 == bt844.2.2))) else (some (bt839.1,bt844.1,false))))) else (if a2_0 = 2 then ((tree_Update.f k l0 a2_1 a2_2 a2_3 a2_4 a2_5 a2_6 l2_7).bind fun bt849=>((r4Update.f k l1 a2_1 a2_2 a2_3 a2_4 a2_5 a2_6 l2_7).bind fun bt853=>(some (bt849.1,bt853.1,(bt849.2 == bt853.2))))) else (if a2_0 = 3 then ((tree_Remove.f k l0 a2_1).bind fun bt857=>((r4Remove.f k l1 a2_1).bind fun bt861=>(some (bt857.1,bt861.1,(bt857.2 == bt861.2))))) else (if a2_0 = 4 then ((w4keys.f k l1 a2_0 a2_1 a2_2 a2_3 a2_4 a2_5 a2_6 l2_7 a2_8).bind fun t865=>((some (([] : List Int) : List Int)).bind fun y868=>(if y868.length + t865.length < 17592186044416 then ((tree_Merge.f k l0 a2_1 a2_2 a2_3 a2_4 a2_5 a2_6 l2_7 t865 (y868 ++ t865)).bind fun bt874=>((r4Merge.f k l1 a2_1 a2_2 a2_3 a2_4 a2_5 a2_6 l2_7 t865 t865).bind fun bt878=>(some (bt874.1,bt878.1,(bt874.2 == bt878.2))))) else (none)))) else (some (([] : List (S29)),([] : List (S29)),true)))))) = some (r1,r2,r3):=h;clear h
 by_cases c4 : a2_0 = 1
 · rw [if_pos c4] at H
   have c4b0 : (a2_0 == 1) = true:=beq_iff_eq.mpr c4;have c4b1 : (a2_0 != 1) = false:=bne_eq_false_iff_eq.mpr c4;clear c4;replace H:=Option.bind_eq_some_iff.mp H;obtain ⟨⟨t839,t842,t843⟩,A50,H⟩:=H;(try dsimp only at H);have A5:=Az.mk A50;clear A50;replace H:=Option.bind_eq_some_iff.mp H;obtain ⟨⟨t844,t847,t848⟩,A60,H⟩:=H;(try dsimp only at H);have A6:=Az.mk A60;clear A60
   by_cases c7 : t842 = t847
   · rw [if_pos c7] at H
     have c7b0 : (t842 == t847) = true:=beq_iff_eq.mpr c7;have c7b1 : (t842 != t847) = false:=bne_eq_false_iff_eq.mpr c7;clear c7;simp only [Option.some.injEq,Prod.mk.injEq] at H;obtain ⟨rfl,rfl,rfl⟩:=H
     go_enter Tryd.func36,Tryd.ntmps36
     go_wp2_with (first | ((with_reducible refine gate_dst (N:=5) rfl ?_);refine box_event ?hg (N:=5) ?hd (cs:=#[.int .i64 a2_0,.int .i64 a2_1,.bool a2_2,.int .i64 a2_3,.int .i64 a2_4,.int .i64 a2_5,.int .i64 a2_6,.slice A2_7 l2_7.length c2_7,.int .i64 a2_8]) (t:=32) ?hr ?_;(case hd=>rfl);(case hg=>rfl);(case hr=>exact gr_);intro gb838 hg w8 hbox hb;have BK838:=Az.mk (hbox);have GW838:=Az.mk ((by rw [hg];exact (bwZ (bmv HB.out)) : w.heap.size≤gb838));have GE838:=Az.mk ((by rw [hg];exact (bwZ (bmv HB.out)) : w.heap.size≤gb838));replace HO0:=Az.mk (Kd.V_below (Kd.V_elderB (V_mv HO0.out) gb838 (Nat.le_of_eq hg.symm)) hb);replace HB:=Az.mk (bwT (bmv HB.out) hb);clear hb hbox hg;obtain ⟨⟨hcz9_0,hcz9_1,hcz9_2,hcz9_3,hcz9_4,hcz9_5,hcz9_6,hcz9_7,hcz9_8⟩,hfz9_0,hfz9_1,hfz9_2,hfz9_3,hfz9_4,hfz9_5,hfz9_6,hfz9_7,hfz9_8⟩:=cells9 BK838.out) | ((with_reducible refine gate_callee (f:=19) rfl ?_);refine goesL_ (some 36) rfl rfl Tryd.func19 (by kernel_rfl) rfl #[.slice A0 l0.length c0,.agg #[.bool a2_2,.int .i64 a2_3,.int .i64 a2_4,.int .i64 a2_5,.int .i64 a2_6,.slice A2_7 l2_7.length c2_7]] rfl tl_ ?_;(with_reducible refine (tree_Add.calls (hrG:=?sideG) k _ _ l0 a2_2 a2_3 a2_4 a2_5 a2_6 (fun k_=>k_ < w.heap.size) _ _ l2_7 t839 t842 t843 _ ?side1 ?side2 ?side3 A5.out).mono ?_);(case sideG=>(first | (with_reducible exact HRG.out) | exact TabG.below HRG.out (by repeat (first | (with_reducible first | exact HB.out | apply bwA | apply bwN | apply bw1 | refine bwS ?_ GE838.out) | (with_reducible exact Below.refl _ _)))));(case side1=>exact C_mv ((Kd.V_reads' HO0.out).2.2));(case side2=>exact (Kd.V_reads' HO0.out).2.1);(case side3=>exact Kd.V_mk HC2_7.out (Kd.F_below (Kd.C_F (Kd.heap_int .i64) HR2_7.out) (by repeat (with_reducible first | exact bmv HB.out | refine bwS ?_ GE838.out))));rintro e w10 ⟨v840,rfl,ho0,hb⟩;refine ⟨_,rfl,?_⟩;have HO841:=Az.mk (Kd.S_lower (Kd.S_newM (M:=fun k_=>(w.heap.size≤k_)) (Kd.S_mono (ok':=fun k_=>True) ho0 (fun _ hk_=>trivial)) (bwZ (by repeat (with_reducible first | exact bmv HB.out | refine bwS ?_ GE838.out))) (fun k_ h_=>h_)) (bwZ (by repeat (with_reducible first | exact bmv HB.out | refine bwS ?_ GE838.out))));replace HO0:=Az.mk (Kd.V_elder' (V_mv HO0.out) (Kd.S_base ho0) hb);replace BK838:=Az.mk (kB (blk_mv BK838.out) hb);replace HB:=Az.mk (bwT (by repeat (with_reducible first | exact bmv HB.out | refine bwS ?_ GE838.out)) hb);(try clear hb);(try clear hb2);(try clear hk);(try clear hi);(try clear ho0);obtain ⟨⟨hcz11_0,hcz11_1,hcz11_2,hcz11_3,hcz11_4,hcz11_5,hcz11_6,hcz11_7,hcz11_8⟩,hfz11_0,hfz11_1,hfz11_2,hfz11_3,hfz11_4,hfz11_5,hfz11_6,hfz11_7,hfz11_8⟩:=cells9 BK838.out) | ((with_reducible refine gate_callee (f:=20) rfl ?_);refine goesL_ (some 44) rfl rfl Tryd.func20 (by kernel_rfl) rfl #[.slice A1 l1.length c1,.agg #[.bool a2_2,.int .i64 a2_3,.int .i64 a2_4,.int .i64 a2_5,.int .i64 a2_6,.slice A2_7 l2_7.length c2_7]] rfl tl_ ?_;(with_reducible refine (r4Add.calls k _ _ l1 a2_2 a2_3 a2_4 a2_5 a2_6 (fun k_=>k_ < w.heap.size) _ _ l2_7 t844 t847 t848 _ ?side1 ?side2 ?side3 A6.out).mono ?_);(case side1=>exact C_mv ((Kd.C_below HR1.out HB.out)));(case side2=>exact HC1.out);(case side3=>exact Kd.V_mk HC2_7.out (Kd.F_below (Kd.C_F (Kd.heap_int .i64) HR2_7.out) (by repeat (with_reducible first | exact bmv HB.out | refine bwS ?_ GE838.out))));rintro e w12 ⟨v845,rfl,ho0,hb⟩;refine ⟨_,rfl,?_⟩;have HO846:=Az.mk (Kd.S_lower (Kd.S_new' (Kd.S_newM (M:=fun k_=>(w.heap.size≤k_)) (Kd.S_mono (ok':=fun k_=>True) ho0 (fun _ hk_=>trivial)) (bwZ (by repeat (with_reducible first | exact bmv HB.out | refine bwS ?_ GE838.out))) (fun k_ h_=>h_)) (Kd.S_lt (S_mv HO841.out))) (bwZ (by repeat (with_reducible first | exact bmv HB.out | refine bwS ?_ GE838.out))));replace HO0:=Az.mk (Kd.V_elder' (V_mv HO0.out) (Kd.S_base ho0) hb);replace HO841:=Az.mk (Kd.S_elder' (S_mv HO841.out) (Kd.S_base ho0) hb);replace BK838:=Az.mk (kB (blk_mv BK838.out) hb);replace HB:=Az.mk (bwT (by repeat (with_reducible first | exact bmv HB.out | refine bwS ?_ GE838.out)) hb);(try clear hb);(try clear hb2);(try clear hk);(try clear hi);(try clear ho0)))
     go_ret3
     exact ⟨_,_,by first | rfl | (simp [errW_none,errW_some] <;> rfl) | (simp [*,errW_none,errW_some] <;> rfl),(V_mv (Kd.V_mono (Kd.S_V HO841.out) (fun k_ hk=>⟨.inr (hk.1.1),hk.2⟩))),S_mv (Kd.S_mono HO846.out (fun _ hk=>hk.1.1)),by repeat (with_reducible first | exact bmv HB.out | refine bwS ?_ GE838.out)⟩
   · rw [if_neg c7] at H
     have c7b0 : (t842 == t847) = false:=beq_eq_false_iff_ne.mpr c7;have c7b1 : (t842 != t847) = true:=bne_iff_ne.mpr c7;simp only [Option.some.injEq,Prod.mk.injEq] at H;obtain ⟨rfl,rfl,rfl⟩:=H
     go_enter Tryd.func36,Tryd.ntmps36
     go_wp2_with (first | ((with_reducible refine gate_dst (N:=5) rfl ?_);refine box_event ?hg (N:=5) ?hd (cs:=#[.int .i64 a2_0,.int .i64 a2_1,.bool a2_2,.int .i64 a2_3,.int .i64 a2_4,.int .i64 a2_5,.int .i64 a2_6,.slice A2_7 l2_7.length c2_7,.int .i64 a2_8]) (t:=32) ?hr ?_;(case hd=>rfl);(case hg=>rfl);(case hr=>exact gr_);intro gb838 hg w13 hbox hb;have BK838:=Az.mk (hbox);have GW838:=Az.mk ((by rw [hg];exact (bwZ (bmv HB.out)) : w.heap.size≤gb838));have GE838:=Az.mk ((by rw [hg];exact (bwZ (bmv HB.out)) : w.heap.size≤gb838));replace HO0:=Az.mk (Kd.V_below (Kd.V_elderB (V_mv HO0.out) gb838 (Nat.le_of_eq hg.symm)) hb);replace HB:=Az.mk (bwT (bmv HB.out) hb);clear hb hbox hg;obtain ⟨⟨hcz14_0,hcz14_1,hcz14_2,hcz14_3,hcz14_4,hcz14_5,hcz14_6,hcz14_7,hcz14_8⟩,hfz14_0,hfz14_1,hfz14_2,hfz14_3,hfz14_4,hfz14_5,hfz14_6,hfz14_7,hfz14_8⟩:=cells9 BK838.out) | ((with_reducible refine gate_callee (f:=19) rfl ?_);refine goesL_ (some 36) rfl rfl Tryd.func19 (by kernel_rfl) rfl #[.slice A0 l0.length c0,.agg #[.bool a2_2,.int .i64 a2_3,.int .i64 a2_4,.int .i64 a2_5,.int .i64 a2_6,.slice A2_7 l2_7.length c2_7]] rfl tl_ ?_;(with_reducible refine (tree_Add.calls (hrG:=?sideG) k _ _ l0 a2_2 a2_3 a2_4 a2_5 a2_6 (fun k_=>k_ < w.heap.size) _ _ l2_7 t839 t842 t843 _ ?side1 ?side2 ?side3 A5.out).mono ?_);(case sideG=>(first | (with_reducible exact HRG.out) | exact TabG.below HRG.out (by repeat (first | (with_reducible first | exact HB.out | apply bwA | apply bwN | apply bw1 | refine bwS ?_ GE838.out) | (with_reducible exact Below.refl _ _)))));(case side1=>exact C_mv ((Kd.V_reads' HO0.out).2.2));(case side2=>exact (Kd.V_reads' HO0.out).2.1);(case side3=>exact Kd.V_mk HC2_7.out (Kd.F_below (Kd.C_F (Kd.heap_int .i64) HR2_7.out) (by repeat (with_reducible first | exact bmv HB.out | refine bwS ?_ GE838.out))));rintro e w15 ⟨v840,rfl,ho0,hb⟩;refine ⟨_,rfl,?_⟩;have HO841:=Az.mk (Kd.S_lower (Kd.S_newM (M:=fun k_=>(w.heap.size≤k_)) (Kd.S_mono (ok':=fun k_=>True) ho0 (fun _ hk_=>trivial)) (bwZ (by repeat (with_reducible first | exact bmv HB.out | refine bwS ?_ GE838.out))) (fun k_ h_=>h_)) (bwZ (by repeat (with_reducible first | exact bmv HB.out | refine bwS ?_ GE838.out))));replace HO0:=Az.mk (Kd.V_elder' (V_mv HO0.out) (Kd.S_base ho0) hb);replace BK838:=Az.mk (kB (blk_mv BK838.out) hb);replace HB:=Az.mk (bwT (by repeat (with_reducible first | exact bmv HB.out | refine bwS ?_ GE838.out)) hb);(try clear hb);(try clear hb2);(try clear hk);(try clear hi);(try clear ho0);obtain ⟨⟨hcz16_0,hcz16_1,hcz16_2,hcz16_3,hcz16_4,hcz16_5,hcz16_6,hcz16_7,hcz16_8⟩,hfz16_0,hfz16_1,hfz16_2,hfz16_3,hfz16_4,hfz16_5,hfz16_6,hfz16_7,hfz16_8⟩:=cells9 BK838.out) | ((with_reducible refine gate_callee (f:=20) rfl ?_);refine goesL_ (some 44) rfl rfl Tryd.func20 (by kernel_rfl) rfl #[.slice A1 l1.length c1,.agg #[.bool a2_2,.int .i64 a2_3,.int .i64 a2_4,.int .i64 a2_5,.int .i64 a2_6,.slice A2_7 l2_7.length c2_7]] rfl tl_ ?_;(with_reducible refine (r4Add.calls k _ _ l1 a2_2 a2_3 a2_4 a2_5 a2_6 (fun k_=>k_ < w.heap.size) _ _ l2_7 t844 t847 t848 _ ?side1 ?side2 ?side3 A6.out).mono ?_);(case side1=>exact C_mv ((Kd.C_below HR1.out HB.out)));(case side2=>exact HC1.out);(case side3=>exact Kd.V_mk HC2_7.out (Kd.F_below (Kd.C_F (Kd.heap_int .i64) HR2_7.out) (by repeat (with_reducible first | exact bmv HB.out | refine bwS ?_ GE838.out))));rintro e w17 ⟨v845,rfl,ho0,hb⟩;refine ⟨_,rfl,?_⟩;have HO846:=Az.mk (Kd.S_lower (Kd.S_new' (Kd.S_newM (M:=fun k_=>(w.heap.size≤k_)) (Kd.S_mono (ok':=fun k_=>True) ho0 (fun _ hk_=>trivial)) (bwZ (by repeat (with_reducible first | exact bmv HB.out | refine bwS ?_ GE838.out))) (fun k_ h_=>h_)) (Kd.S_lt (S_mv HO841.out))) (bwZ (by repeat (with_reducible first | exact bmv HB.out | refine bwS ?_ GE838.out))));replace HO0:=Az.mk (Kd.V_elder' (V_mv HO0.out) (Kd.S_base ho0) hb);replace HO841:=Az.mk (Kd.S_elder' (S_mv HO841.out) (Kd.S_base ho0) hb);replace BK838:=Az.mk (kB (blk_mv BK838.out) hb);replace HB:=Az.mk (bwT (by repeat (with_reducible first | exact bmv HB.out | refine bwS ?_ GE838.out)) hb);(try clear hb);(try clear hb2);(try clear hk);(try clear hi);(try clear ho0)))
     go_ret3
     exact ⟨_,_,by first | rfl | (simp [errW_none,errW_some] <;> rfl) | (simp [*,errW_none,errW_some] <;> rfl),(V_mv (Kd.V_mono (Kd.S_V HO841.out) (fun k_ hk=>⟨.inr (hk.1.1),hk.2⟩))),S_mv (Kd.S_mono HO846.out (fun _ hk=>hk.1.1)),by repeat (with_reducible first | exact bmv HB.out | refine bwS ?_ GE838.out)⟩
 · rw [if_neg c4] at H
   have c4b0 : (a2_0 == 1) = false:=beq_eq_false_iff_ne.mpr c4;have c4b1 : (a2_0 != 1) = true:=bne_iff_ne.mpr c4
   by_cases c18 : a2_0 = 2
   · rw [if_pos c18] at H
     have c18b0 : (a2_0 == 2) = true:=beq_iff_eq.mpr c18;have c18b1 : (a2_0 != 2) = false:=bne_eq_false_iff_eq.mpr c18;clear c18;replace H:=Option.bind_eq_some_iff.mp H;obtain ⟨⟨t849,t852⟩,A190,H⟩:=H;(try dsimp only at H);have A19:=Az.mk A190;clear A190;replace H:=Option.bind_eq_some_iff.mp H;obtain ⟨⟨t853,t856⟩,A200,H⟩:=H;(try dsimp only at H);have A20:=Az.mk A200;clear A200;simp only [Option.some.injEq,Prod.mk.injEq] at H;obtain ⟨rfl,rfl,rfl⟩:=H
     go_enter Tryd.func36,Tryd.ntmps36
     go_wp2_with (first | ((with_reducible refine gate_dst (N:=5) rfl ?_);refine box_event ?hg (N:=5) ?hd (cs:=#[.int .i64 a2_0,.int .i64 a2_1,.bool a2_2,.int .i64 a2_3,.int .i64 a2_4,.int .i64 a2_5,.int .i64 a2_6,.slice A2_7 l2_7.length c2_7,.int .i64 a2_8]) (t:=32) ?hr ?_;(case hd=>rfl);(case hg=>rfl);(case hr=>exact gr_);intro gb838 hg w21 hbox hb;have BK838:=Az.mk (hbox);have GW838:=Az.mk ((by rw [hg];exact (bwZ (bmv HB.out)) : w.heap.size≤gb838));have GE838:=Az.mk ((by rw [hg];exact (bwZ (bmv HB.out)) : w.heap.size≤gb838));replace HO0:=Az.mk (Kd.V_below (Kd.V_elderB (V_mv HO0.out) gb838 (Nat.le_of_eq hg.symm)) hb);replace HB:=Az.mk (bwT (bmv HB.out) hb);clear hb hbox hg;obtain ⟨⟨hcz22_0,hcz22_1,hcz22_2,hcz22_3,hcz22_4,hcz22_5,hcz22_6,hcz22_7,hcz22_8⟩,hfz22_0,hfz22_1,hfz22_2,hfz22_3,hfz22_4,hfz22_5,hfz22_6,hfz22_7,hfz22_8⟩:=cells9 BK838.out) | ((with_reducible refine gate_callee (f:=33) rfl ?_);refine goesL_ (some 66) rfl rfl Tryd.func33 (by kernel_rfl) rfl #[.slice A0 l0.length c0,.int .i64 a2_1,.agg #[.bool a2_2,.int .i64 a2_3,.int .i64 a2_4,.int .i64 a2_5,.int .i64 a2_6,.slice A2_7 l2_7.length c2_7]] rfl tl_ ?_;(with_reducible refine (tree_Update.calls (hrG:=?sideG) k _ _ l0 a2_1 a2_2 a2_3 a2_4 a2_5 a2_6 _ _ l2_7 t849 t852 _ ?side1 ?side2 ?side3 ?side4 A19.out).mono ?_);(case sideG=>(first | (with_reducible exact HRG.out) | exact TabG.below HRG.out (by repeat (first | (with_reducible first | exact HB.out | apply bwA | apply bwN | apply bw1 | refine bwS ?_ GE838.out) | (with_reducible exact Below.refl _ _)))));(case side1=>exact C_mv ((Kd.V_reads' HO0.out).2.2));(case side2=>exact (Kd.V_reads' HO0.out).2.1);(case side3=>exact C_mv ((Kd.C_below HR2_7.out HB.out)));(case side4=>exact HC2_7.out);rintro e w23 ⟨v850,rfl,ho0,hb⟩;refine ⟨_,rfl,?_⟩;have HO851:=Az.mk (Kd.S_lower (Kd.S_newM (M:=fun k_=>(w.heap.size≤k_)) ho0 (bwZ (by repeat (with_reducible first | exact bmv HB.out | refine bwS ?_ GE838.out))) (fun k_ h_=>h_)) (bwZ (by repeat (with_reducible first | exact bmv HB.out | refine bwS ?_ GE838.out))));replace HO0:=Az.mk (Kd.V_elder' (V_mv HO0.out) (Kd.S_base ho0) hb);replace BK838:=Az.mk (kB (blk_mv BK838.out) hb);replace HB:=Az.mk (bwT (by repeat (with_reducible first | exact bmv HB.out | refine bwS ?_ GE838.out)) hb);(try clear hb);(try clear hb2);(try clear hk);(try clear hi);(try clear ho0);obtain ⟨⟨hcz24_0,hcz24_1,hcz24_2,hcz24_3,hcz24_4,hcz24_5,hcz24_6,hcz24_7,hcz24_8⟩,hfz24_0,hfz24_1,hfz24_2,hfz24_3,hfz24_4,hfz24_5,hfz24_6,hfz24_7,hfz24_8⟩:=cells9 BK838.out) | ((with_reducible refine gate_callee (f:=47) rfl ?_);refine goesL_ (some 75) rfl rfl Tryd.func47 (by kernel_rfl) rfl #[.slice A1 l1.length c1,.int .i64 a2_1,.agg #[.bool a2_2,.int .i64 a2_3,.int .i64 a2_4,.int .i64 a2_5,.int .i64 a2_6,.slice A2_7 l2_7.length c2_7]] rfl tl_ ?_;(with_reducible refine (r4Update.calls k _ _ l1 a2_1 a2_2 a2_3 a2_4 a2_5 a2_6 _ _ l2_7 t853 t856 _ ?side1 ?side2 ?side3 ?side4 A20.out).mono ?_);(case side1=>exact C_mv ((Kd.C_below HR1.out HB.out)));(case side2=>exact HC1.out);(case side3=>exact C_mv ((Kd.C_below HR2_7.out HB.out)));(case side4=>exact HC2_7.out);rintro e w25 ⟨v854,rfl,ho0,hb⟩;refine ⟨_,rfl,?_⟩;have HO855:=Az.mk (Kd.S_lower (Kd.S_new' (Kd.S_newM (M:=fun k_=>(w.heap.size≤k_)) ho0 (bwZ (by repeat (with_reducible first | exact bmv HB.out | refine bwS ?_ GE838.out))) (fun k_ h_=>h_)) (Kd.S_lt (S_mv HO851.out))) (bwZ (by repeat (with_reducible first | exact bmv HB.out | refine bwS ?_ GE838.out))));replace HO0:=Az.mk (Kd.V_elder' (V_mv HO0.out) (Kd.S_base ho0) hb);replace HO851:=Az.mk (Kd.S_elder' (S_mv HO851.out) (Kd.S_base ho0) hb);replace BK838:=Az.mk (kB (blk_mv BK838.out) hb);replace HB:=Az.mk (bwT (by repeat (with_reducible first | exact bmv HB.out | refine bwS ?_ GE838.out)) hb);(try clear hb);(try clear hb2);(try clear hk);(try clear hi);(try clear ho0)))
     go_ret3
     exact ⟨_,_,by first | rfl | (simp [errW_none,errW_some] <;> rfl) | (simp [*,errW_none,errW_some] <;> rfl),(V_mv (Kd.V_mono (Kd.S_V HO851.out) (fun k_ hk=>⟨.inr (hk.1.1),hk.2⟩))),S_mv (Kd.S_mono HO855.out (fun _ hk=>hk.1.1)),by repeat (with_reducible first | exact bmv HB.out | refine bwS ?_ GE838.out)⟩
   · rw [if_neg c18] at H
     have c18b0 : (a2_0 == 2) = false:=beq_eq_false_iff_ne.mpr c18;have c18b1 : (a2_0 != 2) = true:=bne_iff_ne.mpr c18
     by_cases c26 : a2_0 = 3
     · rw [if_pos c26] at H
       have c26b0 : (a2_0 == 3) = true:=beq_iff_eq.mpr c26;have c26b1 : (a2_0 != 3) = false:=bne_eq_false_iff_eq.mpr c26;clear c26;replace H:=Option.bind_eq_some_iff.mp H;obtain ⟨⟨t857,t860⟩,A270,H⟩:=H;(try dsimp only at H);have A27:=Az.mk A270;clear A270;replace H:=Option.bind_eq_some_iff.mp H;obtain ⟨⟨t861,t862⟩,A280,H⟩:=H;(try dsimp only at H);have A28:=Az.mk A280;clear A280;simp only [Option.some.injEq,Prod.mk.injEq] at H;obtain ⟨rfl,rfl,rfl⟩:=H
       go_enter Tryd.func36,Tryd.ntmps36
       go_wp2_with (first | ((with_reducible refine gate_dst (N:=5) rfl ?_);refine box_event ?hg (N:=5) ?hd (cs:=#[.int .i64 a2_0,.int .i64 a2_1,.bool a2_2,.int .i64 a2_3,.int .i64 a2_4,.int .i64 a2_5,.int .i64 a2_6,.slice A2_7 l2_7.length c2_7,.int .i64 a2_8]) (t:=32) ?hr ?_;(case hd=>rfl);(case hg=>rfl);(case hr=>exact gr_);intro gb838 hg w29 hbox hb;have BK838:=Az.mk (hbox);have GW838:=Az.mk ((by rw [hg];exact (bwZ (bmv HB.out)) : w.heap.size≤gb838));have GE838:=Az.mk ((by rw [hg];exact (bwZ (bmv HB.out)) : w.heap.size≤gb838));replace HO0:=Az.mk (Kd.V_below (Kd.V_elderB (V_mv HO0.out) gb838 (Nat.le_of_eq hg.symm)) hb);replace HB:=Az.mk (bwT (bmv HB.out) hb);clear hb hbox hg;obtain ⟨⟨hcz30_0,hcz30_1,hcz30_2,hcz30_3,hcz30_4,hcz30_5,hcz30_6,hcz30_7,hcz30_8⟩,hfz30_0,hfz30_1,hfz30_2,hfz30_3,hfz30_4,hfz30_5,hfz30_6,hfz30_7,hfz30_8⟩:=cells9 BK838.out) | ((with_reducible refine gate_callee (f:=32) rfl ?_);refine goesL_ (some 89) rfl rfl Tryd.func32 (by kernel_rfl) rfl #[.slice A0 l0.length c0,.int .i64 a2_1] rfl tl_ ?_;(with_reducible refine (tree_Remove.calls (hrG:=?sideG) k (fun k_=>((P0_ k_∨w.heap.size≤k_)∧k_≠gb838)) _ _ l0 a2_1 t857 t860 _ ?side1 A27.out).mono ?_);(case sideG=>(first | (with_reducible exact HRG.out) | exact TabG.below HRG.out (by repeat (first | (with_reducible first | exact HB.out | apply bwA | apply bwN | apply bw1 | refine bwS ?_ GE838.out) | (with_reducible exact Below.refl _ _)))));(case side1=>exact HO0.out);rintro e w31 ⟨v858,rfl,ho0,hb⟩;refine ⟨_,rfl,?_⟩;have HO859:=Az.mk (Kd.V_lower (Kd.V_mono (ok':=fun k_=>(P0_ k_∨w.heap.size≤k_)∧k_≠gb838) ho0 (fun k_ hk_=>⟨Or.elim hk_ (fun hs_=>hs_.1) (fun hn_=>(.inr (Nat.le_trans (bwZ (by repeat (with_reducible first | exact bmv HB.out | refine bwS ?_ GE838.out))) hn_))),Or.elim hk_ (fun hs_=>hs_.2) (fun hn_=>(Kd.freshB (g:=gb838) (o:=.cells #[.int .i64 a2_0,.int .i64 a2_1,.bool a2_2,.int .i64 a2_3,.int .i64 a2_4,.int .i64 a2_5,.int .i64 a2_6,.slice A2_7 l2_7.length c2_7,.int .i64 a2_8] 32 (0,0)) (blk_mv BK838.out) k_ hn_))⟩)) (bwZ (by repeat (with_reducible first | exact bmv HB.out | refine bwS ?_ GE838.out))));replace HO0:=Az.mk (Kd.V_below (V_mv HO0.out) hb);replace BK838:=Az.mk (kB (blk_mv BK838.out) hb);replace HB:=Az.mk (bwT (by repeat (with_reducible first | exact bmv HB.out | refine bwS ?_ GE838.out)) hb);(try clear hb);(try clear hb2);(try clear hk);(try clear hi);(try clear ho0);obtain ⟨⟨hcz32_0,hcz32_1,hcz32_2,hcz32_3,hcz32_4,hcz32_5,hcz32_6,hcz32_7,hcz32_8⟩,hfz32_0,hfz32_1,hfz32_2,hfz32_3,hfz32_4,hfz32_5,hfz32_6,hfz32_7,hfz32_8⟩:=cells9 BK838.out) | ((with_reducible refine gate_callee (f:=48) rfl ?_);refine goesL_ (some 96) rfl rfl Tryd.func48 (by kernel_rfl) rfl #[.slice A1 l1.length c1,.int .i64 a2_1] rfl tl_ ?_;(with_reducible refine (r4Remove.calls k _ _ l1 a2_1 t861 t862 _ ?side1 ?side2 A28.out).mono ?_);(case side1=>exact C_mv ((Kd.C_below HR1.out HB.out)));(case side2=>exact HC1.out);rintro e w33 ⟨v863,rfl,ho0,hb⟩;refine ⟨_,rfl,?_⟩;have HO864:=Az.mk (Kd.S_lower (Kd.S_newM (M:=fun k_=>(w.heap.size≤k_)) ho0 (bwZ (by repeat (with_reducible first | exact bmv HB.out | refine bwS ?_ GE838.out))) (fun k_ h_=>h_)) (bwZ (by repeat (with_reducible first | exact bmv HB.out | refine bwS ?_ GE838.out))));replace HO0:=Az.mk (Kd.V_elder' (V_mv HO0.out) (Kd.S_base ho0) hb);replace HO859:=Az.mk (Kd.V_elder' (V_mv HO859.out) (Kd.S_base ho0) hb);replace BK838:=Az.mk (kB (blk_mv BK838.out) hb);replace HB:=Az.mk (bwT (by repeat (with_reducible first | exact bmv HB.out | refine bwS ?_ GE838.out)) hb);(try clear hb);(try clear hb2);(try clear hk);(try clear hi);(try clear ho0)))
       go_ret3
       exact ⟨_,_,by first | rfl | (simp [errW_none,errW_some] <;> rfl) | (simp [*,errW_none,errW_some] <;> rfl),V_mv (Kd.V_mono HO859.out (fun _ hk=>⟨hk.1.1,hk.2⟩)),S_mv (Kd.S_mono HO864.out (fun _ hk=>hk.1)),by repeat (with_reducible first | exact bmv HB.out | refine bwS ?_ GE838.out)⟩
     · rw [if_neg c26] at H
       have c26b0 : (a2_0 == 3) = false:=beq_eq_false_iff_ne.mpr c26;have c26b1 : (a2_0 != 3) = true:=bne_iff_ne.mpr c26
       by_cases c34 : a2_0 = 4
       · rw [if_pos c34] at H
         have c34b0 : (a2_0 == 4) = true:=beq_iff_eq.mpr c34;have c34b1 : (a2_0 != 4) = false:=bne_eq_false_iff_eq.mpr c34;clear c34;replace H:=Option.bind_eq_some_iff.mp H;obtain ⟨t865,A350,H⟩:=H;(try dsimp only at H);have A35:=Az.mk A350;clear A350
         obtain ⟨y868,hy868⟩ : ∃ y_ : List Int,y_ = (([] : List Int)):=⟨_,rfl⟩
         replace H : (if y868.length + t865.length < 17592186044416 then ((tree_Merge.f k l0 a2_1 a2_2 a2_3 a2_4 a2_5 a2_6 l2_7 t865 (y868 ++ t865)).bind fun bt874=>((r4Merge.f k l1 a2_1 a2_2 a2_3 a2_4 a2_5 a2_6 l2_7 t865 t865).bind fun bt878=>(some (bt874.1,bt878.1,(bt874.2 == bt878.2))))) else (none)) = some (r1,r2,r3):=by first | (rw [hy868];with_reducible exact H) | (have H2_:=(Option.bind_some _ _).symm.trans H;rw [hy868];with_reducible exact H2_) | (have H2_:=(Option.bind_some _ _).symm.trans H;with_reducible exact H2_) | with_reducible exact H | (rw [hy868];exact H) | exact H
         have Ny868:=Az.mk hy868;clear hy868
         by_cases c36 : y868.length + t865.length < 17592186044416
         · rw [if_pos c36] at H
           have LMc36:=Az.mk c36;clear c36
           obtain ⟨y871,hy871⟩ : ∃ y_ : List Int,y_ = (y868 ++ t865):=⟨_,rfl⟩
           replace H : ((tree_Merge.f k l0 a2_1 a2_2 a2_3 a2_4 a2_5 a2_6 l2_7 t865 y871).bind fun bt874=>((r4Merge.f k l1 a2_1 a2_2 a2_3 a2_4 a2_5 a2_6 l2_7 t865 t865).bind fun bt878=>(some (bt874.1,bt878.1,(bt874.2 == bt878.2))))) = some (r1,r2,r3):=by first | (rw [hy871];with_reducible exact H) | (have H2_:=(Option.bind_some _ _).symm.trans H;rw [hy871];with_reducible exact H2_) | (have H2_:=(Option.bind_some _ _).symm.trans H;with_reducible exact H2_) | with_reducible exact H | (rw [hy871];exact H) | exact H
           have Ny871:=Az.mk hy871;clear hy871;replace H:=Option.bind_eq_some_iff.mp H;obtain ⟨⟨t874,t877⟩,A370,H⟩:=H;(try dsimp only at H);have A37:=Az.mk A370;clear A370;replace H:=Option.bind_eq_some_iff.mp H;obtain ⟨⟨t878,t881⟩,A380,H⟩:=H;(try dsimp only at H);have A38:=Az.mk A380;clear A380;simp only [Option.some.injEq,Prod.mk.injEq] at H;obtain ⟨rfl,rfl,rfl⟩:=H
           go_enter Tryd.func36,Tryd.ntmps36
           try go_wp2_with (first | ((with_reducible refine gate_dst (N:=5) rfl ?_);refine box_event ?hg (N:=5) ?hd (cs:=#[.int .i64 a2_0,.int .i64 a2_1,.bool a2_2,.int .i64 a2_3,.int .i64 a2_4,.int .i64 a2_5,.int .i64 a2_6,.slice A2_7 l2_7.length c2_7,.int .i64 a2_8]) (t:=32) ?hr ?_;(case hd=>rfl);(case hg=>rfl);(case hr=>exact gr_);intro gb838 hg w39 hbox hb;have BK838:=Az.mk (hbox);have GW838:=Az.mk ((by rw [hg];exact (bwZ (bmv HB.out)) : w.heap.size≤gb838));have GE838:=Az.mk ((by rw [hg];exact (bwZ (bmv HB.out)) : w.heap.size≤gb838));replace HO0:=Az.mk (Kd.V_below (Kd.V_elderB (V_mv HO0.out) gb838 (Nat.le_of_eq hg.symm)) hb);replace HB:=Az.mk (bwT (bmv HB.out) hb);clear hb hbox hg;obtain ⟨⟨hcz40_0,hcz40_1,hcz40_2,hcz40_3,hcz40_4,hcz40_5,hcz40_6,hcz40_7,hcz40_8⟩,hfz40_0,hfz40_1,hfz40_2,hfz40_3,hfz40_4,hfz40_5,hfz40_6,hfz40_7,hfz40_8⟩:=cells9 BK838.out) | ((with_reducible refine gate_callee (f:=39) rfl ?_);refine goesL_ (some 108) rfl rfl Tryd.func39 (by kernel_rfl) rfl #[.slice A1 l1.length c1,.agg #[.int .i64 a2_0,.int .i64 a2_1,.bool a2_2,.int .i64 a2_3,.int .i64 a2_4,.int .i64 a2_5,.int .i64 a2_6,.slice A2_7 l2_7.length c2_7,.int .i64 a2_8]] rfl tl_ ?_;(with_reducible refine (w4keys.calls k _ _ l1 a2_0 a2_1 a2_2 a2_3 a2_4 a2_5 a2_6 _ _ l2_7 a2_8 t865 _ ?side1 ?side2 ?side3 ?side4 A35.out).mono ?_);(case side1=>exact C_mv ((Kd.C_below HR1.out HB.out)));(case side2=>exact HC1.out);(case side3=>exact C_mv ((Kd.C_below HR2_7.out HB.out)));(case side4=>exact HC2_7.out);rintro e w41 ⟨v866,rfl,ho0,hb⟩;refine ⟨_,rfl,?_⟩;have HO867:=Az.mk (Kd.R_lower (Kd.R_newM (M:=fun k_=>(w.heap.size≤k_)) ho0 (bwZ (by repeat (with_reducible first | exact bmv HB.out | refine bwS ?_ GE838.out))) (fun k_ h_=>h_)) (bwZ (by repeat (with_reducible first | exact bmv HB.out | refine bwS ?_ GE838.out))));replace HO0:=Az.mk (Kd.V_elder' (V_mv HO0.out) (Kd.R_base ho0) hb);replace BK838:=Az.mk (kB (blk_mv BK838.out) hb);replace HB:=Az.mk (bwT (by repeat (with_reducible first | exact bmv HB.out | refine bwS ?_ GE838.out)) hb);(try clear hb);(try clear hb2);(try clear hk);(try clear hi);(try clear ho0)))
           have n0_:=Az.mk (Kd.V_drew HO0.out);have n1_:=Az.mk (Kd.R_drew HO867.out);have n2_:=Az.mk (kD BK838.out);have n3_:=Az.mk (bw1 HB.out);clear HO0;clear HO867;clear BK838;clear HB;have HO0:=n0_;have HO867:=n1_;have BK838:=n2_;have HB:=n3_;clear n0_ n1_ n2_ n3_;refine start_ (n:=15) (S:=fun w'=>w'.cell? ⟨gb838,0,none⟩ = some (.int .i64 a2_0)∧w'.cell? ⟨gb838,1,none⟩ = some (.int .i64 a2_1)∧w'.cell? ⟨gb838,2,none⟩ = some (.bool a2_2)∧w'.cell? ⟨gb838,3,none⟩ = some (.int .i64 a2_3)∧w'.cell? ⟨gb838,4,none⟩ = some (.int .i64 a2_4)∧w'.cell? ⟨gb838,5,none⟩ = some (.int .i64 a2_5)∧w'.cell? ⟨gb838,6,none⟩ = some (.int .i64 a2_6)∧w'.cell? ⟨gb838,7,none⟩ = some (.slice A2_7 l2_7.length c2_7)∧w'.cell? ⟨gb838,8,none⟩ = some (.int .i64 a2_8)) (ds:=[]) #[false,false,false,false,false,false,false,false,false,false,false,false,false,false,false] (by kernel_rfl) rfl rfl ⟨(kC BK838.out 0).trans rfl,(kC BK838.out 1).trans rfl,(kC BK838.out 2).trans rfl,(kC BK838.out 3).trans rfl,(kC BK838.out 4).trans rfl,(kC BK838.out 5).trans rfl,(kC BK838.out 6).trans rfl,(kC BK838.out 7).trans rfl,(kC BK838.out 8).trans rfl⟩ (fun hHeld=>?_);refine with_tabW w4step.tab16 w4step.bits16 (fun HT_ HW_=>?_)
           generalize w41.drew = w42 at HO0 HO867 BK838 HB hHeld ⊢
           refine pure_ (i:=0) (N:=some 110) (v:=?_) (a':=?_) #[true,false,false,false,false,false,false,false,false,false,false,false,false,false,false] rfl rfl (any_of HT_.out (by kernel_rfl)) (fun _ _ _ h=>h) (Or.inl ⟨by rfl,?_⟩) ?_ ?_;rotate_left
           · intro w'
             go_simp
             with_reducible rfl
           rotate_left
           · simp only [Act.put,List.setIfInBounds_toArray,List.set_cons_zero,List.set_cons_succ,i64_w,i32_w]
             rfl
           refine pure_ (i:=1) (N:=some 111) (v:=?_) (a':=?_) #[true,true,false,false,false,false,false,false,false,false,false,false,false,false,false] rfl rfl (any_of HT_.out (by kernel_rfl)) (fun _ _ _ h=>h) (Or.inl ⟨by rfl,?_⟩) ?_ ?_;rotate_left
           · intro w'
             go_simp
             with_reducible rfl
           rotate_left
           · simp only [Act.put,List.setIfInBounds_toArray,List.set_cons_zero,List.set_cons_succ,i64_w,i32_w]
             rfl
           refine pure_ (i:=3) (N:=some 113) (v:=?_) (a':=?_) #[true,true,false,true,false,false,false,false,false,false,false,false,false,false,false] rfl rfl (any_of HT_.out (by kernel_rfl)) (fun _ _ _ h=>h) (Or.inl ⟨by rfl,?_⟩) ?_ ?_;rotate_left
           · intro w'
             go_simp
             with_reducible rfl
           rotate_left
           · simp only [Act.put,List.setIfInBounds_toArray,List.set_cons_zero,List.set_cons_succ,i64_w,i32_w]
             rfl
           refine pure_ (i:=5) (N:=some 115) (v:=?_) (a':=?_) #[true,true,false,true,false,true,false,false,false,false,false,false,false,false,false] rfl rfl (any_of HT_.out (by kernel_rfl)) (fun _ _ _ h=>h) (Or.inl ⟨by rfl,?_⟩) ?_ ?_;rotate_left
           · intro w'
             go_simp
             with_reducible rfl
           rotate_left
           · simp only [Act.put,List.setIfInBounds_toArray,List.set_cons_zero,List.set_cons_succ,i64_w,i32_w]
             rfl
           refine pure_ (i:=7) (N:=some 117) (v:=?_) (a':=?_) #[true,true,false,true,false,true,false,true,false,false,false,false,false,false,false] rfl rfl (any_of HT_.out (by kernel_rfl)) (fun _ _ _ h=>h) (Or.inl ⟨by rfl,?_⟩) ?_ ?_;rotate_left
           · intro w'
             go_simp
             with_reducible rfl
           rotate_left
           · simp only [Act.put,List.setIfInBounds_toArray,List.set_cons_zero,List.set_cons_succ,i64_w,i32_w]
             rfl
           refine take_ (i:=2) (N:=some 112) (v:=?_) (a':=?_) #[true,true,true,true,false,true,false,true,false,false,false,false,false,false,false] rfl rfl (take_ofW HT_.out HW_.out (by kernel_rfl)) (fun _ _ _ h=>h) (Or.inl ⟨by rfl,?_⟩) hHeld ?_ ?_;rotate_left
           · rintro w' ⟨s0,s1,s2,s3,s4,s5,s6,s7,s8⟩
             go_simp
             with_reducible rfl
           rotate_left
           · simp only [Act.put,List.setIfInBounds_toArray,List.set_cons_zero,List.set_cons_succ,i64_w,i32_w]
             rfl
           refine take_ (i:=4) (N:=some 114) (v:=?_) (a':=?_) #[true,true,true,true,true,true,false,true,false,false,false,false,false,false,false] rfl rfl (take_ofW HT_.out HW_.out (by kernel_rfl)) (fun _ _ _ h=>h) (Or.inl ⟨by rfl,?_⟩) hHeld ?_ ?_;rotate_left
           · rintro w' ⟨s0,s1,s2,s3,s4,s5,s6,s7,s8⟩
             go_simp
             with_reducible rfl
           rotate_left
           · simp only [Act.put,List.setIfInBounds_toArray,List.set_cons_zero,List.set_cons_succ,i64_w,i32_w]
             rfl
           refine one_ (i:=6) (N:=some 116) #[true,true,true,true,true,true,true,true,false,false,false,false,false,false,false] rfl rfl (one_of HT_.out (by kernel_rfl)) (by decide) (fun K hK=>?_);refine Kd.R_lit_step (Kd.int .i64) _ 3 ?hg (N:=116) ?hd (xs:=([] : List Int)) (inner:=[]) (ok:=fun _=>True) (okp:=fun _=>True) ?hr ?hp (fun _ hk=>hk) trivial (Below.refl _ _) (Nat.le_refl _) (by simp) ?_;(case hd=>rfl);(case hg=>rfl);(case hr=>exact gr_);(case hp=>exact (Reps.none _ _));intro v869 w43 ho44 hb hg_ hnew_;clear hg_ hnew_
           (first | rw [← Ny868.out] at ho44 | (simp only [Int.reduceToNat] at ho44;rw [← Ny868.out] at ho44))
           have n0_:=Az.mk (Kd.V_elder' (V_mv HO0.out) (Kd.R_base ho44) hb);have n1_:=Az.mk (Kd.R_elder' (R_mv HO867.out) (Kd.R_base ho44) hb);have n2_:=Az.mk (Kd.R_lower (Kd.R_new' (Kd.R_newM (M:=fun k_=>(w.heap.size≤k_)) ho44 (bwZ (by repeat (with_reducible first | exact bmv HB.out | refine bwS ?_ GE838.out))) (fun k_ h_=>h_)) (Kd.R_lt (R_mv HO867.out))) (bwZ (by repeat (with_reducible first | exact bmv HB.out | refine bwS ?_ GE838.out))));have n3_:=Az.mk (kB (blk_mv BK838.out) hb);have n4_:=Az.mk (bwT (by repeat (with_reducible first | exact bmv HB.out | refine bwS ?_ GE838.out)) hb);clear HO0;clear HO867;clear BK838;clear HB;have HO0:=n0_;have HO867:=n1_;have HO870:=n2_;have BK838:=n3_;have HB:=n4_;clear n0_ n1_ n2_ n3_ n4_;clear hb ho44;obtain ⟨Ao46,co46,eo46⟩:=Kd.R_slice HO867.out
           (first | subst eo46 | (injection eo46 with f1_ f2_ f3_;have f4_:=f1_.symm;have f5_:=f3_.symm;clear f1_ f2_ f3_;subst f4_;subst f5_))
           refine hK.out _ _ ⟨(kC BK838.out 0).trans rfl,(kC BK838.out 1).trans rfl,(kC BK838.out 2).trans rfl,(kC BK838.out 3).trans rfl,(kC BK838.out 4).trans rfl,(kC BK838.out 5).trans rfl,(kC BK838.out 6).trans rfl,(kC BK838.out 7).trans rfl,(kC BK838.out 8).trans rfl⟩ (fun hHeld=>?_);clear hK K;refine norm_ (a':=?_) ?_ ?_;rotate_left
           · show Act.put _ (some 116) _ = _
             simp only [Act.put,List.setIfInBounds_toArray,List.set_cons_zero,List.set_cons_succ,i64_w,i32_w]
             rfl
           refine one_ (i:=8) (N:=some 118) #[true,true,true,true,true,true,true,true,true,false,false,false,false,false,false] rfl rfl (one_of HT_.out (by kernel_rfl)) (by decide) (fun K hK=>?_);refine Kd.R_append_rows_step (Kd.int .i64) (w0:=w) w.heap.size (by rfl) (.tmp 116) (.tmp 117) 27 3 (.int .i64 0) 8 rfl Tryd.underlying27 info3 rfl (by decide) (by omega) v869 y868 t865 _ _ _ (fun k_=>(w.heap.size≤k_)∧some k_≠(.slice Ao46 t865.length co46 : Value).ownBlock) (fun _=>False) rfl rfl ?aO ?aR (fun _ _ h=>h) (fun _ h=>h.elim) ?aF ?aB ?aS ?aL ?_
           (case aR=>repeat (first | exact (Kd.R_reads' HO867.out).2.2 | (with_reducible refine Kd.C_alloc ?_ _) | (with_reducible refine Kd.C_drewN ?_ _) | (with_reducible refine Kd.C_drew ?_)))
           (case aB=>exact (by repeat (with_reducible first | exact bmv HB.out | refine bwS ?_ GE838.out)))
           (case aF=>exact (fun k_ hk=>⟨(Nat.le_trans (bwZ (by repeat (with_reducible first | exact bmv HB.out | refine bwS ?_ GE838.out))) hk),Kd.fresh' (Kd.R_lt (R_mv HO867.out)) k_ hk⟩))
           (case aO=>exact (R_mv (Kd.R_mono HO870.out (fun _ hk=>⟨hk.1.1,hk.2⟩))))
           (case aS=>exact (bwZ (by repeat (with_reducible first | exact bmv HB.out | refine bwS ?_ GE838.out))))
           (case aL=>have:=LMc36.out;omega)
           intro v872 w45 ho hb hg hat;rw [← Ny871.out] at ho;have n0_:=Az.mk (Kd.V_afterv (ok:=(fun k_=>(P0_ k_∨w.heap.size≤k_)∧some k_≠(.slice Ao46 t865.length co46 : Value).ownBlock∧k_≠gb838)) (V_mv (Kd.V_mono HO0.out (fun _ hk=>⟨⟨hk.1.1.1,⟨hk.1.2,hk.1.1.2⟩⟩,hk.2⟩))) hg hat);have n1_:=Az.mk (blk_grown (g:=gb838) (o:=.cells #[.int .i64 a2_0,.int .i64 a2_1,.bool a2_2,.int .i64 a2_3,.int .i64 a2_4,.int .i64 a2_5,.int .i64 a2_6,.slice A2_7 l2_7.length c2_7,.int .i64 a2_8] 32 (0,0)) (blk_mv BK838.out) hg (Kd.R_ne HO870.out BK838.out (by decide)));have n2_:=Az.mk (Kd.R_after (ok:=(fun k_=>(w.heap.size≤k_))) (R_mv (Kd.R_mono HO867.out (fun _ hk=>⟨hk.1.1,hk.2⟩))) hg hat);have n3_:=Az.mk (hb);have n4_:=Az.mk (ho);clear HO0;clear BK838;clear HO867;clear HB;clear HO870;have HO0:=n0_;have BK838:=n1_;have HO867:=n2_;have HB:=n3_;have HO873:=n4_;clear n0_ n1_ n2_ n3_ n4_;clear ho hb hg hat;obtain ⟨Ao47,co47,eo47⟩:=Kd.R_slice HO873.out
           (first | subst eo47 | (injection eo47 with f1_ f2_ f3_;have f4_:=f1_.symm;have f5_:=f3_.symm;clear f1_ f2_ f3_;subst f4_;subst f5_))
           refine hK.out _ _ ⟨(kC BK838.out 0).trans rfl,(kC BK838.out 1).trans rfl,(kC BK838.out 2).trans rfl,(kC BK838.out 3).trans rfl,(kC BK838.out 4).trans rfl,(kC BK838.out 5).trans rfl,(kC BK838.out 6).trans rfl,(kC BK838.out 7).trans rfl,(kC BK838.out 8).trans rfl⟩ (fun hHeld=>?_);clear hK K;refine norm_ (a':=?_) ?_ ?_;rotate_left
           · show Act.put _ (some 118) _ = _
             simp only [Act.put,List.setIfInBounds_toArray,List.set_cons_zero,List.set_cons_succ,i64_w,i32_w]
             rfl
           refine one_ (i:=9) (N:=some 119) #[true,true,true,true,true,true,true,true,true,true,false,false,false,false,false] rfl rfl (one_of HT_.out (by kernel_rfl)) (by decide) (fun K hK=>?_);refine goes_ Tryd.func31 (by kernel_rfl) rfl #[.slice A0 l0.length c0,.int .i64 a2_1,.agg #[.bool a2_2,.int .i64 a2_3,.int .i64 a2_4,.int .i64 a2_5,.int .i64 a2_6,.slice A2_7 l2_7.length c2_7],.slice Ao46 t865.length co46,.slice Ao47 y871.length co47] (by rfl) rfl rfl tl_ ?_
           with_reducible refine (tree_Merge.calls (hrG:=?sideG) k _ _ l0 a2_1 a2_2 a2_3 a2_4 a2_5 a2_6 (fun k_=>k_ < w.heap.size) _ _ l2_7 _ _ t865 _ _ y871 t874 t877 _ ?side1 ?side2 ?side3 ?side4 ?side5 ?side6 ?side7 A37.out).mono ?_
           (case sideG=>(first | (with_reducible exact HRG.out) | exact TabG.below HRG.out (by repeat (first | (with_reducible first | exact HB.out | apply bwA | apply bwN | apply bw1 | refine bwS ?_ GE838.out) | (with_reducible exact Below.refl _ _)))))
           (case side1=>exact C_mv ((Kd.V_reads' HO0.out).2.2))
           (case side2=>exact (Kd.V_reads' HO0.out).2.1)
           (case side3=>exact Kd.V_mk HC2_7.out (Kd.F_below (Kd.C_F (Kd.heap_int .i64) HR2_7.out) (by repeat (with_reducible first | exact bmv HB.out | refine bwS ?_ GE838.out))))
           (case side4=>exact C_mv ((Kd.R_reads' HO867.out).2.2))
           (case side5=>exact (Kd.R_reads' HO867.out).2.1)
           (case side6=>exact C_mv ((Kd.R_reads' HO873.out).2.2))
           (case side7=>exact (Kd.R_reads' HO873.out).2.1)
           rintro e w48 ⟨v875,rfl,ho0,hb⟩;refine ⟨_,rfl,?_⟩;have n0_:=Az.mk (Kd.V_elder' (V_mv HO0.out) (Kd.S_base ho0) hb);have n1_:=Az.mk (Kd.R_below (R_mv HO867.out) hb);have n2_:=Az.mk (Kd.R_below (R_mv HO873.out) hb);have n3_:=Az.mk (Kd.S_lower (Kd.S_new' (Kd.S_new' (Kd.S_newM (M:=fun k_=>(w.heap.size≤k_)) (Kd.S_mono (ok':=fun k_=>True) ho0 (fun _ hk_=>trivial)) (bwZ (by repeat (with_reducible first | exact bmv HB.out | refine bwS ?_ GE838.out))) (fun k_ h_=>h_)) (Kd.R_lt (R_mv HO867.out))) (Kd.R_lt (R_mv HO873.out))) (bwZ (by repeat (with_reducible first | exact bmv HB.out | refine bwS ?_ GE838.out))));have n4_:=Az.mk (kB (blk_mv BK838.out) hb);have n5_:=Az.mk (bwT (by repeat (with_reducible first | exact bmv HB.out | refine bwS ?_ GE838.out)) hb);clear HO0;clear HO867;clear HO873;clear BK838;clear HB;have HO0:=n0_;have HO867:=n1_;have HO873:=n2_;have HO876:=n3_;have BK838:=n4_;have HB:=n5_;clear n0_ n1_ n2_ n3_ n4_ n5_
           (try clear hb)
           (try clear hb2)
           (try clear hk)
           (try clear hi)
           (try clear ho0)
           refine hK.out _ _ ⟨(kC BK838.out 0).trans rfl,(kC BK838.out 1).trans rfl,(kC BK838.out 2).trans rfl,(kC BK838.out 3).trans rfl,(kC BK838.out 4).trans rfl,(kC BK838.out 5).trans rfl,(kC BK838.out 6).trans rfl,(kC BK838.out 7).trans rfl,(kC BK838.out 8).trans rfl⟩ (fun hHeld=>?_);clear hK K;refine norm_ (a':=?_) ?_ ?_;rotate_left
           · show Act.put _ (some 119) _ = _
             simp only [Act.put,List.setIfInBounds_toArray,List.set_cons_zero,List.set_cons_succ,i64_w,i32_w]
             rfl
           refine pure_ (i:=10) (N:=some 109) (v:=?_) (a':=?_) #[true,true,true,true,true,true,true,true,true,true,true,false,false,false,false] rfl rfl (any_of HT_.out (by kernel_rfl)) (fun _ _ _ h=>h) (Or.inl ⟨by rfl,?_⟩) ?_ ?_;rotate_left
           · intro w'
             go_simp
             with_reducible rfl
           rotate_left
           · simp only [Act.put,List.setIfInBounds_toArray,List.set_cons_zero,List.set_cons_succ,i64_w,i32_w]
             rfl
           refine pure_ (i:=11) (N:=some 120) (v:=?_) (a':=?_) #[true,true,true,true,true,true,true,true,true,true,true,true,false,false,false] rfl rfl (any_of HT_.out (by kernel_rfl)) (fun _ _ _ h=>h) (Or.inl ⟨by rfl,?_⟩) ?_ ?_;rotate_left
           · intro w'
             go_simp
             with_reducible rfl
           rotate_left
           · simp only [Act.put,List.setIfInBounds_toArray,List.set_cons_zero,List.set_cons_succ,i64_w,i32_w]
             rfl
           refine pure_ (i:=12) (N:=some 121) (v:=?_) (a':=?_) #[true,true,true,true,true,true,true,true,true,true,true,true,true,false,false] rfl rfl (any_of HT_.out (by kernel_rfl)) (fun _ _ _ h=>h) (Or.inl ⟨by rfl,?_⟩) ?_ ?_;rotate_left
           · intro w'
             go_simp
             with_reducible rfl
           rotate_left
           · simp only [Act.put,List.setIfInBounds_toArray,List.set_cons_zero,List.set_cons_succ,i64_w,i32_w]
             rfl
           refine pure_ (i:=13) (N:=some 24) (v:=?_) (a':=?_) #[true,true,true,true,true,true,true,true,true,true,true,true,true,true,false] rfl rfl (any_of HT_.out (by kernel_rfl)) (fun _ _ _ h=>h) (Or.inl ⟨by rfl,?_⟩) ?_ ?_;rotate_left
           · intro w'
             go_simp
             with_reducible rfl
           rotate_left
           · simp only [Act.put,List.setIfInBounds_toArray,List.set_cons_zero,List.set_cons_succ,i64_w,i32_w]
             rfl
           refine pure_ (i:=14) (N:=some 25) (v:=?_) (a':=?_) #[true,true,true,true,true,true,true,true,true,true,true,true,true,true,true] rfl rfl (any_of HT_.out (by kernel_rfl)) (fun _ _ _ h=>h) (Or.inl ⟨by rfl,?_⟩) ?_ ?_;rotate_left
           · intro w'
             go_simp
             with_reducible rfl
           rotate_left
           · simp only [Act.put,List.setIfInBounds_toArray,List.set_cons_zero,List.set_cons_succ,i64_w,i32_w]
             rfl
           refine done_ (done_of HT_.out (by kernel_rfl)) ?_;have hcz49_0 : w48.cell? ⟨gb838,0,none⟩ = some (.int .i64 a2_0):=(kC BK838.out 0).trans rfl;have hcz49_1 : w48.cell? ⟨gb838,1,none⟩ = some (.int .i64 a2_1):=(kC BK838.out 1).trans rfl;have hcz49_2 : w48.cell? ⟨gb838,2,none⟩ = some (.bool a2_2):=(kC BK838.out 2).trans rfl;have hcz49_3 : w48.cell? ⟨gb838,3,none⟩ = some (.int .i64 a2_3):=(kC BK838.out 3).trans rfl;have hcz49_4 : w48.cell? ⟨gb838,4,none⟩ = some (.int .i64 a2_4):=(kC BK838.out 4).trans rfl;have hcz49_5 : w48.cell? ⟨gb838,5,none⟩ = some (.int .i64 a2_5):=(kC BK838.out 5).trans rfl;have hcz49_6 : w48.cell? ⟨gb838,6,none⟩ = some (.int .i64 a2_6):=(kC BK838.out 6).trans rfl;have hcz49_7 : w48.cell? ⟨gb838,7,none⟩ = some (.slice A2_7 l2_7.length c2_7):=(kC BK838.out 7).trans rfl;have hcz49_8 : w48.cell? ⟨gb838,8,none⟩ = some (.int .i64 a2_8):=(kC BK838.out 8).trans rfl;have hfz49_0:=kF BK838.out 0;have hfz49_1:=kF BK838.out 1;have hfz49_2:=kF BK838.out 2;have hfz49_3:=kF BK838.out 3;have hfz49_4:=kF BK838.out 4;have hfz49_5:=kF BK838.out 5;have hfz49_6:=kF BK838.out 6;have hfz49_7:=kF BK838.out 7;have hfz49_8:=kF BK838.out 8
           try go_wp2_with (first | ((with_reducible refine gate_callee (f:=49) rfl ?_);refine goesL_ (some 130) rfl rfl Tryd.func49 (by kernel_rfl) rfl #[.slice A1 l1.length c1,.int .i64 a2_1,.agg #[.bool a2_2,.int .i64 a2_3,.int .i64 a2_4,.int .i64 a2_5,.int .i64 a2_6,.slice A2_7 l2_7.length c2_7],.slice Ao46 t865.length co46,.slice Ao46 t865.length co46] rfl tl_ ?_;(with_reducible refine (r4Merge.calls k _ _ l1 a2_1 a2_2 a2_3 a2_4 a2_5 a2_6 (fun k_=>k_ < w.heap.size) _ _ l2_7 _ _ t865 _ _ t865 t878 t881 _ ?side1 ?side2 ?side3 ?side4 ?side5 ?side6 ?side7 A38.out).mono ?_);(case side1=>exact C_mv ((Kd.C_below HR1.out HB.out)));(case side2=>exact HC1.out);(case side3=>exact Kd.V_mk HC2_7.out (Kd.F_below (Kd.C_F (Kd.heap_int .i64) HR2_7.out) (by repeat (with_reducible first | exact bmv HB.out | refine bwS ?_ GE838.out))));(case side4=>exact C_mv ((Kd.R_reads' HO867.out).2.2));(case side5=>exact (Kd.R_reads' HO867.out).2.1);(case side6=>exact C_mv ((Kd.R_reads' HO867.out).2.2));(case side7=>exact (Kd.R_reads' HO867.out).2.1);rintro e w50 ⟨v879,rfl,ho0,hb⟩;refine ⟨_,rfl,?_⟩;have n0_:=Az.mk (Kd.V_elder' (V_mv HO0.out) (Kd.S_base ho0) hb);have n1_:=Az.mk (Kd.R_below (R_mv HO867.out) hb);have n2_:=Az.mk (Kd.R_below (R_mv HO873.out) hb);have n3_:=Az.mk (Kd.S_elder' (S_mv HO876.out) (Kd.S_base ho0) hb);have n4_:=Az.mk (Kd.S_lower (Kd.S_new' (Kd.S_new' (Kd.S_new' (Kd.S_newM (M:=fun k_=>(w.heap.size≤k_)) (Kd.S_mono (ok':=fun k_=>True) ho0 (fun _ hk_=>trivial)) (bwZ (by repeat (with_reducible first | exact bmv HB.out | refine bwS ?_ GE838.out))) (fun k_ h_=>h_)) (Kd.R_lt (R_mv HO867.out))) (Kd.R_lt (R_mv HO873.out))) (Kd.S_lt (S_mv HO876.out))) (bwZ (by repeat (with_reducible first | exact bmv HB.out | refine bwS ?_ GE838.out))));have n5_:=Az.mk (kB (blk_mv BK838.out) hb);have n6_:=Az.mk (bwT (by repeat (with_reducible first | exact bmv HB.out | refine bwS ?_ GE838.out)) hb);clear HO0;clear HO867;clear HO873;clear HO876;clear BK838;clear HB;have HO0:=n0_;have HO867:=n1_;have HO873:=n2_;have HO876:=n3_;have HO880:=n4_;have BK838:=n5_;have HB:=n6_;clear n0_ n1_ n2_ n3_ n4_ n5_ n6_;(try clear hb);(try clear hb2);(try clear hk);(try clear hi);(try clear ho0)))
           go_ret3
           exact ⟨_,_,by first | rfl | (simp [errW_none,errW_some] <;> rfl) | (simp [*,errW_none,errW_some] <;> rfl),(V_mv (Kd.V_mono (Kd.S_V HO876.out) (fun k_ hk=>⟨.inr (hk.1.1.1.1),hk.2⟩))),S_mv (Kd.S_mono HO880.out (fun _ hk=>hk.1.1.1.1)),by repeat (with_reducible first | exact bmv HB.out | refine bwS ?_ GE838.out)⟩
         · rw [if_neg c36] at H
           exact absurd H (by simp)
       · rw [if_neg c34] at H
         have c34b0 : (a2_0 == 4) = false:=beq_eq_false_iff_ne.mpr c34;have c34b1 : (a2_0 != 4) = true:=bne_iff_ne.mpr c34;simp only [Option.some.injEq,Prod.mk.injEq] at H;obtain ⟨rfl,rfl,rfl⟩:=H
         go_enter Tryd.func36,Tryd.ntmps36
         go_wp2_with (first | ((with_reducible refine gate_dst (N:=5) rfl ?_);refine box_event ?hg (N:=5) ?hd (cs:=#[.int .i64 a2_0,.int .i64 a2_1,.bool a2_2,.int .i64 a2_3,.int .i64 a2_4,.int .i64 a2_5,.int .i64 a2_6,.slice A2_7 l2_7.length c2_7,.int .i64 a2_8]) (t:=32) ?hr ?_;(case hd=>rfl);(case hg=>rfl);(case hr=>exact gr_);intro gb838 hg w51 hbox hb;have BK838:=Az.mk (hbox);have GW838:=Az.mk ((by rw [hg];exact (bwZ (bmv HB.out)) : w.heap.size≤gb838));have GE838:=Az.mk ((by rw [hg];exact (bwZ (bmv HB.out)) : w.heap.size≤gb838));replace HO0:=Az.mk (Kd.V_below (Kd.V_elderB (V_mv HO0.out) gb838 (Nat.le_of_eq hg.symm)) hb);replace HB:=Az.mk (bwT (bmv HB.out) hb);clear hb hbox hg;obtain ⟨⟨hcz52_0,hcz52_1,hcz52_2,hcz52_3,hcz52_4,hcz52_5,hcz52_6,hcz52_7,hcz52_8⟩,hfz52_0,hfz52_1,hfz52_2,hfz52_3,hfz52_4,hfz52_5,hfz52_6,hfz52_7,hfz52_8⟩:=cells9 BK838.out))
         go_ret3
         exact ⟨_,_,by first | rfl | (simp [errW_none,errW_some] <;> rfl) | (simp [*,errW_none,errW_some] <;> rfl),Kd.V_nil _ _ _ _ _,by first | exact Kd.S_nil _ _ _ _ _ | exact Kd.N_nil _ _ _ _ _ | exact Kd.V_nil _ _ _ _ _ | exact Kd.Q_nil _ _ _ _ _ | exact Kd.R_nil _ _ _ _ _,by repeat (with_reducible first | exact bmv HB.out | refine bwS ?_ GE838.out)⟩
end Go.Proofs.YtbblomnhobodkaaDoor.PTw
namespace Go.Proofs.YtbblomnhobodkaaDoor.PTw
open Go.RowKit Go.Proofs.YtbblomnhobodkaaDoorW.PW Go.Proofs.YtbblomnhobodkaaDoorW.PL Go.Proofs.YtbblomnhobodkaaDoorW.PM
attribute [local go_sem] max2_int min2_int max_two min_two max_three min_three max_four min_four   -- for this text's walks alone
set_option linter.unusedVariables false
set_option linter.unusedSimpArgs false
mutual
def w4TreePlays.l0 : Nat→List (S29)→List (S29)→List (S32)→Int→Int→Option (Bool)
 | 0,_,_,_,_,_=>none
 | k + 1,x5,x6,x27,x28,x29=>if x29 < x28 then (if 0≤x29 then (if x29 < (x27.length : Int) then ((r4Same.f k x5 x6).bind fun t901=>(if t901 = true then ((tree_Check.f k x5).bind fun t902=>(w4TreePlays.j1 k x5 x6 x27 x28 x29 (!t902) ((rd_T32 x27 x29).f0) ((rd_T32 x27 x29).f1) ((rd_T32 x27 x29).f2.f0) ((rd_T32 x27 x29).f2.f1) ((rd_T32 x27 x29).f2.f2) ((rd_T32 x27 x29).f2.f3) ((rd_T32 x27 x29).f2.f4) ((rd_T32 x27 x29).f2.f5) ((rd_T32 x27 x29).f3))) else (w4TreePlays.j1 k x5 x6 x27 x28 x29 true ((rd_T32 x27 x29).f0) ((rd_T32 x27 x29).f1) ((rd_T32 x27 x29).f2.f0) ((rd_T32 x27 x29).f2.f1) ((rd_T32 x27 x29).f2.f2) ((rd_T32 x27 x29).f2.f3) ((rd_T32 x27 x29).f2.f4) ((rd_T32 x27 x29).f2.f5) ((rd_T32 x27 x29).f3)))) else (none)) else (none)) else ((r4Same.f k x5 x6).bind fun t898=>(some t898))
def w4TreePlays.j1 : Nat→List (S29)→List (S29)→List (S32)→Int→Int→Bool→Int→Int→Bool→Int→Int→Int→Int→List Int→Int→Option (Bool)
 | 0,_,_,_,_,_,_,_,_,_,_,_,_,_,_,_=>none
 | k + 1,x5,x6,x27,x28,x29,x41,x901000,x901001,x901002,x901003,x901004,x901005,x901006,x901007,x901008=>if x41 = true then (some false) else ((w4step.f k x5 x6 x901000 x901001 x901002 x901003 x901004 x901005 x901006 x901007 x901008).bind fun bt903=>(if bt903.2.2 = true then ((r4Same.f k bt903.1 bt903.2.1).bind fun t910=>(if t910 = true then ((r4Same.f k x5 x6).bind fun t911=>(w4TreePlays.j2 k x5 x6 bt903.1 bt903.2.1 x27 x28 x29 (!t911) x901000 x901001 x901002 x901003 x901004 x901005 x901006 x901007 x901008)) else (w4TreePlays.j2 k x5 x6 bt903.1 bt903.2.1 x27 x28 x29 true x901000 x901001 x901002 x901003 x901004 x901005 x901006 x901007 x901008))) else (w4TreePlays.j2 k x5 x6 bt903.1 bt903.2.1 x27 x28 x29 true x901000 x901001 x901002 x901003 x901004 x901005 x901006 x901007 x901008)))
def w4TreePlays.j2 : Nat→List (S29)→List (S29)→List (S29)→List (S29)→List (S32)→Int→Int→Bool→Int→Int→Bool→Int→Int→Int→Int→List Int→Int→Option (Bool)
 | 0,_,_,_,_,_,_,_,_,_,_,_,_,_,_,_,_,_=>none
 | k + 1,x5,x6,x9,x10,x27,x28,x29,x63,x901000,x901001,x901002,x901003,x901004,x901005,x901006,x901007,x901008=>if x63 = true then (some false) else (if (x10.length : Int) > 0 then (w4TreePlays.j3 k x9 x10 x27 x28 x29 x901000 x901001 x901002 x901003 x901004 x901005 x901006 x901007 x901008) else (w4TreePlays.j3 k x5 x6 x27 x28 x29 x901000 x901001 x901002 x901003 x901004 x901005 x901006 x901007 x901008))
def w4TreePlays.j3 : Nat→List (S29)→List (S29)→List (S32)→Int→Int→Int→Int→Bool→Int→Int→Int→Int→List Int→Int→Option (Bool)
 | 0,_,_,_,_,_,_,_,_,_,_,_,_,_,_=>none
 | k + 1,x5,x6,x27,x28,x29,x901000,x901001,x901002,x901003,x901004,x901005,x901006,x901007,x901008=>(tree_Members.f k x5).bind fun t912=>((r4Members.f k x6).bind fun t915=>((r1Ints.f k t912 t915).bind fun t918=>(if t918 = true then ((tree_Leaves.f x5).bind fun t919=>((r4Leaves.f x6).bind fun t920=>(w4TreePlays.j4 k x5 x6 x27 x28 x29 (t919 != t920) x901000 x901001 x901002 x901003 x901004 x901005 x901006 x901007 x901008))) else (w4TreePlays.j4 k x5 x6 x27 x28 x29 true x901000 x901001 x901002 x901003 x901004 x901005 x901006 x901007 x901008))))
def w4TreePlays.j4 : Nat→List (S29)→List (S29)→List (S32)→Int→Int→Bool→Int→Int→Bool→Int→Int→Int→Int→List Int→Int→Option (Bool)
 | 0,_,_,_,_,_,_,_,_,_,_,_,_,_,_,_=>none
 | k + 1,x5,x6,x27,x28,x29,x81,x901000,x901001,x901002,x901003,x901004,x901005,x901006,x901007,x901008=>if x81 = true then (some false) else (if x901001 < 0 then (w4TreePlays.j5 k x5 x6 (wrap64 ((wrap64 (2 * x901001)) + x901008)) x27 x28 x29 true x901000 x901001 x901002 x901003 x901004 x901005 x901006 x901007 x901008) else (if x901001 > 100 then (w4TreePlays.j5 k x5 x6 (wrap64 ((wrap64 (2 * x901001)) + x901008)) x27 x28 x29 true x901000 x901001 x901002 x901003 x901004 x901005 x901006 x901007 x901008) else (if x901008 < (-100) then (w4TreePlays.j5 k x5 x6 (wrap64 ((wrap64 (2 * x901001)) + x901008)) x27 x28 x29 true x901000 x901001 x901002 x901003 x901004 x901005 x901006 x901007 x901008) else (w4TreePlays.j5 k x5 x6 (wrap64 ((wrap64 (2 * x901001)) + x901008)) x27 x28 x29 (decide (x901008 > 100)) x901000 x901001 x901002 x901003 x901004 x901005 x901006 x901007 x901008))))
def w4TreePlays.j5 : Nat→List (S29)→List (S29)→Int→List (S32)→Int→Int→Bool→Int→Int→Bool→Int→Int→Int→Int→List Int→Int→Option (Bool)
 | 0,_,_,_,_,_,_,_,_,_,_,_,_,_,_,_,_=>none
 | k + 1,x5,x6,x12,x27,x28,x29,x105,x901000,x901001,x901002,x901003,x901004,x901005,x901006,x901007,x901008=>if x105 = true then (w4TreePlays.j6 k x5 x6 (-1) x27 x28 x29 x901000 x901001 x901002 x901003 x901004 x901005 x901006 x901007 x901008) else (w4TreePlays.j6 k x5 x6 x12 x27 x28 x29 x901000 x901001 x901002 x901003 x901004 x901005 x901006 x901007 x901008)
def w4TreePlays.j6 : Nat→List (S29)→List (S29)→Int→List (S32)→Int→Int→Int→Int→Bool→Int→Int→Int→Int→List Int→Int→Option (Bool)
 | 0,_,_,_,_,_,_,_,_,_,_,_,_,_,_,_=>none
 | k + 1,x5,x6,x12,x27,x28,x29,x901000,x901001,x901002,x901003,x901004,x901005,x901006,x901007,x901008=>(tree_Filtered.f k x5 x901001).bind fun bt921=>((r4Filtered.f k x6 x901001).bind fun bt927=>((r1Ints.f k bt921.1 bt927.1).bind fun t933=>(if t933 = true then ((r1Ints.f k bt921.2 bt927.2).bind fun t934=>(if t934 = true then ((tree_Resolution.f k x5 x12).bind fun t935=>((r4Resolution.f k x6 x12).bind fun t938=>((r1Ints.f k t935 t938).bind fun t941=>(if t941 = true then (w4TreePlays.l0 k x5 x6 x27 x28 (wrap64 (x29 + 1))) else (some false))))) else (some false))) else (some false))))
end
def w4TreePlays.f (k : Nat) (a0_0 : Bool) (a0_1 : Int) (a0_2 : Int) (a0_3 : Int) (a0_4 : Int) (l0_5 : List Int) (l1 : List (S32)) : Option (Bool):=(w4anchor.f k).bind fun t883=>(if t883 = true then (if (l1.length : Int) > 300 then (some true) else ((tree_New.f a0_0 a0_1 a0_2 a0_3 a0_4 l0_5).bind fun t884=>((r4Leaf.f a0_0 a0_1 a0_2 a0_3 a0_4 l0_5).bind fun bt887=>(w4TreePlays.l0 k t884 (([(⟨bt887.1,bt887.2.1,bt887.2.2.1,bt887.2.2.2.1,bt887.2.2.2.2.1,bt887.2.2.2.2.2⟩ : S29)] : List (S29))) l1 (l1.length : Int) 0)))) else (some false))
theorem w4TreePlays.mono_l : ∀ k,(∀ y0 y1 y2 y3 y4,LeO (w4TreePlays.l0 k y0 y1 y2 y3 y4) (w4TreePlays.l0 (k + 1) y0 y1 y2 y3 y4))∧(∀ y0 y1 y2 y3 y4 y5 y6 y7 y8 y9 y10 y11 y12 y13 y14,LeO (w4TreePlays.j1 k y0 y1 y2 y3 y4 y5 y6 y7 y8 y9 y10 y11 y12 y13 y14) (w4TreePlays.j1 (k + 1) y0 y1 y2 y3 y4 y5 y6 y7 y8 y9 y10 y11 y12 y13 y14))∧(∀ y0 y1 y2 y3 y4 y5 y6 y7 y8 y9 y10 y11 y12 y13 y14 y15 y16,LeO (w4TreePlays.j2 k y0 y1 y2 y3 y4 y5 y6 y7 y8 y9 y10 y11 y12 y13 y14 y15 y16) (w4TreePlays.j2 (k + 1) y0 y1 y2 y3 y4 y5 y6 y7 y8 y9 y10 y11 y12 y13 y14 y15 y16))∧(∀ y0 y1 y2 y3 y4 y5 y6 y7 y8 y9 y10 y11 y12 y13,LeO (w4TreePlays.j3 k y0 y1 y2 y3 y4 y5 y6 y7 y8 y9 y10 y11 y12 y13) (w4TreePlays.j3 (k + 1) y0 y1 y2 y3 y4 y5 y6 y7 y8 y9 y10 y11 y12 y13))∧(∀ y0 y1 y2 y3 y4 y5 y6 y7 y8 y9 y10 y11 y12 y13 y14,LeO (w4TreePlays.j4 k y0 y1 y2 y3 y4 y5 y6 y7 y8 y9 y10 y11 y12 y13 y14) (w4TreePlays.j4 (k + 1) y0 y1 y2 y3 y4 y5 y6 y7 y8 y9 y10 y11 y12 y13 y14))∧(∀ y0 y1 y2 y3 y4 y5 y6 y7 y8 y9 y10 y11 y12 y13 y14 y15,LeO (w4TreePlays.j5 k y0 y1 y2 y3 y4 y5 y6 y7 y8 y9 y10 y11 y12 y13 y14 y15) (w4TreePlays.j5 (k + 1) y0 y1 y2 y3 y4 y5 y6 y7 y8 y9 y10 y11 y12 y13 y14 y15))∧(∀ y0 y1 y2 y3 y4 y5 y6 y7 y8 y9 y10 y11 y12 y13 y14,LeO (w4TreePlays.j6 k y0 y1 y2 y3 y4 y5 y6 y7 y8 y9 y10 y11 y12 y13 y14) (w4TreePlays.j6 (k + 1) y0 y1 y2 y3 y4 y5 y6 y7 y8 y9 y10 y11 y12 y13 y14))
 | 0=>⟨fun _ _ _ _ _ r h=>by simp [w4TreePlays.l0] at h,fun _ _ _ _ _ _ _ _ _ _ _ _ _ _ _ r h=>by simp [w4TreePlays.j1] at h,fun _ _ _ _ _ _ _ _ _ _ _ _ _ _ _ _ _ r h=>by simp [w4TreePlays.j2] at h,fun _ _ _ _ _ _ _ _ _ _ _ _ _ _ r h=>by simp [w4TreePlays.j3] at h,fun _ _ _ _ _ _ _ _ _ _ _ _ _ _ _ r h=>by simp [w4TreePlays.j4] at h,fun _ _ _ _ _ _ _ _ _ _ _ _ _ _ _ _ r h=>by simp [w4TreePlays.j5] at h,fun _ _ _ _ _ _ _ _ _ _ _ _ _ _ _ r h=>by simp [w4TreePlays.j6] at h⟩
 | k + 1=>by
  obtain ⟨ih0,ih1,ih2,ih3,ih4,ih5,ih6⟩:=w4TreePlays.mono_l k;refine ⟨?_,?_,?_,?_,?_,?_,?_⟩
  ·
   intro y0 y1 y2 y3 y4;unfold w4TreePlays.l0
   repeat' first
   | (with_reducible exact ih0 _ _ _ _ _)
   | (with_reducible exact ih1 _ _ _ _ _ _ _ _ _ _ _ _ _ _ _)
   | (with_reducible exact ih2 _ _ _ _ _ _ _ _ _ _ _ _ _ _ _ _ _)
   | (with_reducible exact ih3 _ _ _ _ _ _ _ _ _ _ _ _ _ _)
   | (with_reducible exact ih4 _ _ _ _ _ _ _ _ _ _ _ _ _ _ _)
   | (with_reducible exact ih5 _ _ _ _ _ _ _ _ _ _ _ _ _ _ _ _)
   | (with_reducible exact ih6 _ _ _ _ _ _ _ _ _ _ _ _ _ _ _)
   | (with_reducible exact w4anchor.mono _)
   | (with_reducible exact w4step.mono _ _ _ _ _ _ _ _ _ _ _ _)
   | (with_reducible exact r1Ints.mono _ _ _)
   | (with_reducible exact r4Filtered.mono _ _ _)
   | (with_reducible exact r4Members.mono _ _)
   | (with_reducible exact r4Resolution.mono _ _ _)
   | (with_reducible exact r4Same.mono _ _ _)
   | (with_reducible exact tree_Check.mono _ _)
   | (with_reducible exact tree_Filtered.mono _ _ _)
   | (with_reducible exact tree_Members.mono _ _)
   | (with_reducible exact tree_Resolution.mono _ _ _)
   | (with_reducible exact LeO.refl _)
   | (with_reducible exact LeO.none _)
   | (with_reducible refine LeO.ite ?_ ?_)
   | (with_reducible refine LeO.bind ?_ (fun _=>?_))
   | exact ih0 _ _ _ _ _
   | exact ih1 _ _ _ _ _ _ _ _ _ _ _ _ _ _ _
   | exact ih2 _ _ _ _ _ _ _ _ _ _ _ _ _ _ _ _ _
   | exact ih3 _ _ _ _ _ _ _ _ _ _ _ _ _ _
   | exact ih4 _ _ _ _ _ _ _ _ _ _ _ _ _ _ _
   | exact ih5 _ _ _ _ _ _ _ _ _ _ _ _ _ _ _ _
   | exact ih6 _ _ _ _ _ _ _ _ _ _ _ _ _ _ _
   | exact w4anchor.mono _
   | exact w4step.mono _ _ _ _ _ _ _ _ _ _ _ _
   | exact r1Ints.mono _ _ _
   | exact r4Filtered.mono _ _ _
   | exact r4Members.mono _ _
   | exact r4Resolution.mono _ _ _
   | exact r4Same.mono _ _ _
   | exact tree_Check.mono _ _
   | exact tree_Filtered.mono _ _ _
   | exact tree_Members.mono _ _
   | exact tree_Resolution.mono _ _ _
   | exact LeO.none _
   | refine LeO.ite ?_ ?_
   | refine LeO.bind ?_ (fun _=>?_)
  ·
   intro y0 y1 y2 y3 y4 y5 y6 y7 y8 y9 y10 y11 y12 y13 y14;unfold w4TreePlays.j1
   repeat' first
   | (with_reducible exact ih0 _ _ _ _ _)
   | (with_reducible exact ih1 _ _ _ _ _ _ _ _ _ _ _ _ _ _ _)
   | (with_reducible exact ih2 _ _ _ _ _ _ _ _ _ _ _ _ _ _ _ _ _)
   | (with_reducible exact ih3 _ _ _ _ _ _ _ _ _ _ _ _ _ _)
   | (with_reducible exact ih4 _ _ _ _ _ _ _ _ _ _ _ _ _ _ _)
   | (with_reducible exact ih5 _ _ _ _ _ _ _ _ _ _ _ _ _ _ _ _)
   | (with_reducible exact ih6 _ _ _ _ _ _ _ _ _ _ _ _ _ _ _)
   | (with_reducible exact w4anchor.mono _)
   | (with_reducible exact w4step.mono _ _ _ _ _ _ _ _ _ _ _ _)
   | (with_reducible exact r1Ints.mono _ _ _)
   | (with_reducible exact r4Filtered.mono _ _ _)
   | (with_reducible exact r4Members.mono _ _)
   | (with_reducible exact r4Resolution.mono _ _ _)
   | (with_reducible exact r4Same.mono _ _ _)
   | (with_reducible exact tree_Check.mono _ _)
   | (with_reducible exact tree_Filtered.mono _ _ _)
   | (with_reducible exact tree_Members.mono _ _)
   | (with_reducible exact tree_Resolution.mono _ _ _)
   | (with_reducible exact LeO.refl _)
   | (with_reducible exact LeO.none _)
   | (with_reducible refine LeO.ite ?_ ?_)
   | (with_reducible refine LeO.bind ?_ (fun _=>?_))
   | exact ih0 _ _ _ _ _
   | exact ih1 _ _ _ _ _ _ _ _ _ _ _ _ _ _ _
   | exact ih2 _ _ _ _ _ _ _ _ _ _ _ _ _ _ _ _ _
   | exact ih3 _ _ _ _ _ _ _ _ _ _ _ _ _ _
   | exact ih4 _ _ _ _ _ _ _ _ _ _ _ _ _ _ _
   | exact ih5 _ _ _ _ _ _ _ _ _ _ _ _ _ _ _ _
   | exact ih6 _ _ _ _ _ _ _ _ _ _ _ _ _ _ _
   | exact w4anchor.mono _
   | exact w4step.mono _ _ _ _ _ _ _ _ _ _ _ _
   | exact r1Ints.mono _ _ _
   | exact r4Filtered.mono _ _ _
   | exact r4Members.mono _ _
   | exact r4Resolution.mono _ _ _
   | exact r4Same.mono _ _ _
   | exact tree_Check.mono _ _
   | exact tree_Filtered.mono _ _ _
   | exact tree_Members.mono _ _
   | exact tree_Resolution.mono _ _ _
   | exact LeO.none _
   | refine LeO.ite ?_ ?_
   | refine LeO.bind ?_ (fun _=>?_)
  ·
   intro y0 y1 y2 y3 y4 y5 y6 y7 y8 y9 y10 y11 y12 y13 y14 y15 y16;unfold w4TreePlays.j2
   repeat' first
   | (with_reducible exact ih0 _ _ _ _ _)
   | (with_reducible exact ih1 _ _ _ _ _ _ _ _ _ _ _ _ _ _ _)
   | (with_reducible exact ih2 _ _ _ _ _ _ _ _ _ _ _ _ _ _ _ _ _)
   | (with_reducible exact ih3 _ _ _ _ _ _ _ _ _ _ _ _ _ _)
   | (with_reducible exact ih4 _ _ _ _ _ _ _ _ _ _ _ _ _ _ _)
   | (with_reducible exact ih5 _ _ _ _ _ _ _ _ _ _ _ _ _ _ _ _)
   | (with_reducible exact ih6 _ _ _ _ _ _ _ _ _ _ _ _ _ _ _)
   | (with_reducible exact w4anchor.mono _)
   | (with_reducible exact w4step.mono _ _ _ _ _ _ _ _ _ _ _ _)
   | (with_reducible exact r1Ints.mono _ _ _)
   | (with_reducible exact r4Filtered.mono _ _ _)
   | (with_reducible exact r4Members.mono _ _)
   | (with_reducible exact r4Resolution.mono _ _ _)
   | (with_reducible exact r4Same.mono _ _ _)
   | (with_reducible exact tree_Check.mono _ _)
   | (with_reducible exact tree_Filtered.mono _ _ _)
   | (with_reducible exact tree_Members.mono _ _)
   | (with_reducible exact tree_Resolution.mono _ _ _)
   | (with_reducible exact LeO.refl _)
   | (with_reducible exact LeO.none _)
   | (with_reducible refine LeO.ite ?_ ?_)
   | (with_reducible refine LeO.bind ?_ (fun _=>?_))
   | exact ih0 _ _ _ _ _
   | exact ih1 _ _ _ _ _ _ _ _ _ _ _ _ _ _ _
   | exact ih2 _ _ _ _ _ _ _ _ _ _ _ _ _ _ _ _ _
   | exact ih3 _ _ _ _ _ _ _ _ _ _ _ _ _ _
   | exact ih4 _ _ _ _ _ _ _ _ _ _ _ _ _ _ _
   | exact ih5 _ _ _ _ _ _ _ _ _ _ _ _ _ _ _ _
   | exact ih6 _ _ _ _ _ _ _ _ _ _ _ _ _ _ _
   | exact w4anchor.mono _
   | exact w4step.mono _ _ _ _ _ _ _ _ _ _ _ _
   | exact r1Ints.mono _ _ _
   | exact r4Filtered.mono _ _ _
   | exact r4Members.mono _ _
   | exact r4Resolution.mono _ _ _
   | exact r4Same.mono _ _ _
   | exact tree_Check.mono _ _
   | exact tree_Filtered.mono _ _ _
   | exact tree_Members.mono _ _
   | exact tree_Resolution.mono _ _ _
   | exact LeO.none _
   | refine LeO.ite ?_ ?_
   | refine LeO.bind ?_ (fun _=>?_)
  ·
   intro y0 y1 y2 y3 y4 y5 y6 y7 y8 y9 y10 y11 y12 y13;unfold w4TreePlays.j3
   repeat' first
   | (with_reducible exact ih0 _ _ _ _ _)
   | (with_reducible exact ih1 _ _ _ _ _ _ _ _ _ _ _ _ _ _ _)
   | (with_reducible exact ih2 _ _ _ _ _ _ _ _ _ _ _ _ _ _ _ _ _)
   | (with_reducible exact ih3 _ _ _ _ _ _ _ _ _ _ _ _ _ _)
   | (with_reducible exact ih4 _ _ _ _ _ _ _ _ _ _ _ _ _ _ _)
   | (with_reducible exact ih5 _ _ _ _ _ _ _ _ _ _ _ _ _ _ _ _)
   | (with_reducible exact ih6 _ _ _ _ _ _ _ _ _ _ _ _ _ _ _)
   | (with_reducible exact w4anchor.mono _)
   | (with_reducible exact w4step.mono _ _ _ _ _ _ _ _ _ _ _ _)
   | (with_reducible exact r1Ints.mono _ _ _)
   | (with_reducible exact r4Filtered.mono _ _ _)
   | (with_reducible exact r4Members.mono _ _)
   | (with_reducible exact r4Resolution.mono _ _ _)
   | (with_reducible exact r4Same.mono _ _ _)
   | (with_reducible exact tree_Check.mono _ _)
   | (with_reducible exact tree_Filtered.mono _ _ _)
   | (with_reducible exact tree_Members.mono _ _)
   | (with_reducible exact tree_Resolution.mono _ _ _)
   | (with_reducible exact LeO.refl _)
   | (with_reducible exact LeO.none _)
   | (with_reducible refine LeO.ite ?_ ?_)
   | (with_reducible refine LeO.bind ?_ (fun _=>?_))
   | exact ih0 _ _ _ _ _
   | exact ih1 _ _ _ _ _ _ _ _ _ _ _ _ _ _ _
   | exact ih2 _ _ _ _ _ _ _ _ _ _ _ _ _ _ _ _ _
   | exact ih3 _ _ _ _ _ _ _ _ _ _ _ _ _ _
   | exact ih4 _ _ _ _ _ _ _ _ _ _ _ _ _ _ _
   | exact ih5 _ _ _ _ _ _ _ _ _ _ _ _ _ _ _ _
   | exact ih6 _ _ _ _ _ _ _ _ _ _ _ _ _ _ _
   | exact w4anchor.mono _
   | exact w4step.mono _ _ _ _ _ _ _ _ _ _ _ _
   | exact r1Ints.mono _ _ _
   | exact r4Filtered.mono _ _ _
   | exact r4Members.mono _ _
   | exact r4Resolution.mono _ _ _
   | exact r4Same.mono _ _ _
   | exact tree_Check.mono _ _
   | exact tree_Filtered.mono _ _ _
   | exact tree_Members.mono _ _
   | exact tree_Resolution.mono _ _ _
   | exact LeO.none _
   | refine LeO.ite ?_ ?_
   | refine LeO.bind ?_ (fun _=>?_)
  ·
   intro y0 y1 y2 y3 y4 y5 y6 y7 y8 y9 y10 y11 y12 y13 y14;unfold w4TreePlays.j4
   repeat' first
   | (with_reducible exact ih0 _ _ _ _ _)
   | (with_reducible exact ih1 _ _ _ _ _ _ _ _ _ _ _ _ _ _ _)
   | (with_reducible exact ih2 _ _ _ _ _ _ _ _ _ _ _ _ _ _ _ _ _)
   | (with_reducible exact ih3 _ _ _ _ _ _ _ _ _ _ _ _ _ _)
   | (with_reducible exact ih4 _ _ _ _ _ _ _ _ _ _ _ _ _ _ _)
   | (with_reducible exact ih5 _ _ _ _ _ _ _ _ _ _ _ _ _ _ _ _)
   | (with_reducible exact ih6 _ _ _ _ _ _ _ _ _ _ _ _ _ _ _)
   | (with_reducible exact w4anchor.mono _)
   | (with_reducible exact w4step.mono _ _ _ _ _ _ _ _ _ _ _ _)
   | (with_reducible exact r1Ints.mono _ _ _)
   | (with_reducible exact r4Filtered.mono _ _ _)
   | (with_reducible exact r4Members.mono _ _)
   | (with_reducible exact r4Resolution.mono _ _ _)
   | (with_reducible exact r4Same.mono _ _ _)
   | (with_reducible exact tree_Check.mono _ _)
   | (with_reducible exact tree_Filtered.mono _ _ _)
   | (with_reducible exact tree_Members.mono _ _)
   | (with_reducible exact tree_Resolution.mono _ _ _)
   | (with_reducible exact LeO.refl _)
   | (with_reducible exact LeO.none _)
   | (with_reducible refine LeO.ite ?_ ?_)
   | (with_reducible refine LeO.bind ?_ (fun _=>?_))
   | exact ih0 _ _ _ _ _
   | exact ih1 _ _ _ _ _ _ _ _ _ _ _ _ _ _ _
   | exact ih2 _ _ _ _ _ _ _ _ _ _ _ _ _ _ _ _ _
   | exact ih3 _ _ _ _ _ _ _ _ _ _ _ _ _ _
   | exact ih4 _ _ _ _ _ _ _ _ _ _ _ _ _ _ _
   | exact ih5 _ _ _ _ _ _ _ _ _ _ _ _ _ _ _ _
   | exact ih6 _ _ _ _ _ _ _ _ _ _ _ _ _ _ _
   | exact w4anchor.mono _
   | exact w4step.mono _ _ _ _ _ _ _ _ _ _ _ _
   | exact r1Ints.mono _ _ _
   | exact r4Filtered.mono _ _ _
   | exact r4Members.mono _ _
   | exact r4Resolution.mono _ _ _
   | exact r4Same.mono _ _ _
   | exact tree_Check.mono _ _
   | exact tree_Filtered.mono _ _ _
   | exact tree_Members.mono _ _
   | exact tree_Resolution.mono _ _ _
   | exact LeO.none _
   | refine LeO.ite ?_ ?_
   | refine LeO.bind ?_ (fun _=>?_)
  ·
   intro y0 y1 y2 y3 y4 y5 y6 y7 y8 y9 y10 y11 y12 y13 y14 y15;unfold w4TreePlays.j5
   repeat' first
   | (with_reducible exact ih0 _ _ _ _ _)
   | (with_reducible exact ih1 _ _ _ _ _ _ _ _ _ _ _ _ _ _ _)
   | (with_reducible exact ih2 _ _ _ _ _ _ _ _ _ _ _ _ _ _ _ _ _)
   | (with_reducible exact ih3 _ _ _ _ _ _ _ _ _ _ _ _ _ _)
   | (with_reducible exact ih4 _ _ _ _ _ _ _ _ _ _ _ _ _ _ _)
   | (with_reducible exact ih5 _ _ _ _ _ _ _ _ _ _ _ _ _ _ _ _)
   | (with_reducible exact ih6 _ _ _ _ _ _ _ _ _ _ _ _ _ _ _)
   | (with_reducible exact w4anchor.mono _)
   | (with_reducible exact w4step.mono _ _ _ _ _ _ _ _ _ _ _ _)
   | (with_reducible exact r1Ints.mono _ _ _)
   | (with_reducible exact r4Filtered.mono _ _ _)
   | (with_reducible exact r4Members.mono _ _)
   | (with_reducible exact r4Resolution.mono _ _ _)
   | (with_reducible exact r4Same.mono _ _ _)
   | (with_reducible exact tree_Check.mono _ _)
   | (with_reducible exact tree_Filtered.mono _ _ _)
   | (with_reducible exact tree_Members.mono _ _)
   | (with_reducible exact tree_Resolution.mono _ _ _)
   | (with_reducible exact LeO.refl _)
   | (with_reducible exact LeO.none _)
   | (with_reducible refine LeO.ite ?_ ?_)
   | (with_reducible refine LeO.bind ?_ (fun _=>?_))
   | exact ih0 _ _ _ _ _
   | exact ih1 _ _ _ _ _ _ _ _ _ _ _ _ _ _ _
   | exact ih2 _ _ _ _ _ _ _ _ _ _ _ _ _ _ _ _ _
   | exact ih3 _ _ _ _ _ _ _ _ _ _ _ _ _ _
   | exact ih4 _ _ _ _ _ _ _ _ _ _ _ _ _ _ _
   | exact ih5 _ _ _ _ _ _ _ _ _ _ _ _ _ _ _ _
   | exact ih6 _ _ _ _ _ _ _ _ _ _ _ _ _ _ _
   | exact w4anchor.mono _
   | exact w4step.mono _ _ _ _ _ _ _ _ _ _ _ _
   | exact r1Ints.mono _ _ _
   | exact r4Filtered.mono _ _ _
   | exact r4Members.mono _ _
   | exact r4Resolution.mono _ _ _
   | exact r4Same.mono _ _ _
   | exact tree_Check.mono _ _
   | exact tree_Filtered.mono _ _ _
   | exact tree_Members.mono _ _
   | exact tree_Resolution.mono _ _ _
   | exact LeO.none _
   | refine LeO.ite ?_ ?_
   | refine LeO.bind ?_ (fun _=>?_)
  ·
   intro y0 y1 y2 y3 y4 y5 y6 y7 y8 y9 y10 y11 y12 y13 y14;unfold w4TreePlays.j6
   repeat' first
   | (with_reducible exact ih0 _ _ _ _ _)
   | (with_reducible exact ih1 _ _ _ _ _ _ _ _ _ _ _ _ _ _ _)
   | (with_reducible exact ih2 _ _ _ _ _ _ _ _ _ _ _ _ _ _ _ _ _)
   | (with_reducible exact ih3 _ _ _ _ _ _ _ _ _ _ _ _ _ _)
   | (with_reducible exact ih4 _ _ _ _ _ _ _ _ _ _ _ _ _ _ _)
   | (with_reducible exact ih5 _ _ _ _ _ _ _ _ _ _ _ _ _ _ _ _)
   | (with_reducible exact ih6 _ _ _ _ _ _ _ _ _ _ _ _ _ _ _)
   | (with_reducible exact w4anchor.mono _)
   | (with_reducible exact w4step.mono _ _ _ _ _ _ _ _ _ _ _ _)
   | (with_reducible exact r1Ints.mono _ _ _)
   | (with_reducible exact r4Filtered.mono _ _ _)
   | (with_reducible exact r4Members.mono _ _)
   | (with_reducible exact r4Resolution.mono _ _ _)
   | (with_reducible exact r4Same.mono _ _ _)
   | (with_reducible exact tree_Check.mono _ _)
   | (with_reducible exact tree_Filtered.mono _ _ _)
   | (with_reducible exact tree_Members.mono _ _)
   | (with_reducible exact tree_Resolution.mono _ _ _)
   | (with_reducible exact LeO.refl _)
   | (with_reducible exact LeO.none _)
   | (with_reducible refine LeO.ite ?_ ?_)
   | (with_reducible refine LeO.bind ?_ (fun _=>?_))
   | exact ih0 _ _ _ _ _
   | exact ih1 _ _ _ _ _ _ _ _ _ _ _ _ _ _ _
   | exact ih2 _ _ _ _ _ _ _ _ _ _ _ _ _ _ _ _ _
   | exact ih3 _ _ _ _ _ _ _ _ _ _ _ _ _ _
   | exact ih4 _ _ _ _ _ _ _ _ _ _ _ _ _ _ _
   | exact ih5 _ _ _ _ _ _ _ _ _ _ _ _ _ _ _ _
   | exact ih6 _ _ _ _ _ _ _ _ _ _ _ _ _ _ _
   | exact w4anchor.mono _
   | exact w4step.mono _ _ _ _ _ _ _ _ _ _ _ _
   | exact r1Ints.mono _ _ _
   | exact r4Filtered.mono _ _ _
   | exact r4Members.mono _ _
   | exact r4Resolution.mono _ _ _
   | exact r4Same.mono _ _ _
   | exact tree_Check.mono _ _
   | exact tree_Filtered.mono _ _ _
   | exact tree_Members.mono _ _
   | exact tree_Resolution.mono _ _ _
   | exact LeO.none _
   | refine LeO.ite ?_ ?_
   | refine LeO.bind ?_ (fun _=>?_)
theorem w4TreePlays.mono : ∀ a0 a1 a2 a3 a4 a5 a6 k,LeO (w4TreePlays.f k a0 a1 a2 a3 a4 a5 a6) (w4TreePlays.f (k + 1) a0 a1 a2 a3 a4 a5 a6):=by
 intro a0 a1 a2 a3 a4 a5 a6 k;obtain ⟨ih0,ih1,ih2,ih3,ih4,ih5,ih6⟩:=w4TreePlays.mono_l k;unfold w4TreePlays.f
 repeat' first
  | (with_reducible exact ih0 _ _ _ _ _)
  | (with_reducible exact ih1 _ _ _ _ _ _ _ _ _ _ _ _ _ _ _)
  | (with_reducible exact ih2 _ _ _ _ _ _ _ _ _ _ _ _ _ _ _ _ _)
  | (with_reducible exact ih3 _ _ _ _ _ _ _ _ _ _ _ _ _ _)
  | (with_reducible exact ih4 _ _ _ _ _ _ _ _ _ _ _ _ _ _ _)
  | (with_reducible exact ih5 _ _ _ _ _ _ _ _ _ _ _ _ _ _ _ _)
  | (with_reducible exact ih6 _ _ _ _ _ _ _ _ _ _ _ _ _ _ _)
  | (with_reducible exact w4anchor.mono _)
  | (with_reducible exact w4step.mono _ _ _ _ _ _ _ _ _ _ _ _)
  | (with_reducible exact r1Ints.mono _ _ _)
  | (with_reducible exact r4Filtered.mono _ _ _)
  | (with_reducible exact r4Members.mono _ _)
  | (with_reducible exact r4Resolution.mono _ _ _)
  | (with_reducible exact r4Same.mono _ _ _)
  | (with_reducible exact tree_Check.mono _ _)
  | (with_reducible exact tree_Filtered.mono _ _ _)
  | (with_reducible exact tree_Members.mono _ _)
  | (with_reducible exact tree_Resolution.mono _ _ _)
  | (with_reducible exact LeO.refl _)
  | (with_reducible exact LeO.none _)
  | (with_reducible refine LeO.ite ?_ ?_)
  | (with_reducible refine LeO.bind ?_ (fun _=>?_))
  | exact ih0 _ _ _ _ _
  | exact ih1 _ _ _ _ _ _ _ _ _ _ _ _ _ _ _
  | exact ih2 _ _ _ _ _ _ _ _ _ _ _ _ _ _ _ _ _
  | exact ih3 _ _ _ _ _ _ _ _ _ _ _ _ _ _
  | exact ih4 _ _ _ _ _ _ _ _ _ _ _ _ _ _ _
  | exact ih5 _ _ _ _ _ _ _ _ _ _ _ _ _ _ _ _
  | exact ih6 _ _ _ _ _ _ _ _ _ _ _ _ _ _ _
  | exact w4anchor.mono _
  | exact w4step.mono _ _ _ _ _ _ _ _ _ _ _ _
  | exact r1Ints.mono _ _ _
  | exact r4Filtered.mono _ _ _
  | exact r4Members.mono _ _
  | exact r4Resolution.mono _ _ _
  | exact r4Same.mono _ _ _
  | exact tree_Check.mono _ _
  | exact tree_Filtered.mono _ _ _
  | exact tree_Members.mono _ _
  | exact tree_Resolution.mono _ _ _
  | exact LeO.none _
  | refine LeO.ite ?_ ?_
  | refine LeO.bind ?_ (fun _=>?_)
end Go.Proofs.YtbblomnhobodkaaDoor.PTw
