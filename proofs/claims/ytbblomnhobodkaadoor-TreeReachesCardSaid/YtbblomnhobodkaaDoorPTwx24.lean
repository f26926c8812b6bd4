/- What this claim reaches of longer texts of this session. -/
import Derived.Test.YtbblomnhobodkaaDoorBase
import Derived.Test.YtbblomnhobodkaaDoorPTwx14
import Derived.Test.YtbblomnhobodkaaDoorPTwx18
import Derived.Test.YtbblomnhobodkaaDoorPTwx1
import Derived.Shelf.Spec.TrailingZeros
import Derived.Lib.ItoaNum
import Derived.Lib.LaidTab
import Derived.Laws.Bits64
import Derived.Lib.Hide
import Derived.RangeFuncBox
import Derived.Maps.AppendAt
import Derived.Lib.SliceRun
import Derived.Shelf.Spec.SlicesInsert
import Derived.Shelf.Spec.SlicesInsertGrow
import Derived.Deep.DeepCutAuto
import Derived.Test.YtbblomnhobodkaaDoorPTwx6
import Derived.Test.YtbblomnhobodkaaDoorPTwx8
namespace Go.Proofs.YtbblomnhobodkaaDoor.PTw
open Go.RowKit Go.Proofs.YtbblomnhobodkaaDoorW.PW Go.Proofs.YtbblomnhobodkaaDoorW.PL Go.Proofs.YtbblomnhobodkaaDoorW.PM
attribute [local go_sem] max2_int min2_int max_two min_two max_three min_three max_four min_four   -- for this text's walks alone
set_option linter.unusedVariables false
set_option linter.unusedSimpArgs false
def w4grown.l0 : Nat→List (S29)→List (S32)→Int→Int→Option ((List (S29)))
 | 0,_,_,_,_=>none
 | k + 1,x5,x13,x14,x15=>if x15 < x14 then (if 0≤x15 then (if x15 < (x13.length : Int) then (if x15≥300 then (some x5) else (if ((rd_T32 x13 x15).f0) = 1 then ((r4Add.f k x5 ((rd_T32 x13 x15).f2.f0) ((rd_T32 x13 x15).f2.f1) ((rd_T32 x13 x15).f2.f2) ((rd_T32 x13 x15).f2.f3) ((rd_T32 x13 x15).f2.f4) ((rd_T32 x13 x15).f2.f5)).bind fun bt525=>(if (bt525.1.length : Int) > 0 then (w4grown.l0 k bt525.1 x13 x14 (wrap64 (x15 + 1))) else (w4grown.l0 k x5 x13 x14 (wrap64 (x15 + 1))))) else (if ((rd_T32 x13 x15).f0) = 2 then ((r4Update.f k x5 ((rd_T32 x13 x15).f1) ((rd_T32 x13 x15).f2.f0) ((rd_T32 x13 x15).f2.f1) ((rd_T32 x13 x15).f2.f2) ((rd_T32 x13 x15).f2.f3) ((rd_T32 x13 x15).f2.f4) ((rd_T32 x13 x15).f2.f5)).bind fun bt530=>(if (bt530.1.length : Int) > 0 then (w4grown.l0 k bt530.1 x13 x14 (wrap64 (x15 + 1))) else (w4grown.l0 k x5 x13 x14 (wrap64 (x15 + 1))))) else (if ((rd_T32 x13 x15).f0) = 3 then ((r4Remove.f k x5 ((rd_T32 x13 x15).f1)).bind fun bt534=>(if (bt534.1.length : Int) > 0 then (w4grown.l0 k bt534.1 x13 x14 (wrap64 (x15 + 1))) else (w4grown.l0 k x5 x13 x14 (wrap64 (x15 + 1))))) else (if ((rd_T32 x13 x15).f0) = 4 then ((w4keys.f k x5 ((rd_T32 x13 x15).f0) ((rd_T32 x13 x15).f1) ((rd_T32 x13 x15).f2.f0) ((rd_T32 x13 x15).f2.f1) ((rd_T32 x13 x15).f2.f2) ((rd_T32 x13 x15).f2.f3) ((rd_T32 x13 x15).f2.f4) ((rd_T32 x13 x15).f2.f5) 0).bind fun t538=>((r4Merge.f k x5 ((rd_T32 x13 x15).f1) ((rd_T32 x13 x15).f2.f0) ((rd_T32 x13 x15).f2.f1) ((rd_T32 x13 x15).f2.f2) ((rd_T32 x13 x15).f2.f3) ((rd_T32 x13 x15).f2.f4) ((rd_T32 x13 x15).f2.f5) t538 t538).bind fun bt541=>(if (bt541.1.length : Int) > 0 then (w4grown.l0 k bt541.1 x13 x14 (wrap64 (x15 + 1))) else (w4grown.l0 k x5 x13 x14 (wrap64 (x15 + 1)))))) else (if (([] : List (S29)).length : Int) > 0 then (w4grown.l0 k ([] : List (S29)) x13 x14 (wrap64 (x15 + 1))) else (w4grown.l0 k x5 x13 x14 (wrap64 (x15 + 1))))))))) else (none)) else (none)) else (some x5)
def w4grown.f (k : Nat) (a0_0 : Bool) (a0_1 : Int) (a0_2 : Int) (a0_3 : Int) (a0_4 : Int) (l0_5 : List Int) (l1 : List (S32)) : Option ((List (S29))):=(r4Leaf.f a0_0 a0_1 a0_2 a0_3 a0_4 l0_5).bind fun bt512=>(w4grown.l0 k (([(⟨bt512.1,bt512.2.1,bt512.2.2.1,bt512.2.2.2.1,bt512.2.2.2.2.1,bt512.2.2.2.2.2⟩ : S29)] : List (S29))) l1 (l1.length : Int) 0)
theorem w4grown.mono_l : ∀ k,(∀ y0 y1 y2 y3,LeO (w4grown.l0 k y0 y1 y2 y3) (w4grown.l0 (k + 1) y0 y1 y2 y3))
 | 0=>fun _ _ _ _ r h=>by simp [w4grown.l0] at h
 | k + 1=>by
  have ih0:=w4grown.mono_l k
  · intro y0 y1 y2 y3
    unfold w4grown.l0
    repeat' first
    | (with_reducible exact ih0 _ _ _ _)
    | (with_reducible exact w4keys.mono _ _ _ _ _ _ _ _ _ _ _)
    | (with_reducible exact r4Add.mono _ _ _ _ _ _ _ _)
    | (with_reducible exact r4Merge.mono _ _ _ _ _ _ _ _ _ _ _)
    | (with_reducible exact r4Remove.mono _ _ _)
    | (with_reducible exact r4Update.mono _ _ _ _ _ _ _ _ _)
    | (with_reducible exact LeO.refl _)
    | (with_reducible exact LeO.none _)
    | (with_reducible refine LeO.ite ?_ ?_)
    | (with_reducible refine LeO.bind ?_ (fun _=>?_))
    | exact ih0 _ _ _ _
    | exact w4keys.mono _ _ _ _ _ _ _ _ _ _ _
    | exact r4Add.mono _ _ _ _ _ _ _ _
    | exact r4Merge.mono _ _ _ _ _ _ _ _ _ _ _
    | exact r4Remove.mono _ _ _
    | exact r4Update.mono _ _ _ _ _ _ _ _ _
    | exact LeO.none _
    | refine LeO.ite ?_ ?_
    | refine LeO.bind ?_ (fun _=>?_)
theorem w4grown.mono : ∀ a0 a1 a2 a3 a4 a5 a6 k,LeO (w4grown.f k a0 a1 a2 a3 a4 a5 a6) (w4grown.f (k + 1) a0 a1 a2 a3 a4 a5 a6):=by
 intro a0 a1 a2 a3 a4 a5 a6 k
 have ih0:=w4grown.mono_l k
 unfold w4grown.f
 repeat' first
  | (with_reducible exact ih0 _ _ _ _)
  | (with_reducible exact w4keys.mono _ _ _ _ _ _ _ _ _ _ _)
  | (with_reducible exact r4Add.mono _ _ _ _ _ _ _ _)
  | (with_reducible exact r4Merge.mono _ _ _ _ _ _ _ _ _ _ _)
  | (with_reducible exact r4Remove.mono _ _ _)
  | (with_reducible exact r4Update.mono _ _ _ _ _ _ _ _ _)
  | (with_reducible exact LeO.refl _)
  | (with_reducible exact LeO.none _)
  | (with_reducible refine LeO.ite ?_ ?_)
  | (with_reducible refine LeO.bind ?_ (fun _=>?_))
  | exact ih0 _ _ _ _
  | exact w4keys.mono _ _ _ _ _ _ _ _ _ _ _
  | exact r4Add.mono _ _ _ _ _ _ _ _
  | exact r4Merge.mono _ _ _ _ _ _ _ _ _ _ _
  | exact r4Remove.mono _ _ _
  | exact r4Update.mono _ _ _ _ _ _ _ _ _
  | exact LeO.none _
  | refine LeO.ite ?_ ?_
  | refine LeO.bind ?_ (fun _=>?_)
end Go.Proofs.YtbblomnhobodkaaDoor.PTw
namespace Go.Proofs.YtbblomnhobodkaaDoor.PTw
open Go.RowKit Go.Proofs.YtbblomnhobodkaaDoorW.PW Go.Proofs.YtbblomnhobodkaaDoorW.PL Go.Proofs.YtbblomnhobodkaaDoorW.PM
attribute [local go_sem] max2_int min2_int max_two min_two max_three min_three max_four min_four   -- for this text's walks alone
set_option linter.unusedVariables false
set_option linter.unusedSimpArgs false
theorem grown_box {w2 w3 : World} {g t : Nat} {z0 z1 z2 z3 z4 z5 z6 z7 z8 v0 v1 v2 v3 v4 v5 v6 v7 v8 : Value} (hw : w3 = (((((((((w2.setCell ⟨g,0,none⟩ v0).setCell ⟨g,1,none⟩ v1).setCell ⟨g,2,none⟩ v2).setCell ⟨g,3,none⟩ v3).setCell ⟨g,4,none⟩ v4).setCell ⟨g,5,none⟩ v5).setCell ⟨g,6,none⟩ v6).setCell ⟨g,7,none⟩ v7).setCell ⟨g,8,none⟩ v8)) (h : w2.heap[g]? = some (.cells #[z0,z1,z2,z3,z4,z5,z6,z7,z8] t (0,0))) : w3.heap[g]? = some (.cells #[v0,v1,v2,v3,v4,v5,v6,v7,v8] t (0,0)):=by
 subst hw
 have h0:=blk_put h 0 v0 (cs':=#[v0,z1,z2,z3,z4,z5,z6,z7,z8]) rfl
 have h1:=blk_put h0 1 v1 (cs':=#[v0,v1,z2,z3,z4,z5,z6,z7,z8]) rfl
 have h2:=blk_put h1 2 v2 (cs':=#[v0,v1,v2,z3,z4,z5,z6,z7,z8]) rfl
 have h3:=blk_put h2 3 v3 (cs':=#[v0,v1,v2,v3,z4,z5,z6,z7,z8]) rfl
 have h4:=blk_put h3 4 v4 (cs':=#[v0,v1,v2,v3,v4,z5,z6,z7,z8]) rfl
 have h5:=blk_put h4 5 v5 (cs':=#[v0,v1,v2,v3,v4,v5,z6,z7,z8]) rfl
 have h6:=blk_put h5 6 v6 (cs':=#[v0,v1,v2,v3,v4,v5,v6,z7,z8]) rfl
 have h7:=blk_put h6 7 v7 (cs':=#[v0,v1,v2,v3,v4,v5,v6,v7,z8]) rfl
 have h8:=blk_put h7 8 v8 (cs':=#[v0,v1,v2,v3,v4,v5,v6,v7,v8]) rfl
 exact h8
theorem grown_below {w w2 w3 : World} {g : Nat} {v0 v1 v2 v3 v4 v5 v6 v7 v8 : Value} (hw : w3 = (((((((((w2.setCell ⟨g,0,none⟩ v0).setCell ⟨g,1,none⟩ v1).setCell ⟨g,2,none⟩ v2).setCell ⟨g,3,none⟩ v3).setCell ⟨g,4,none⟩ v4).setCell ⟨g,5,none⟩ v5).setCell ⟨g,6,none⟩ v6).setCell ⟨g,7,none⟩ v7).setCell ⟨g,8,none⟩ v8)) (hb : Below w.heap.size w w2) (hg : w.heap.size≤g) : Below w.heap.size w w3:=by
 subst hw
 exact (bwS (bwS (bwS (bwS (bwS (bwS (bwS (bwS (bwS hb hg) hg) hg) hg) hg) hg) hg) hg) hg)
theorem V_int {w : World} {A : Option Addr} {l : List Int} {c base : Nat} (hl : l.length≤c) (h : (Kd.int .i64).C w A l.length l) : Kd.V (Kd.int .i64) 3 w base (fun _=>True) (.slice A l.length c) l:=Kd.V_mk hl (fun W' hW=>Kd.Heap.C (Kd.heap_int .i64) (fun k_ hk=>hW k_ trivial hk) h)
end Go.Proofs.YtbblomnhobodkaaDoor.PTw
namespace Go.Proofs.YtbblomnhobodkaaDoor.PTw
open Go.RowKit Go.Proofs.YtbblomnhobodkaaDoorW.PW Go.Proofs.YtbblomnhobodkaaDoorW.PL Go.Proofs.YtbblomnhobodkaaDoorW.PM
attribute [local go_sem] max2_int min2_int max_two min_two max_three min_three max_four min_four   -- for this text's walks alone
set_option linter.unusedVariables false
set_option linter.unusedSimpArgs false
set_option maxHeartbeats 8000000 in
set_option maxRecDepth 100000 in
theorem w4grown.calls (k : Nat) (a0_0 : Bool) (a0_1 : Int) (a0_2 : Int) (a0_3 : Int) (a0_4 : Int) (A0_5 : Option Addr) (c0_5 : Nat) (l0_5 : List Int) (P1_ : Nat→Prop) (A1 : Option Addr) (c1 : Nat) (l1 : List (S32)) (r : List (S29)) (w : World) (hr0_5 : Kd.C (Kd.int .i64) w A0_5 l0_5.length l0_5) (hc0_5 : l0_5.length≤c0_5) (hs1 : Kd.V k32 32 w w.heap.size (fun k_=>P1_ k_) (.slice A1 l1.length c1) l1) (h : w4grown.f k a0_0 a0_1 a0_2 a0_3 a0_4 l0_5 l1 = some r) :
 Calls Tryd.prog 18 #[.agg #[.bool a0_0,.int .i64 a0_1,.int .i64 a0_2,.int .i64 a0_3,.int .i64 a0_4,.slice A0_5 l0_5.length c0_5],.slice A1 l1.length c1] w fun e w'=>∃ v0_ : Value,e = .returned (v0_)∧Kd.N k29 29 w' w.heap.size (fun k_=>(P1_ k_∨w.heap.size≤k_)) v0_ r∧Below w.heap.size w w':=by
 have hu29:=Tryd.underlying29
 have hu32:=Tryd.underlying32
 have HR0_5:=Az.mk hr0_5
 have HC0_5:=Az.mk hc0_5
 clear hr0_5 hc0_5
 have HO1:=Az.mk (show Kd.V k32 32 w w.heap.size (fun k_=>(P1_ k_∨w.heap.size≤k_)) (.slice A1 l1.length c1) l1 from Kd.V_mono hs1 (fun k_ hk=>.inl hk))
 have HB:=Az.mk (Below.refl w.heap.size w)
 have H : ((r4Leaf.f a0_0 a0_1 a0_2 a0_3 a0_4 l0_5).bind fun bt512=>(w4grown.l0 k (([(⟨bt512.1,bt512.2.1,bt512.2.2.1,bt512.2.2.2.1,bt512.2.2.2.2.1,bt512.2.2.2.2.2⟩ : S29)] : List (S29))) l1 (l1.length : Int) 0)) = some r:=h
 clear h
 replace H:=Option.bind_eq_some_iff.mp H
 obtain ⟨⟨t512,t513,t514,t515,t516,t517⟩,A30,H⟩:=H
 replace H : (w4grown.l0 k (([(⟨t512,t513,t514,t515,t516,t517⟩ : S29)] : List (S29))) l1 (l1.length : Int) 0) = some r:=H
 have A3:=Az.mk A30
 clear A30
 obtain ⟨y520,hy520⟩ : ∃ y_ : List (S29),y_ = (([(⟨t512,t513,t514,t515,t516,t517⟩ : S29)] : List (S29))):=⟨_,rfl⟩
 replace H : (w4grown.l0 k y520 l1 (l1.length : Int) 0) = some r:=by first | (rw [hy520];with_reducible exact H) | (have H2_:=(Option.bind_some _ _).symm.trans H;rw [hy520];with_reducible exact H2_) | (have H2_:=(Option.bind_some _ _).symm.trans H;with_reducible exact H2_) | with_reducible exact H | (rw [hy520];exact H) | exact H
 have Ny520:=Az.mk hy520
 clear hy520
 have H':=Az.mk H
 clear H
 go_enter Tryd.func18,Tryd.ntmps18
 go_wp2_with (first | ((with_reducible refine gate_dst (N:=2) rfl ?_);refine box_event ?hg (N:=2) ?hd (cs:=#[.bool a0_0,.int .i64 a0_1,.int .i64 a0_2,.int .i64 a0_3,.int .i64 a0_4,.slice A0_5 l0_5.length c0_5]) (t:=29) ?hr ?_;(case hd=>rfl);(case hg=>rfl);(case hr=>first | (go_simp;done) | (go_simp;rfl));intro gb511 hg w4 hbox hb;have n0_:=Az.mk (Kd.V_below (Kd.V_elderB (by (with_reducible repeat (first | apply Kd.V_alloc | apply Kd.V_drewN | apply Kd.V_drew));exact HO1.out) gb511 (Nat.le_of_eq hg.symm)) hb);have n1_:=Az.mk (bwT (by repeat (first | (with_reducible first | exact HB.out | apply bwA | apply bwN | apply bw1) | exact HB.out)) hb);have n2_:=Az.mk (hbox);have n3_:=Az.mk ((by rw [hg];exact (bwZ (by repeat (first | (with_reducible first | exact HB.out | apply bwA | apply bwN | apply bw1) | exact HB.out))) : w.heap.size≤gb511));have n4_:=Az.mk ((by rw [hg];exact (bwZ (by repeat (first | (with_reducible first | exact HB.out | apply bwA | apply bwN | apply bw1) | exact HB.out))) : w.heap.size≤gb511));clear HO1;clear HB;have HO1:=n0_;have HB:=n1_;have BK511:=n2_;have GW511:=n3_;have GE511:=n4_;clear n0_ n1_ n2_ n3_ n4_;clear hb hbox hg;have hcz5_0 : w4.cell? ⟨gb511,0,none⟩ = some (.bool a0_0):=(kC BK511.out 0).trans rfl;have hcz5_1 : w4.cell? ⟨gb511,1,none⟩ = some (.int .i64 a0_1):=(kC BK511.out 1).trans rfl;have hcz5_2 : w4.cell? ⟨gb511,2,none⟩ = some (.int .i64 a0_2):=(kC BK511.out 2).trans rfl;have hcz5_3 : w4.cell? ⟨gb511,3,none⟩ = some (.int .i64 a0_3):=(kC BK511.out 3).trans rfl;have hcz5_4 : w4.cell? ⟨gb511,4,none⟩ = some (.int .i64 a0_4):=(kC BK511.out 4).trans rfl;have hcz5_5 : w4.cell? ⟨gb511,5,none⟩ = some (.slice A0_5 l0_5.length c0_5):=(kC BK511.out 5).trans rfl;have hfz5_0:=kF BK511.out 0;have hfz5_1:=kF BK511.out 1;have hfz5_2:=kF BK511.out 2;have hfz5_3:=kF BK511.out 3;have hfz5_4:=kF BK511.out 4;have hfz5_5:=kF BK511.out 5) | ((with_reducible refine gate_callee (f:=35) rfl ?_);refine goesL_ (some 11) rfl rfl Tryd.func35 (by kernel_rfl) rfl #[.agg #[.bool a0_0,.int .i64 a0_1,.int .i64 a0_2,.int .i64 a0_3,.int .i64 a0_4,.slice A0_5 l0_5.length c0_5]] rfl (by (try simp only [List.map_toArray,List.map_cons,List.map_nil]);first | done | rfl | (simp only [List.length_drop,List.length_take];rfl)) ?_;(with_reducible refine (r4Leaf.calls a0_0 a0_1 a0_2 a0_3 a0_4 _ _ l0_5 t512 t513 t514 t515 t516 t517 _ ?side1 ?side2 A3.out).mono ?_);(case side1=>repeat (first | exact (Kd.C_below HR0_5.out HB.out) | (with_reducible refine Kd.C_alloc ?_ _) | (with_reducible refine Kd.C_drewN ?_ _) | (with_reducible refine Kd.C_drew ?_)));(case side2=>exact HC0_5.out);rintro e w6 ⟨v518,rfl,ho0,hb⟩;refine ⟨_,rfl,?_⟩;obtain ⟨Av_,cv_,hv_⟩:=Kd.R_slice ho0;have HV518:=Az.mk hv_;clear hv_;have n0_:=Az.mk (Kd.V_elder' (by (with_reducible repeat (first | apply Kd.V_alloc | apply Kd.V_drewN | apply Kd.V_drew));exact HO1.out) (Kd.R_base ho0) hb);have n1_:=Az.mk (Kd.R_lower (Kd.R_newM (M:=fun k_=>(w.heap.size≤k_)) ho0 (bwZ (by repeat (first | (with_reducible first | exact HB.out | apply bwA | apply bwN | apply bw1 | refine bwS ?_ GE511.out) | exact HB.out))) (fun k_ h_=>h_)) (bwZ (by repeat (first | (with_reducible first | exact HB.out | apply bwA | apply bwN | apply bw1 | refine bwS ?_ GE511.out) | exact HB.out))));have n2_:=Az.mk (kB (g:=gb511) (o:=.cells #[.bool a0_0,.int .i64 a0_1,.int .i64 a0_2,.int .i64 a0_3,.int .i64 a0_4,.slice A0_5 l0_5.length c0_5] 29 (0,0)) (by (with_reducible repeat (first | refine kN ?_ _ | refine kD ?_ | refine kA ?_ _));exact BK511.out) hb);have n3_:=Az.mk (bwT (by repeat (first | (with_reducible first | exact HB.out | apply bwA | apply bwN | apply bw1 | refine bwS ?_ GE511.out) | exact HB.out)) hb);clear HO1;clear BK511;clear HB;have HO1:=n0_;have HO519:=n1_;have BK511:=n2_;have HB:=n3_;clear n0_ n1_ n2_ n3_;(try clear hb);(try clear hb2);(try clear hk);(try clear hi);(try clear ho0);obtain ⟨Ao7,co7,eo7⟩:=Kd.R_slice HO519.out;subst eo7) | ((with_reducible refine gate_dst (N:=12) rfl ?_);refine Kd.N_lit k29 _ 29 ?hg (N':=12) ?hd (xs:=([(⟨t512,t513,t514,t515,t516,t517⟩ : S29)] : List (S29))) (inner:=[.bool t512,.int .i64 t513,.int .i64 t514,.int .i64 t515,.int .i64 t516,.slice Ao7 t517.length co7]) (ok:=(fun k_=>(P1_ k_∨w.heap.size≤k_)∧k_≠gb511)) (okp:=(fun k_=>(P1_ k_∨w.heap.size≤k_)∧k_≠gb511)) ?hr ?hp (fun _ hk=>hk) ((show ∀ k_,w6.heap.size≤k_→(fun k_=>(P1_ k_∨w.heap.size≤k_)∧k_≠gb511) k_ from fun k_ hk=>⟨(.inr (Nat.le_trans (bwZ (by repeat (first | (with_reducible first | exact HB.out | apply bwA | apply bwN | apply bw1 | refine bwS ?_ GE511.out) | exact HB.out))) hk)),Kd.freshB (g:=gb511) (o:=.cells #[.bool a0_0,.int .i64 a0_1,.int .i64 a0_2,.int .i64 a0_3,.int .i64 a0_4,.slice A0_5 l0_5.length c0_5] 29 (0,0)) (by (with_reducible repeat (first | refine kN ?_ _ | refine kD ?_ | refine kA ?_ _));exact BK511.out) k_ hk⟩) _ (Nat.le_refl _)) (Below.refl _ _) (Nat.le_refl _) (by simp) ?_;(case hd=>rfl);(case hg=>rfl);(case hr=>first | (go_simp;done) | (go_simp;rfl));(case hp=>exact (Reps.c6 (show Kd.FK k29 _ _ (⟨t512,t513,t514,t515,t516,t517⟩ : S29) [.bool t512,.int .i64 t513,.int .i64 t514,.int .i64 t515,.int .i64 t516,.slice Ao7 t517.length co7] from (k29_mkF _ _ (⟨t512,t513,t514,t515,t516,t517⟩ : S29) (Kd.R_reads' (Kd.R_mono (ok':=(fun k_=>(P1_ k_∨w.heap.size≤k_)∧k_≠gb511)) (Kd.R_types (HO519.out) BK511.out (by decide)) (fun k_ hk=>⟨(.inr (hk.1.1)),hk.2⟩))).2.1 (Kd.R_F (Kd.R_mono (ok':=(fun k_=>(P1_ k_∨w.heap.size≤k_)∧k_≠gb511)) (Kd.R_types (HO519.out) BK511.out (by decide)) (fun k_ hk=>⟨(.inr (hk.1.1)),hk.2⟩))))) (Reps.none _ _)));intro v521 w8 ho9 hb hg_ hnew_;clear hg_ hnew_;(first | rw [← Ny520.out] at ho9 | (simp only [Int.reduceToNat] at ho9;rw [← Ny520.out] at ho9));have n0_:=Az.mk (Kd.V_elder' (by (with_reducible repeat (first | apply Kd.V_alloc | apply Kd.V_drewN | apply Kd.V_drew));exact HO1.out) (Kd.N_base ho9) hb);have n1_:=Az.mk (Kd.N_lower ho9 (bwZ (by repeat (first | (with_reducible first | exact HB.out | apply bwA | apply bwN | apply bw1 | refine bwS ?_ GE511.out) | exact HB.out))));have n2_:=Az.mk (kB (g:=gb511) (o:=.cells #[.bool a0_0,.int .i64 a0_1,.int .i64 a0_2,.int .i64 a0_3,.int .i64 a0_4,.slice A0_5 l0_5.length c0_5] 29 (0,0)) (by (with_reducible repeat (first | refine kN ?_ _ | refine kD ?_ | refine kA ?_ _));exact BK511.out) hb);have n3_:=Az.mk (bwT (by repeat (first | (with_reducible first | exact HB.out | apply bwA | apply bwN | apply bw1 | refine bwS ?_ GE511.out) | exact HB.out)) hb);clear HO1;clear BK511;clear HB;clear HO519;have HO1:=n0_;have HO522:=n1_;have BK511:=n2_;have HB:=n3_;clear n0_ n1_ n2_ n3_;clear hb ho9))
 go_loopg [5,15] k (fun kq v5 v15 w'=>∃ (x5_1 : List (S29)) (x15_1 : Int),v15 = .int .i64 x15_1∧Az (w4grown.l0 kq x5_1 l1 (l1.length : Int) x15_1 = some r)∧Az (kq≤k)∧Az (Kd.N k29 29 w' w.heap.size (fun k_=>(P1_ k_∨w.heap.size≤k_)) v5 x5_1)∧Az (Kd.C k32 w' A1 l1.length l1)∧Az (Below w.heap.size w w'))
 case atStart=>exact ⟨y520,0,rfl,H',⟨Nat.le_refl _⟩,⟨by (with_reducible repeat (first | apply Kd.N_alloc | apply Kd.N_drewN | apply Kd.N_drew));exact Kd.N_mono HO522.out (fun _ h_=>h_.1)⟩,⟨by (with_reducible repeat (first | refine Kd.C_alloc ?_ _ | refine Kd.C_drewN ?_ _ | refine Kd.C_drew ?_));exact (Kd.V_reads' HO1.out).2.2⟩,⟨by repeat (first | (with_reducible first | exact HB.out | apply bwA | apply bwN | apply bw1))⟩⟩
 case round=>
  clear H' HO1 HO522 BK511 HB
  obtain ⟨x5,x15,rfl,HA,HK1,HN,HCS,HB⟩:=hrel
  cases gk with
  | zero=>exact absurd HA.out (by simp [w4grown.l0])
  | succ k1=>
   have H:=HA.out
   clear HA
   simp only [w4grown.l0] at H
   obtain ⟨A5,c5,rfl⟩:=Kd.N_slice HN.out
   have HX5:=Az.mk (Kd.N_reads' HN.out).2.2
   have HL5:=Az.mk (Kd.N_reads' HN.out).2.1
   by_cases c1 : x15 < (l1.length : Int)
   case neg=>
    rw [if_neg c1] at H
    have c1b : decide (x15 < (l1.length : Int)) = false:=decide_eq_false c1
    obtain rfl:=Option.some.inj H
    clear c1 H
    go_wp2
    go_ret
    exact ⟨_,rfl,by (with_reducible repeat (first | apply Kd.N_alloc | apply Kd.N_drewN | apply Kd.N_drew));exact HN.out,by repeat (first | (with_reducible first | exact HB.out | apply bwA | apply bwN | apply bw1))⟩
   rw [if_pos c1] at H
   by_cases c2 : 0≤x15
   case neg=>rw [if_neg c2] at H;cases H
   rw [if_pos c2,if_pos c1] at H
   have H':=Az.mk H
   clear H
   have c1b : decide (x15 < (l1.length : Int)) = true:=decide_eq_true c1
   obtain ⟨ad,A7,c7,e0,hx0,hx1,hx2,hx3,hx4,hx5,hx6,hx7,hx8,hl7,hi7⟩:=at_T32 HCS.out x15 c2 c1
   cases e0
   have p1:=eq_true c1
   have p2:=eq_true c2
   have HL7:=Az.mk hl7
   have HI7:=Az.mk hi7
   clear hl7 hi7 c1 c2
   generalize hq : rd_T32 l1 x15 = q at *
   clear hq
   go_upto_region 5 with (first
    | ((with_reducible refine gate_dst (N:=7) rfl ?_);refine box_event ?hg (N:=7) ?hd (cs:=#[.int .i64 0,.int .i64 0,.bool false,.int .i64 0,.int .i64 0,.int .i64 0,.int .i64 0,.slice none 0 0,.int .i64 0]) (t:=32) ?hr ?_;(case hd=>rfl);(case hg=>rfl);(case hr=>first | (go_simp;done) | (go_simp;rfl));intro g hg w2 hbox hb;have BK:=Az.mk hbox;have HB2:=Az.mk (show Below wr.heap.size wr w2 from hb);have GE:=Az.mk (show wr.heap.size≤g from Nat.le_of_eq hg.symm);clear hb hbox hg;have hcz0 : w2.cell? ⟨g,0,none⟩ = some (.int .i64 0):=(kC BK.out 0).trans rfl;have hcz1 : w2.cell? ⟨g,1,none⟩ = some (.int .i64 0):=(kC BK.out 1).trans rfl;have hcz2 : w2.cell? ⟨g,2,none⟩ = some (.bool false):=(kC BK.out 2).trans rfl;have hcz3 : w2.cell? ⟨g,3,none⟩ = some (.int .i64 0):=(kC BK.out 3).trans rfl;have hcz4 : w2.cell? ⟨g,4,none⟩ = some (.int .i64 0):=(kC BK.out 4).trans rfl;have hcz5 : w2.cell? ⟨g,5,none⟩ = some (.int .i64 0):=(kC BK.out 5).trans rfl;have hcz6 : w2.cell? ⟨g,6,none⟩ = some (.int .i64 0):=(kC BK.out 6).trans rfl;have hcz7 : w2.cell? ⟨g,7,none⟩ = some (.slice none 0 0):=(kC BK.out 7).trans rfl;have hcz8 : w2.cell? ⟨g,8,none⟩ = some (.int .i64 0):=(kC BK.out 8).trans rfl;have hfz0:=kF BK.out 0;have hfz1:=kF BK.out 1;have hfz2:=kF BK.out 2;have hfz3:=kF BK.out 3;have hfz4:=kF BK.out 4;have hfz5:=kF BK.out 5;have hfz6:=kF BK.out 6;have hfz7:=kF BK.out 7;have hfz8:=kF BK.out 8)
    | ((with_reducible refine gate_store (t:=32) (p:=7) rfl ?_);refine store_event (t:=32) (p:=7) (v:=?vo_w23) (w1:=(((((((((w2.setCell ⟨g,0,none⟩ (.int .i64 q.f0)).setCell ⟨g,1,none⟩ (.int .i64 q.f1)).setCell ⟨g,2,none⟩ (.bool q.f2.f0)).setCell ⟨g,3,none⟩ (.int .i64 q.f2.f1)).setCell ⟨g,4,none⟩ (.int .i64 q.f2.f2)).setCell ⟨g,5,none⟩ (.int .i64 q.f2.f3)).setCell ⟨g,6,none⟩ (.int .i64 q.f2.f4)).setCell ⟨g,7,none⟩ (.slice A7 q.f2.f5.length c7)).setCell ⟨g,8,none⟩ (.int .i64 q.f3))) ?hg ?ho ?hn ?hr ?_;(case ho=>rfl);(case hg=>rfl);(case hn=>rfl);(case hr=>first | (go_simp;done) | (go_simp;rfl));intro w3 hw;have BK3:=Az.mk (grown_box hw BK.out);have HB3:=Az.mk (grown_below hw HB2.out GE.out);clear hw hcz0 hcz1 hcz2 hcz3 hcz4 hcz5 hcz6 hcz7 hcz8 hfz0 hfz1 hfz2 hfz3 hfz4 hfz5 hfz6 hfz7 hfz8 BK HB2))
   clear hx0 hx1 hx2 hx3 hx4 hx5 hx6 hx7 hx8 hs1 HR0_5 HC0_5 A3 Ny520 HV518 GW511 GE511
   clear hcz5_0 hcz5_1 hcz5_2 hcz5_3 hcz5_4 hcz5_5 hfz5_0 hfz5_1 hfz5_2 hfz5_3 hfz5_4 hfz5_5 p1 p2
   have HX3:=Az.mk (Kd.C_below HX5.out HB3.out)
   have HI3:=Az.mk (Kd.C_below HI7.out HB3.out)
   have HS3:=Az.mk (Kd.C_below HCS.out HB3.out)
   have HX6:=HX5
   have HI6:=HI7
   clear HX5 HI7
   have H:=H'.out
   clear H'
   by_cases c3 : x15≥300
   case pos=>
    rw [if_pos c3] at H
    obtain rfl:=Option.some.inj H
    have c3b : decide (300≤x15) = true:=decide_eq_true c3
    clear c3 H
    go_wp2
    go_ret
    exact ⟨_,rfl,by (with_reducible repeat (first | apply Kd.N_alloc | apply Kd.N_drewN | apply Kd.N_drew));exact Kd.N_below HN.out HB3.out,by repeat (first | (with_reducible first | exact (bwT HB.out HB3.out) | apply bwA | apply bwN | apply bw1))⟩
   rw [if_neg c3] at H
   have c3b : decide (300≤x15) = false:=decide_eq_false c3
   have HH:=Az.mk H
   clear c3 H
   have hy0 : w3.cell? ⟨g,0,none⟩ = some (.int .i64 q.f0):=(kC BK3.out 0).trans rfl
   have hy1 : w3.cell? ⟨g,1,none⟩ = some (.int .i64 q.f1):=(kC BK3.out 1).trans rfl
   have hy2 : w3.cell? ⟨g,2,none⟩ = some (.bool q.f2.f0):=(kC BK3.out 2).trans rfl
   have hy3 : w3.cell? ⟨g,3,none⟩ = some (.int .i64 q.f2.f1):=(kC BK3.out 3).trans rfl
   have hy4 : w3.cell? ⟨g,4,none⟩ = some (.int .i64 q.f2.f2):=(kC BK3.out 4).trans rfl
   have hy5 : w3.cell? ⟨g,5,none⟩ = some (.int .i64 q.f2.f3):=(kC BK3.out 5).trans rfl
   have hy6 : w3.cell? ⟨g,6,none⟩ = some (.int .i64 q.f2.f4):=(kC BK3.out 6).trans rfl
   have hy7 : w3.cell? ⟨g,7,none⟩ = some (.slice A7 q.f2.f5.length c7):=(kC BK3.out 7).trans rfl
   have hy8 : w3.cell? ⟨g,8,none⟩ = some (.int .i64 q.f3):=(kC BK3.out 8).trans rfl
   have hfy8:=kF BK3.out 8
   go_upto_block 2 with fail
   go_cut [8] (fun v8 wx=>∃ x8 : List S29,Az (Kd.N k29 29 wx wr.heap.size (fun k_=>wr.heap.size≤k_) v8 x8)∧Az (Below wr.heap.size wr wx)∧Az ((if (x8.length : Int) > 0 then w4grown.l0 k1 x8 l1 (l1.length : Int) (wrap64 (x15 + 1)) else w4grown.l0 k1 x5 l1 (l1.length : Int) (wrap64 (x15 + 1))) = some r))
   case first=>as_aux_lemma=>
    have H:=HH.out
    clear HH
    by_cases q1 : q.f0 = 1
    case pos=>
     rw [if_pos q1] at H
     obtain ⟨⟨t,t2,t3⟩,A90,H⟩:=Option.bind_eq_some_iff.mp H
     have A9:=Az.mk A90
     have HH:=Az.mk H
     have q1b : (q.f0 == 1) = true:=beq_iff_eq.mpr q1
     clear A90 H q1
     go_wp2_with (go_at_call 20;(with_reducible refine (r4Add.calls k1 A5 c5 x5 q.f2.f0 q.f2.f1 q.f2.f2 q.f2.f3 q.f2.f4 (fun _=>True) A7 c7 q.f2.f5 t t2 t3 _ (by repeat (first | (with_reducible exact HX3.out) | (with_reducible refine Kd.C_alloc ?_ _) | (with_reducible refine Kd.C_drewN ?_ _) | (with_reducible refine Kd.C_drew ?_))) HL5.out (V_int HL7.out (by repeat (first | (with_reducible exact HI3.out) | (with_reducible refine Kd.C_alloc ?_ _) | (with_reducible refine Kd.C_drewN ?_ _) | (with_reducible refine Kd.C_drew ?_)))) A9.out).mono ?_);rintro e w4 ⟨v8,rfl,hS,hb⟩;have HS4:=Az.mk hS;have HB4:=Az.mk (bwT (by repeat (first | (with_reducible first | exact HB3.out | apply bwA | apply bwN | apply bw1))) hb);have HZ:=Az.mk (bwZ (by repeat (first | (with_reducible first | exact HB3.out | apply bwA | apply bwN | apply bw1))));clear hS hb)
     go_meet
     exact ⟨t,⟨Kd.N_mono (Kd.N_lower (Kd.S_N HS4.out) HZ.out) (fun k_ hk=>Nat.le_trans HZ.out hk)⟩,HB4,HH⟩
    rw [if_neg q1] at H
    have q1b : (q.f0 == 1) = false:=beq_eq_false_iff_ne.mpr q1
    clear q1
    by_cases q2 : q.f0 = 2
    case pos=>
     rw [if_pos q2] at H
     obtain ⟨⟨t,t2⟩,A90,H⟩:=Option.bind_eq_some_iff.mp H
     have A9:=Az.mk A90
     have HH:=Az.mk H
     have q2b : (q.f0 == 2) = true:=beq_iff_eq.mpr q2
     clear A90 H q2
     go_wp2_with (go_at_call 47;(with_reducible refine (r4Update.calls k1 A5 c5 x5 q.f1 q.f2.f0 q.f2.f1 q.f2.f2 q.f2.f3 q.f2.f4 A7 c7 q.f2.f5 t t2 _ (by repeat (first | (with_reducible exact HX3.out) | (with_reducible refine Kd.C_alloc ?_ _) | (with_reducible refine Kd.C_drewN ?_ _) | (with_reducible refine Kd.C_drew ?_))) HL5.out (by repeat (first | (with_reducible exact HI3.out) | (with_reducible refine Kd.C_alloc ?_ _) | (with_reducible refine Kd.C_drewN ?_ _) | (with_reducible refine Kd.C_drew ?_))) HL7.out A9.out).mono ?_);rintro e w4 ⟨v8,rfl,hS,hb⟩;have HS4:=Az.mk hS;have HB4:=Az.mk (bwT (by repeat (first | (with_reducible first | exact HB3.out | apply bwA | apply bwN | apply bw1))) hb);have HZ:=Az.mk (bwZ (by repeat (first | (with_reducible first | exact HB3.out | apply bwA | apply bwN | apply bw1))));clear hS hb)
     go_meet
     exact ⟨t,⟨Kd.N_mono (Kd.N_lower (Kd.S_N (Kd.S_bound HS4.out)) HZ.out) (fun k_ hk=>Nat.le_trans HZ.out hk.2.1)⟩,HB4,HH⟩
    rw [if_neg q2] at H
    have q2b : (q.f0 == 2) = false:=beq_eq_false_iff_ne.mpr q2
    clear q2
    by_cases q3 : q.f0 = 3
    case pos=>
     rw [if_pos q3] at H
     obtain ⟨⟨t,t2⟩,A90,H⟩:=Option.bind_eq_some_iff.mp H
     have A9:=Az.mk A90
     have HH:=Az.mk H
     have q3b : (q.f0 == 3) = true:=beq_iff_eq.mpr q3
     clear A90 H q3
     go_wp2_with (go_at_call 48;(with_reducible refine (r4Remove.calls k1 A5 c5 x5 q.f1 t t2 _ (by repeat (first | (with_reducible exact HX3.out) | (with_reducible refine Kd.C_alloc ?_ _) | (with_reducible refine Kd.C_drewN ?_ _) | (with_reducible refine Kd.C_drew ?_))) HL5.out A9.out).mono ?_);rintro e w4 ⟨v8,rfl,hS,hb⟩;have HS4:=Az.mk hS;have HB4:=Az.mk (bwT (by repeat (first | (with_reducible first | exact HB3.out | apply bwA | apply bwN | apply bw1))) hb);have HZ:=Az.mk (bwZ (by repeat (first | (with_reducible first | exact HB3.out | apply bwA | apply bwN | apply bw1))));clear hS hb)
     go_meet
     exact ⟨t,⟨Kd.N_mono (Kd.N_lower (Kd.S_N (Kd.S_bound HS4.out)) HZ.out) (fun k_ hk=>Nat.le_trans HZ.out hk.2.1)⟩,HB4,HH⟩
    rw [if_neg q3] at H
    have q3b : (q.f0 == 3) = false:=beq_eq_false_iff_ne.mpr q3
    clear q3
    by_cases q4 : q.f0 = 4
    case neg=>
     rw [if_neg q4] at H
     have q4b : (q.f0 == 4) = false:=beq_eq_false_iff_ne.mpr q4
     have HH:=Az.mk H
     clear H q4
     go_wp2
     go_meet
     exact ⟨[],⟨Kd.N_nil _ _ _ _ _⟩,⟨(by repeat (first | (with_reducible first | exact HB3.out | apply bwA | apply bwN | apply bw1)))⟩,HH⟩
    rw [if_pos q4] at H
    obtain ⟨ks,A80,H⟩:=Option.bind_eq_some_iff.mp H
    obtain ⟨⟨t,t2⟩,A90,H⟩:=Option.bind_eq_some_iff.mp H
    have A8:=Az.mk A80
    have A9:=Az.mk A90
    have HH:=Az.mk H
    have q4b : (q.f0 == 4) = true:=beq_iff_eq.mpr q4
    clear A80 A90 H q4
    go_upto_region 16 with ((with_reducible refine gate_store (t:=3) (p:=56) rfl ?_);refine store_event (t:=3) (p:=56) (v:=?vo_w24) (w1:=(w3.setCell ⟨g,8,none⟩ (.int .i64 0))) ?hg ?ho ?hn ?hr ?_;(case ho=>rfl);(case hg=>rfl);(case hn=>rfl);(case hr=>first | (go_simp;done) | (go_simp;rfl));intro w5 hw;have BK5:=Az.mk (show w5.heap[g]? = some (.cells #[.int .i64 q.f0,.int .i64 q.f1,.bool q.f2.f0,.int .i64 q.f2.f1,.int .i64 q.f2.f2,.int .i64 q.f2.f3,.int .i64 q.f2.f4,.slice A7 q.f2.f5.length c7,.int .i64 0] 32 (0,0)) from by rw [hw];exact blk_put BK3.out 8 _ rfl);have HB5:=Az.mk (show Below wr.heap.size wr w5 from by rw [hw];exact bwS HB3.out GE.out);clear hw)
    clear hy0 hy1 hy2 hy3 hy4 hy5 hy6 hy7 hy8 hfy8 HX3 HI3 HS3 BK3 HB3
    have HX3:=Az.mk (Kd.C_below HX6.out HB5.out)
    have HI3:=Az.mk (Kd.C_below HI6.out HB5.out)
    have HB3:=HB5
    have hz0 : w5.cell? ⟨g,0,none⟩ = some (.int .i64 q.f0):=(kC BK5.out 0).trans rfl
    have hz1 : w5.cell? ⟨g,1,none⟩ = some (.int .i64 q.f1):=(kC BK5.out 1).trans rfl
    have hz2 : w5.cell? ⟨g,2,none⟩ = some (.bool q.f2.f0):=(kC BK5.out 2).trans rfl
    have hz3 : w5.cell? ⟨g,3,none⟩ = some (.int .i64 q.f2.f1):=(kC BK5.out 3).trans rfl
    have hz4 : w5.cell? ⟨g,4,none⟩ = some (.int .i64 q.f2.f2):=(kC BK5.out 4).trans rfl
    have hz5 : w5.cell? ⟨g,5,none⟩ = some (.int .i64 q.f2.f3):=(kC BK5.out 5).trans rfl
    have hz6 : w5.cell? ⟨g,6,none⟩ = some (.int .i64 q.f2.f4):=(kC BK5.out 6).trans rfl
    have hz7 : w5.cell? ⟨g,7,none⟩ = some (.slice A7 q.f2.f5.length c7):=(kC BK5.out 7).trans rfl
    have hz8 : w5.cell? ⟨g,8,none⟩ = some (.int .i64 0):=(kC BK5.out 8).trans rfl
    go_upto_region 17 with (go_at_call 39;(with_reducible refine (w4keys.calls k1 A5 c5 x5 q.f0 q.f1 q.f2.f0 q.f2.f1 q.f2.f2 q.f2.f3 q.f2.f4 A7 c7 q.f2.f5 0 ks _ (by repeat (first | (with_reducible exact HX3.out) | (with_reducible refine Kd.C_alloc ?_ _) | (with_reducible refine Kd.C_drewN ?_ _) | (with_reducible refine Kd.C_drew ?_))) HL5.out (by repeat (first | (with_reducible exact HI3.out) | (with_reducible refine Kd.C_alloc ?_ _) | (with_reducible refine Kd.C_drewN ?_ _) | (with_reducible refine Kd.C_drew ?_))) HL7.out A8.out).mono ?_);rintro e w6 ⟨v9,rfl,hR,hb⟩;have HR6:=Az.mk hR;have BK6:=Az.mk (kB BK5.out hb);have HB6:=Az.mk (bwT (by repeat (first | (with_reducible first | exact HB3.out | apply bwA | apply bwN | apply bw1))) hb);clear hR hb)
    clear hz0 hz1 hz2 hz3 hz4 hz5 hz6 hz7 hz8 HX3 HI3 HB3 HB5 BK5
    have HX3:=Az.mk (Kd.C_below HX6.out HB6.out)
    have HI3:=Az.mk (Kd.C_below HI6.out HB6.out)
    have HB3:=HB6
    obtain ⟨Ak,ck,rfl⟩:=Kd.R_slice HR6.out
    have HK6:=Az.mk (Kd.R_reads' HR6.out).2.2
    have HKL:=Az.mk (Kd.R_reads' HR6.out).2.1
    have hu0 : w6.cell? ⟨g,0,none⟩ = some (.int .i64 q.f0):=(kC BK6.out 0).trans rfl
    have hu1 : w6.cell? ⟨g,1,none⟩ = some (.int .i64 q.f1):=(kC BK6.out 1).trans rfl
    have hu2 : w6.cell? ⟨g,2,none⟩ = some (.bool q.f2.f0):=(kC BK6.out 2).trans rfl
    have hu3 : w6.cell? ⟨g,3,none⟩ = some (.int .i64 q.f2.f1):=(kC BK6.out 3).trans rfl
    have hu4 : w6.cell? ⟨g,4,none⟩ = some (.int .i64 q.f2.f2):=(kC BK6.out 4).trans rfl
    have hu5 : w6.cell? ⟨g,5,none⟩ = some (.int .i64 q.f2.f3):=(kC BK6.out 5).trans rfl
    have hu6 : w6.cell? ⟨g,6,none⟩ = some (.int .i64 q.f2.f4):=(kC BK6.out 6).trans rfl
    have hu7 : w6.cell? ⟨g,7,none⟩ = some (.slice A7 q.f2.f5.length c7):=(kC BK6.out 7).trans rfl
    have hu8 : w6.cell? ⟨g,8,none⟩ = some (.int .i64 0):=(kC BK6.out 8).trans rfl
    go_wp2_with (go_at_call 49;(with_reducible refine (r4Merge.calls k1 A5 c5 x5 q.f1 q.f2.f0 q.f2.f1 q.f2.f2 q.f2.f3 q.f2.f4 (fun _=>True) A7 c7 q.f2.f5 Ak ck ks Ak ck ks t t2 _ (by repeat (first | (with_reducible exact HX3.out) | (with_reducible refine Kd.C_alloc ?_ _) | (with_reducible refine Kd.C_drewN ?_ _) | (with_reducible refine Kd.C_drew ?_))) HL5.out (V_int HL7.out (by repeat (first | (with_reducible exact HI3.out) | (with_reducible refine Kd.C_alloc ?_ _) | (with_reducible refine Kd.C_drewN ?_ _) | (with_reducible refine Kd.C_drew ?_)))) (by repeat (first | (with_reducible exact HK6.out) | (with_reducible refine Kd.C_alloc ?_ _) | (with_reducible refine Kd.C_drewN ?_ _) | (with_reducible refine Kd.C_drew ?_))) HKL.out (by repeat (first | (with_reducible exact HK6.out) | (with_reducible refine Kd.C_alloc ?_ _) | (with_reducible refine Kd.C_drewN ?_ _) | (with_reducible refine Kd.C_drew ?_))) HKL.out A9.out).mono ?_);rintro e w4 ⟨v8,rfl,hS,hb⟩;have HS4:=Az.mk hS;have HB4:=Az.mk (bwT (by repeat (first | (with_reducible first | exact HB3.out | apply bwA | apply bwN | apply bw1))) hb);have HZ:=Az.mk (bwZ (by repeat (first | (with_reducible first | exact HB3.out | apply bwA | apply bwN | apply bw1))));clear hS hb)
    go_meet
    exact ⟨t,⟨Kd.N_mono (Kd.N_lower (Kd.S_N HS4.out) HZ.out) (fun k_ hk=>Nat.le_trans HZ.out hk)⟩,HB4,HH⟩
   case rest=>
   obtain ⟨x8,HN8,HB8,HH⟩:=hcut
   clear hy0 hy1 hy2 hy3 hy4 hy5 hy6 hy7 hy8 hfy8 HX3 HI3 HS3 BK3 HB3
   have H:=HH.out
   clear HH
   obtain ⟨A8,c8,rfl⟩:=Kd.N_slice HN8.out
   by_cases c9 : (x8.length : Int) > 0
   · rw [if_pos c9] at H
     have HH:=Az.mk H
     have c9b : decide (0 < (x8.length : Int)) = true:=decide_eq_true c9
     have c9n : decide (0 < x8.length) = true:=decide_eq_true (by omega)
     clear c9 H
     go_wp2
     go_roundg k1
     case measure=>have:=HK1.out;omega
     case rel=>exact ⟨x8,wrap64 (x15 + 1),(by first | rfl | (simp;done) | (simp [*];done)),HH,⟨by have:=HK1.out;omega⟩,⟨by (with_reducible repeat (first | apply Kd.N_alloc | apply Kd.N_drewN | apply Kd.N_drew));exact Kd.N_mono (Kd.N_lower HN8.out (bwZ HB.out)) (fun k_ hk=>.inr (Nat.le_trans (bwZ HB.out) hk))⟩,⟨by (with_reducible repeat (first | refine Kd.C_alloc ?_ _ | refine Kd.C_drewN ?_ _ | refine Kd.C_drew ?_));exact Kd.C_below HCS.out HB8.out⟩,⟨by repeat (first | (with_reducible first | exact (bwT HB.out HB8.out) | apply bwA | apply bwN | apply bw1))⟩⟩
   · rw [if_neg c9] at H
     have HH:=Az.mk H
     have c9b : decide (0 < (x8.length : Int)) = false:=decide_eq_false c9
     have c9n : decide (0 < x8.length) = false:=decide_eq_false (by omega)
     clear c9 H
     go_wp2
     go_roundg k1
     case measure=>have:=HK1.out;omega
     case rel=>exact ⟨x5,wrap64 (x15 + 1),(by first | rfl | (simp;done) | (simp [*];done)),HH,⟨by have:=HK1.out;omega⟩,⟨by (with_reducible repeat (first | apply Kd.N_alloc | apply Kd.N_drewN | apply Kd.N_drew));exact Kd.N_below HN.out HB8.out⟩,⟨by (with_reducible repeat (first | refine Kd.C_alloc ?_ _ | refine Kd.C_drewN ?_ _ | refine Kd.C_drew ?_));exact Kd.C_below HCS.out HB8.out⟩,⟨by repeat (first | (with_reducible first | exact (bwT HB.out HB8.out) | apply bwA | apply bwN | apply bw1))⟩⟩
end Go.Proofs.YtbblomnhobodkaaDoor.PTw
namespace Go.Proofs.YtbblomnhobodkaaDoor.PTw
open Go.RowKit Go.Proofs.YtbblomnhobodkaaDoorW.PW Go.Proofs.YtbblomnhobodkaaDoorW.PL Go.Proofs.YtbblomnhobodkaaDoorW.PM
attribute [local go_sem] max2_int min2_int max_two min_two max_three min_three max_four min_four   -- for this text's walks alone
set_option linter.unusedVariables false
set_option linter.unusedSimpArgs false
def tree_Members.l0 : Nat→List (S29)→List Int→Int→Int→Option (List Int)
 | 0,_,_,_,_=>none
 | k + 1,x0,x3,x6,x7=>if x7 < x6 then (if 0≤(wrap64 (2 * x7)) then (if (wrap64 (2 * x7)) < (x0.length : Int) then (if (rd_T29 x0 (wrap64 (2 * x7))).f0 = true then (if x3.length < 17592186044416 then (tree_Members.l0 k x0 (x3 ++ [x7]) x6 (wrap64 (x7 + 1))) else (none)) else (tree_Members.l0 k x0 x3 x6 (wrap64 (x7 + 1)))) else (none)) else (none)) else (some x3)
def tree_Members.f (k : Nat) (l0 : List (S29)) : Option (List Int):=(tree_Leaves.f l0).bind fun t571=>(tree_Members.l0 k l0 ([] : List Int) t571 0)
theorem tree_Members.mono_l : ∀ k,(∀ y0 y1 y2 y3,LeO (tree_Members.l0 k y0 y1 y2 y3) (tree_Members.l0 (k + 1) y0 y1 y2 y3))
 | 0=>fun _ _ _ _ r h=>by simp [tree_Members.l0] at h
 | k + 1=>by
  have ih0:=tree_Members.mono_l k
  · intro y0 y1 y2 y3
    unfold tree_Members.l0
    repeat' first
    | (with_reducible exact ih0 _ _ _ _)
    | (with_reducible exact LeO.refl _)
    | (with_reducible exact LeO.none _)
    | (with_reducible refine LeO.ite ?_ ?_)
    | (with_reducible refine LeO.bind ?_ (fun _=>?_))
    | exact ih0 _ _ _ _
    | exact LeO.none _
    | refine LeO.ite ?_ ?_
    | refine LeO.bind ?_ (fun _=>?_)
theorem tree_Members.mono : ∀ a0 k,LeO (tree_Members.f k a0) (tree_Members.f (k + 1) a0):=by
 intro a0 k
 have ih0:=tree_Members.mono_l k
 unfold tree_Members.f
 repeat' first
  | (with_reducible exact ih0 _ _ _ _)
  | (with_reducible exact LeO.refl _)
  | (with_reducible exact LeO.none _)
  | (with_reducible refine LeO.ite ?_ ?_)
  | (with_reducible refine LeO.bind ?_ (fun _=>?_))
  | exact ih0 _ _ _ _
  | exact LeO.none _
  | refine LeO.ite ?_ ?_
  | refine LeO.bind ?_ (fun _=>?_)
set_option maxHeartbeats 8000000 in
set_option maxRecDepth 100000 in
theorem tree_Members.calls (k : Nat) (A0 : Option Addr) (c0 : Nat) (l0 : List (S29)) (r : List Int) (w : World) (hr0 : Kd.C k29 w A0 l0.length l0) (hc0 : l0.length≤c0) (h : tree_Members.f k l0 = some r) :
 Calls Tryd.prog 24 #[.slice A0 l0.length c0] w fun e w'=>∃ v0_ : Value,e = .returned (v0_)∧Kd.R (Kd.int .i64) 3 w' w.heap.size (fun _=>True) v0_ r∧Below w.heap.size w w':=by
 have HR0:=Az.mk hr0
 have HC0:=Az.mk hc0
 clear hr0 hc0
 have HB:=Az.mk (Below.refl w.heap.size w)
 have H : ((tree_Leaves.f l0).bind fun t571=>(tree_Members.l0 k l0 ([] : List Int) t571 0)) = some r:=h
 clear h
 replace H:=Option.bind_eq_some_iff.mp H
 obtain ⟨t571,A20,H⟩:=H
 replace H : (tree_Members.l0 k l0 ([] : List Int) t571 0) = some r:=H
 have A2:=Az.mk A20
 clear A20
 have H':=Az.mk H
 clear H
 go_enter Tryd.func24,Tryd.ntmps24
 go_wp2_with (first | ((with_reducible refine gate_callee (f:=29) rfl ?_);refine goesL_ (some 6) rfl rfl Tryd.func29 (by kernel_rfl) rfl #[.slice A0 l0.length c0] rfl (by (try simp only [List.map_toArray,List.map_cons,List.map_nil]);first | done | rfl | (simp only [List.length_drop,List.length_take];rfl)) ?_;(with_reducible refine (tree_Leaves.calls _ _ l0 t571 _ ?side1 ?side2 A2.out).mono ?_);(case side1=>exact C_mv (HR0.out));(case side2=>exact HC0.out);rintro e w' ⟨rfl,⟨nd,rfl⟩⟩;refine ⟨_,rfl,?_⟩))
 go_loopg [3,7] k (fun kq v3 v7 w'=>∃ (x3_1 : List Int) (x7_1 : Int),v7 = .int .i64 x7_1∧Az (tree_Members.l0 kq l0 x3_1 t571 x7_1 = some r)∧Az (kq≤k)∧Az (Kd.R (Kd.int .i64) 3 w' w.heap.size (fun _=>True) v3 x3_1)∧Az (Below w.heap.size w w'))
 case atStart=>exact ⟨(([] : List Int)),(0),(by first | rfl | (simp;done) | (simp [*];done)),H',⟨Nat.le_refl _⟩,⟨by first | exact Kd.R_nil _ _ _ _ _ | exact Kd.N_nil _ _ _ _ _ | exact Kd.V_nil _ _ _ _ _ | exact Kd.Q_nil _ _ _ _ _ | exact Kd.S_nil _ _ _ _ _⟩,⟨bmv HB.out⟩⟩
 case round=>
  clear H'
  obtain ⟨x3_1,x7_1,rfl,HA,HK1,HO_3,HB⟩:=hrel
  cases gk with
  | zero=>exact absurd HA.out (by simp [tree_Members.l0])
  | succ k1=>
   have H:=HA.out
   clear HA
   simp only [tree_Members.l0] at H
   by_cases c3 : x7_1 < t571
   · rw [if_pos c3] at H
     have c3b0 : decide (x7_1 < t571) = true:=decide_eq_true c3
     clear c3
     obtain ⟨ji4,hji4⟩ : ∃ j_ : Int,(wrap64 (2 * x7_1)) = j_:=⟨_,rfl⟩
     replace H : (if 0≤(ji4) then (if (ji4) < (l0.length : Int) then (if (rd_T29 l0 (ji4)).f0 = true then (if x3_1.length < 17592186044416 then (tree_Members.l0 k1 l0 (x3_1 ++ [x7_1]) t571 (wrap64 (x7_1 + 1))) else (none)) else (tree_Members.l0 k1 l0 x3_1 t571 (wrap64 (x7_1 + 1)))) else (none)) else (none)) = some r:=by first | (rw [hji4] at H;exact H) | (simp only [hji4] at H ⊢;exact H)
     have hji4w : (IntKind.i64.wrap (2 * x7_1)) = ji4:=(i64_w _).trans hji4
     by_cases c5 : 0≤(ji4)
     · rw [if_pos c5] at H
       have c5b0 : decide (0≤(ji4)) = true:=decide_eq_true c5
       clear c5
       by_cases c6 : (ji4) < (l0.length : Int)
       · rw [if_pos c6] at H
         have c6b0 : decide ((ji4) < (l0.length : Int)) = true:=decide_eq_true c6
         clear c6
         obtain ⟨bq7,hbq7⟩ : ∃ b_ : Bool,b_ = ((rd_T29 l0 (ji4)).f0):=⟨_,rfl⟩
         replace H : (if bq7 = true then (if x3_1.length < 17592186044416 then (tree_Members.l0 k1 l0 (x3_1 ++ [x7_1]) t571 (wrap64 (x7_1 + 1))) else (none)) else (tree_Members.l0 k1 l0 x3_1 t571 (wrap64 (x7_1 + 1)))) = some r:=by rw [← hbq7] at H;exact H
         have Nbq7:=Az.mk hbq7
         clear hbq7
         by_cases c8 : bq7 = true
         · subst c8
           have H1 : (if x3_1.length < 17592186044416 then (tree_Members.l0 k1 l0 (x3_1 ++ [x7_1]) t571 (wrap64 (x7_1 + 1))) else (none)) = some r:=by rw [if_pos rfl] at H;exact H
           clear H
           have H:=H1
           clear H1
           by_cases c9 : x3_1.length < 17592186044416
           · rw [if_pos c9] at H
             have LMc9:=Az.mk c9
             clear c9
             obtain ⟨y573,hy573⟩ : ∃ y_ : List Int,y_ = (x3_1 ++ [x7_1]):=⟨_,rfl⟩
             replace H : (tree_Members.l0 k1 l0 y573 t571 (wrap64 (x7_1 + 1))) = some r:=by first | (rw [hy573];with_reducible exact H) | (have H2_:=(Option.bind_some _ _).symm.trans H;rw [hy573];with_reducible exact H2_) | (have H2_:=(Option.bind_some _ _).symm.trans H;with_reducible exact H2_) | with_reducible exact H | (rw [hy573];exact H) | exact H
             have Ny573:=Az.mk hy573
             clear hy573
             have H':=Az.mk H
             clear H
             have p572 : 0≤((ji4) : Int):=of_decide_eq_true (by first | (with_reducible assumption) | assumption)
             have q572 : (ji4) < (l0.length : Int):=of_decide_eq_true (by first | (with_reducible assumption) | assumption)
             obtain ⟨ad572,A572_5,c572_5,e572,hx572_0,hx572_1,hx572_2,hx572_3,hx572_4,hx572_5,hl572_5,hi572_5⟩:=at_T29 HR0.out (ji4) p572 q572
             (try rw [← Nbq7.out] at hx572_0)
             cases e572
             replace hx572_0:=(HB.out.cell (World.block_lt_of_cell? w _ hx572_0)).trans hx572_0
             replace hx572_1:=(HB.out.cell (World.block_lt_of_cell? w _ hx572_1)).trans hx572_1
             replace hx572_2:=(HB.out.cell (World.block_lt_of_cell? w _ hx572_2)).trans hx572_2
             replace hx572_3:=(HB.out.cell (World.block_lt_of_cell? w _ hx572_3)).trans hx572_3
             replace hx572_4:=(HB.out.cell (World.block_lt_of_cell? w _ hx572_4)).trans hx572_4
             replace hx572_5:=(HB.out.cell (World.block_lt_of_cell? w _ hx572_5)).trans hx572_5
             have HR572_5:=Az.mk hi572_5
             have HC572_5:=Az.mk hl572_5
             clear hi572_5 hl572_5
             replace p572:=eq_true p572
             replace q572:=eq_true q572
             go_wp2_with (first | ((with_reducible refine gate_builtin (b:=.append) (xs:=#[.tmp 16,.tmp 18]) rfl ?_);at_builtin;refine Kd.R_append (Kd.int .i64) (w0:=w) w.heap.size rfl (.tmp 16) (.tmp 18) 27 3 (.int .i64 0) 8 rfl Tryd.underlying27 info3 rfl (by decide) (by omega) u3 x3_1 x7_1 [.int .i64 x7_1] (fun _=>True) (fun _=>False) rfl rfl ?aP (fun _ hk=>hk.elim) ?aF ?aO ?aB ?aS ?aL ?_;(case aP=>exact rfl);(case aB=>exact (bmv HB.out));(case aF=>exact (fun _ _=>trivial));(case aO=>exact (R_mv HO_3.out));(case aS=>exact (bwZ (bmv HB.out)));(case aL=>have:=LMc9.out;omega);intro v574 w10 ho hb hg hat;rw [← Ny573.out] at ho;have n0_:=Az.mk (hb);have n1_:=Az.mk (ho);clear HB;clear HO_3;have HB:=n0_;have HO575:=n1_;clear n0_ n1_;clear ho hb hg hat))
             go_roundg k1
             case measure=>have:=HK1.out;omega
             case rel=>exact ⟨(y573),(wrap64 (x7_1 + 1)),(by first | rfl | (simp;done) | (simp [*];done)),H',⟨by have:=HK1.out;omega⟩,⟨R_mv HO575.out⟩,⟨bmv HB.out⟩⟩
           · rw [if_neg c9] at H
             exact absurd H (by simp)
         · replace c8:=Bool.eq_false_iff.mpr c8
           subst c8
           have H1 : (tree_Members.l0 k1 l0 x3_1 t571 (wrap64 (x7_1 + 1))) = some r:=by rw [if_neg (show ¬ (false = true) by decide)] at H;exact H
           clear H
           have H:=H1
           clear H1
           have H':=Az.mk H
           clear H
           have p572 : 0≤((ji4) : Int):=of_decide_eq_true (by first | (with_reducible assumption) | assumption)
           have q572 : (ji4) < (l0.length : Int):=of_decide_eq_true (by first | (with_reducible assumption) | assumption)
           obtain ⟨ad572,A572_5,c572_5,e572,hx572_0,hx572_1,hx572_2,hx572_3,hx572_4,hx572_5,hl572_5,hi572_5⟩:=at_T29 HR0.out (ji4) p572 q572
           (try rw [← Nbq7.out] at hx572_0)
           cases e572
           replace hx572_0:=(HB.out.cell (World.block_lt_of_cell? w _ hx572_0)).trans hx572_0
           replace hx572_1:=(HB.out.cell (World.block_lt_of_cell? w _ hx572_1)).trans hx572_1
           replace hx572_2:=(HB.out.cell (World.block_lt_of_cell? w _ hx572_2)).trans hx572_2
           replace hx572_3:=(HB.out.cell (World.block_lt_of_cell? w _ hx572_3)).trans hx572_3
           replace hx572_4:=(HB.out.cell (World.block_lt_of_cell? w _ hx572_4)).trans hx572_4
           replace hx572_5:=(HB.out.cell (World.block_lt_of_cell? w _ hx572_5)).trans hx572_5
           have HR572_5:=Az.mk hi572_5
           have HC572_5:=Az.mk hl572_5
           clear hi572_5 hl572_5
           replace p572:=eq_true p572
           replace q572:=eq_true q572
           go_wp2
           go_roundg k1
           case measure=>have:=HK1.out;omega
           case rel=>exact ⟨(x3_1),(wrap64 (x7_1 + 1)),(by first | rfl | (simp;done) | (simp [*];done)),H',⟨by have:=HK1.out;omega⟩,⟨R_mv HO_3.out⟩,⟨bmv HB.out⟩⟩
       · rw [if_neg c6] at H
         exact absurd H (by simp)
     · rw [if_neg c5] at H
       exact absurd H (by simp)
   · rw [if_neg c3] at H
     have c3b0 : decide (x7_1 < t571) = false:=decide_eq_false c3
     clear c3
     obtain rfl:=Option.some.inj H
     go_wp2
     go_ret
     exact ⟨_,by first | rfl | (simp [errW_none,errW_some] <;> rfl) | (simp [*,errW_none,errW_some] <;> rfl),R_mv HO_3.out,bmv HB.out⟩
end Go.Proofs.YtbblomnhobodkaaDoor.PTw
namespace Go.Proofs.YtbblomnhobodkaaDoor.PTw
open Go.RowKit Go.Proofs.YtbblomnhobodkaaDoorW.PW Go.Proofs.YtbblomnhobodkaaDoorW.PL Go.Proofs.YtbblomnhobodkaaDoorW.PM
attribute [local go_sem] max2_int min2_int max_two min_two max_three min_three max_four min_four   -- for this text's walks alone
set_option linter.unusedVariables false
set_option linter.unusedSimpArgs false
mutual
def w4TreeReaches.l0 : Nat→Int→List (S29)→Int→List Int→List Int→Int→Int→Option (Bool)
 | 0,_,_,_,_,_,_,_=>none
 | k + 1,x2,x7,x8,x10,x39,x40,x41=>if x41 < x40 then (if 0≤x41 then (if x41 < (x39.length : Int) then (if (rd x39 x41) < 0 then (w4TreeReaches.j1 k x2 x7 x8 x10 (rd x39 x41) x39 x40 x41 true) else (w4TreeReaches.j1 k x2 x7 x8 x10 (rd x39 x41) x39 x40 x41 (decide ((rd x39 x41)≥x8)))) else (none)) else (none)) else ((tree_Members.f k x7).bind fun t592=>((r4Members.f k x7).bind fun t595=>(some ((t592.length : Int) == (t595.length : Int)))))
def w4TreeReaches.j1 : Nat→Int→List (S29)→Int→List Int→Int→List Int→Int→Int→Bool→Option (Bool)
 | 0,_,_,_,_,_,_,_,_,_=>none
 | k + 1,x2,x7,x8,x10,x12,x39,x40,x41,x51=>if x51 = true then (some false) else (w4TreeReaches.l1 k x2 x7 x8 x10 x12 0 x39 x40 x41 x10 (x10.length : Int) 0)
def w4TreeReaches.l1 : Nat→Int→List (S29)→Int→List Int→Int→Int→List Int→Int→Int→List Int→Int→Int→Option (Bool)
 | 0,_,_,_,_,_,_,_,_,_,_,_,_=>none
 | k + 1,x2,x7,x8,x10,x12,x13,x39,x40,x41,x52,x53,x54=>if x54 < x53 then (if 0≤x54 then (if x54 < (x52.length : Int) then ((tree_Resolution.f k x7 (rd x52 x54)).bind fun t600=>(w4TreeReaches.l2 k x2 x7 x8 x10 x12 x13 x39 x40 x41 x52 x53 x54 t600 (t600.length : Int) 0)) else (none)) else (none)) else (if x12 = x2 then (if x13 = 0 then (w4TreeReaches.l0 k x2 x7 x8 x10 x39 x40 (wrap64 (x41 + 1))) else (some false)) else (if x13 = 1 then (w4TreeReaches.l0 k x2 x7 x8 x10 x39 x40 (wrap64 (x41 + 1))) else (some false)))
def w4TreeReaches.l2 : Nat→Int→List (S29)→Int→List Int→Int→Int→List Int→Int→Int→List Int→Int→Int→List Int→Int→Int→Option (Bool)
 | 0,_,_,_,_,_,_,_,_,_,_,_,_,_,_,_=>none
 | k + 1,x2,x7,x8,x10,x12,x13,x39,x40,x41,x52,x53,x54,x60,x61,x62=>if x62 < x61 then (if 0≤x62 then (if x62 < (x60.length : Int) then (if (rd x60 x62) < 0 then (w4TreeReaches.j4 k x2 x7 x8 x10 x12 x13 (rd x60 x62) x39 x40 x41 x52 x53 x54 x60 x61 x62 true) else (if (rd x60 x62)≥(x7.length : Int) then (w4TreeReaches.j4 k x2 x7 x8 x10 x12 x13 (rd x60 x62) x39 x40 x41 x52 x53 x54 x60 x61 x62 true) else (if 0≤(rd x60 x62) then (if (rd x60 x62) < (x7.length : Int) then (w4TreeReaches.j4 k x2 x7 x8 x10 x12 x13 (rd x60 x62) x39 x40 x41 x52 x53 x54 x60 x61 x62 (!((rd_T29 x7 (rd x60 x62)).f0))) else (none)) else (none)))) else (none)) else (none)) else (w4TreeReaches.l1 k x2 x7 x8 x10 x12 x13 x39 x40 x41 x52 x53 (wrap64 (x54 + 1)))
def w4TreeReaches.j4 : Nat→Int→List (S29)→Int→List Int→Int→Int→Int→List Int→Int→Int→List Int→Int→Int→List Int→Int→Int→Bool→Option (Bool)
 | 0,_,_,_,_,_,_,_,_,_,_,_,_,_,_,_,_,_=>none
 | k + 1,x2,x7,x8,x10,x12,x13,x17,x39,x40,x41,x52,x53,x54,x60,x61,x62,x81=>if x81 = true then (some false) else (if 0≤x17 then (if x17 < (x7.length : Int) then (w4TreeReaches.l3 k x2 x7 x8 x10 x12 x13 x17 false x39 x40 x41 x52 x53 x54 x60 x61 x62 ((rd_T29 x7 x17).f5) (((rd_T29 x7 x17).f5).length : Int) 0) else (none)) else (none))
def w4TreeReaches.l3 : Nat→Int→List (S29)→Int→List Int→Int→Int→Int→Bool→List Int→Int→Int→List Int→Int→Int→List Int→Int→Int→List Int→Int→Int→Option (Bool)
 | 0,_,_,_,_,_,_,_,_,_,_,_,_,_,_,_,_,_,_,_,_=>none
 | k + 1,x2,x7,x8,x10,x12,x13,x17,x18,x39,x40,x41,x52,x53,x54,x60,x61,x62,x86,x87,x88=>if x88 < x87 then (if 0≤x88 then (if x88 < (x86.length : Int) then (if x18 = true then (w4TreeReaches.l3 k x2 x7 x8 x10 x12 x13 x17 true x39 x40 x41 x52 x53 x54 x60 x61 x62 x86 x87 (wrap64 (x88 + 1))) else (w4TreeReaches.l3 k x2 x7 x8 x10 x12 x13 x17 ((rd x86 x88) == x12) x39 x40 x41 x52 x53 x54 x60 x61 x62 x86 x87 (wrap64 (x88 + 1)))) else (none)) else (none)) else ((r3Under.f k (wrap64 (2 * x12)) x17 x8).bind fun t607=>(if t607 = true then (if x18 = true then (w4TreeReaches.l2 k x2 x7 x8 x10 x12 x13 x39 x40 x41 x52 x53 x54 x60 x61 (wrap64 (x62 + 1))) else (w4TreeReaches.l2 k x2 x7 x8 x10 x12 (wrap64 (x13 + 1)) x39 x40 x41 x52 x53 x54 x60 x61 (wrap64 (x62 + 1)))) else (w4TreeReaches.l2 k x2 x7 x8 x10 x12 x13 x39 x40 x41 x52 x53 x54 x60 x61 (wrap64 (x62 + 1)))))
end
def w4TreeReaches.f (k : Nat) (a0_0 : Bool) (a0_1 : Int) (a0_2 : Int) (a0_3 : Int) (a0_4 : Int) (l0_5 : List Int) (l1 : List (S32)) (a2 : Int) : Option (Bool):=(w4anchor.f k).bind fun t577=>(if t577 = true then ((w4grown.f k a0_0 a0_1 a0_2 a0_3 a0_4 l0_5 l1).bind fun t578=>((r4Leaves.f t578).bind fun t581=>((r4Full.f t578 a2).bind fun t582=>(if t582 = true then ((tree_Filtered.f k t578 a2).bind fun bt583=>((tree_Members.f k t578).bind fun t589=>(w4TreeReaches.l0 k a2 t578 t581 bt583.2 t589 (t589.length : Int) 0))) else (some true))))) else (some false))
theorem w4TreeReaches.mono_l : ∀ k,(∀ y0 y1 y2 y3 y4 y5 y6,LeO (w4TreeReaches.l0 k y0 y1 y2 y3 y4 y5 y6) (w4TreeReaches.l0 (k + 1) y0 y1 y2 y3 y4 y5 y6))∧(∀ y0 y1 y2 y3 y4 y5 y6 y7 y8,LeO (w4TreeReaches.j1 k y0 y1 y2 y3 y4 y5 y6 y7 y8) (w4TreeReaches.j1 (k + 1) y0 y1 y2 y3 y4 y5 y6 y7 y8))∧(∀ y0 y1 y2 y3 y4 y5 y6 y7 y8 y9 y10 y11,LeO (w4TreeReaches.l1 k y0 y1 y2 y3 y4 y5 y6 y7 y8 y9 y10 y11) (w4TreeReaches.l1 (k + 1) y0 y1 y2 y3 y4 y5 y6 y7 y8 y9 y10 y11))∧(∀ y0 y1 y2 y3 y4 y5 y6 y7 y8 y9 y10 y11 y12 y13 y14,LeO (w4TreeReaches.l2 k y0 y1 y2 y3 y4 y5 y6 y7 y8 y9 y10 y11 y12 y13 y14) (w4TreeReaches.l2 (k + 1) y0 y1 y2 y3 y4 y5 y6 y7 y8 y9 y10 y11 y12 y13 y14))∧(∀ y0 y1 y2 y3 y4 y5 y6 y7 y8 y9 y10 y11 y12 y13 y14 y15 y16,LeO (w4TreeReaches.j4 k y0 y1 y2 y3 y4 y5 y6 y7 y8 y9 y10 y11 y12 y13 y14 y15 y16) (w4TreeReaches.j4 (k + 1) y0 y1 y2 y3 y4 y5 y6 y7 y8 y9 y10 y11 y12 y13 y14 y15 y16))∧(∀ y0 y1 y2 y3 y4 y5 y6 y7 y8 y9 y10 y11 y12 y13 y14 y15 y16 y17 y18 y19,LeO (w4TreeReaches.l3 k y0 y1 y2 y3 y4 y5 y6 y7 y8 y9 y10 y11 y12 y13 y14 y15 y16 y17 y18 y19) (w4TreeReaches.l3 (k + 1) y0 y1 y2 y3 y4 y5 y6 y7 y8 y9 y10 y11 y12 y13 y14 y15 y16 y17 y18 y19))
 | 0=>⟨fun _ _ _ _ _ _ _ r h=>by simp [w4TreeReaches.l0] at h,fun _ _ _ _ _ _ _ _ _ r h=>by simp [w4TreeReaches.j1] at h,fun _ _ _ _ _ _ _ _ _ _ _ _ r h=>by simp [w4TreeReaches.l1] at h,fun _ _ _ _ _ _ _ _ _ _ _ _ _ _ _ r h=>by simp [w4TreeReaches.l2] at h,fun _ _ _ _ _ _ _ _ _ _ _ _ _ _ _ _ _ r h=>by simp [w4TreeReaches.j4] at h,fun _ _ _ _ _ _ _ _ _ _ _ _ _ _ _ _ _ _ _ _ r h=>by simp [w4TreeReaches.l3] at h⟩
 | k + 1=>by
  obtain ⟨ih0,ih1,ih2,ih3,ih4,ih5⟩:=w4TreeReaches.mono_l k
  refine ⟨?_,?_,?_,?_,?_,?_⟩
  ·
   intro y0 y1 y2 y3 y4 y5 y6
   unfold w4TreeReaches.l0
   repeat' first
   | (with_reducible exact ih0 _ _ _ _ _ _ _)
   | (with_reducible exact ih1 _ _ _ _ _ _ _ _ _)
   | (with_reducible exact ih2 _ _ _ _ _ _ _ _ _ _ _ _)
   | (with_reducible exact ih3 _ _ _ _ _ _ _ _ _ _ _ _ _ _ _)
   | (with_reducible exact ih4 _ _ _ _ _ _ _ _ _ _ _ _ _ _ _ _ _)
   | (with_reducible exact ih5 _ _ _ _ _ _ _ _ _ _ _ _ _ _ _ _ _ _ _ _)
   | (with_reducible exact w4anchor.mono _)
   | (with_reducible exact w4grown.mono _ _ _ _ _ _ _ _)
   | (with_reducible exact r3Under.mono _ _ _ _)
   | (with_reducible exact r4Members.mono _ _)
   | (with_reducible exact tree_Filtered.mono _ _ _)
   | (with_reducible exact tree_Members.mono _ _)
   | (with_reducible exact tree_Resolution.mono _ _ _)
   | (with_reducible exact LeO.refl _)
   | (with_reducible exact LeO.none _)
   | (with_reducible refine LeO.ite ?_ ?_)
   | (with_reducible refine LeO.bind ?_ (fun _=>?_))
   | exact ih0 _ _ _ _ _ _ _
   | exact ih1 _ _ _ _ _ _ _ _ _
   | exact ih2 _ _ _ _ _ _ _ _ _ _ _ _
   | exact ih3 _ _ _ _ _ _ _ _ _ _ _ _ _ _ _
   | exact ih4 _ _ _ _ _ _ _ _ _ _ _ _ _ _ _ _ _
   | exact ih5 _ _ _ _ _ _ _ _ _ _ _ _ _ _ _ _ _ _ _ _
   | exact w4anchor.mono _
   | exact w4grown.mono _ _ _ _ _ _ _ _
   | exact r3Under.mono _ _ _ _
   | exact r4Members.mono _ _
   | exact tree_Filtered.mono _ _ _
   | exact tree_Members.mono _ _
   | exact tree_Resolution.mono _ _ _
   | exact LeO.none _
   | refine LeO.ite ?_ ?_
   | refine LeO.bind ?_ (fun _=>?_)
  ·
   intro y0 y1 y2 y3 y4 y5 y6 y7 y8
   unfold w4TreeReaches.j1
   repeat' first
   | (with_reducible exact ih0 _ _ _ _ _ _ _)
   | (with_reducible exact ih1 _ _ _ _ _ _ _ _ _)
   | (with_reducible exact ih2 _ _ _ _ _ _ _ _ _ _ _ _)
   | (with_reducible exact ih3 _ _ _ _ _ _ _ _ _ _ _ _ _ _ _)
   | (with_reducible exact ih4 _ _ _ _ _ _ _ _ _ _ _ _ _ _ _ _ _)
   | (with_reducible exact ih5 _ _ _ _ _ _ _ _ _ _ _ _ _ _ _ _ _ _ _ _)
   | (with_reducible exact w4anchor.mono _)
   | (with_reducible exact w4grown.mono _ _ _ _ _ _ _ _)
   | (with_reducible exact r3Under.mono _ _ _ _)
   | (with_reducible exact r4Members.mono _ _)
   | (with_reducible exact tree_Filtered.mono _ _ _)
   | (with_reducible exact tree_Members.mono _ _)
   | (with_reducible exact tree_Resolution.mono _ _ _)
   | (with_reducible exact LeO.refl _)
   | (with_reducible exact LeO.none _)
   | (with_reducible refine LeO.ite ?_ ?_)
   | (with_reducible refine LeO.bind ?_ (fun _=>?_))
   | exact ih0 _ _ _ _ _ _ _
   | exact ih1 _ _ _ _ _ _ _ _ _
   | exact ih2 _ _ _ _ _ _ _ _ _ _ _ _
   | exact ih3 _ _ _ _ _ _ _ _ _ _ _ _ _ _ _
   | exact ih4 _ _ _ _ _ _ _ _ _ _ _ _ _ _ _ _ _
   | exact ih5 _ _ _ _ _ _ _ _ _ _ _ _ _ _ _ _ _ _ _ _
   | exact w4anchor.mono _
   | exact w4grown.mono _ _ _ _ _ _ _ _
   | exact r3Under.mono _ _ _ _
   | exact r4Members.mono _ _
   | exact tree_Filtered.mono _ _ _
   | exact tree_Members.mono _ _
   | exact tree_Resolution.mono _ _ _
   | exact LeO.none _
   | refine LeO.ite ?_ ?_
   | refine LeO.bind ?_ (fun _=>?_)
  ·
   intro y0 y1 y2 y3 y4 y5 y6 y7 y8 y9 y10 y11
   unfold w4TreeReaches.l1
   repeat' first
   | (with_reducible exact ih0 _ _ _ _ _ _ _)
   | (with_reducible exact ih1 _ _ _ _ _ _ _ _ _)
   | (with_reducible exact ih2 _ _ _ _ _ _ _ _ _ _ _ _)
   | (with_reducible exact ih3 _ _ _ _ _ _ _ _ _ _ _ _ _ _ _)
   | (with_reducible exact ih4 _ _ _ _ _ _ _ _ _ _ _ _ _ _ _ _ _)
   | (with_reducible exact ih5 _ _ _ _ _ _ _ _ _ _ _ _ _ _ _ _ _ _ _ _)
   | (with_reducible exact w4anchor.mono _)
   | (with_reducible exact w4grown.mono _ _ _ _ _ _ _ _)
   | (with_reducible exact r3Under.mono _ _ _ _)
   | (with_reducible exact r4Members.mono _ _)
   | (with_reducible exact tree_Filtered.mono _ _ _)
   | (with_reducible exact tree_Members.mono _ _)
   | (with_reducible exact tree_Resolution.mono _ _ _)
   | (with_reducible exact LeO.refl _)
   | (with_reducible exact LeO.none _)
   | (with_reducible refine LeO.ite ?_ ?_)
   | (with_reducible refine LeO.bind ?_ (fun _=>?_))
   | exact ih0 _ _ _ _ _ _ _
   | exact ih1 _ _ _ _ _ _ _ _ _
   | exact ih2 _ _ _ _ _ _ _ _ _ _ _ _
   | exact ih3 _ _ _ _ _ _ _ _ _ _ _ _ _ _ _
   | exact ih4 _ _ _ _ _ _ _ _ _ _ _ _ _ _ _ _ _
   | exact ih5 _ _ _ _ _ _ _ _ _ _ _ _ _ _ _ _ _ _ _ _
   | exact w4anchor.mono _
   | exact w4grown.mono _ _ _ _ _ _ _ _
   | exact r3Under.mono _ _ _ _
   | exact r4Members.mono _ _
   | exact tree_Filtered.mono _ _ _
   | exact tree_Members.mono _ _
   | exact tree_Resolution.mono _ _ _
   | exact LeO.none _
   | refine LeO.ite ?_ ?_
   | refine LeO.bind ?_ (fun _=>?_)
  ·
   intro y0 y1 y2 y3 y4 y5 y6 y7 y8 y9 y10 y11 y12 y13 y14
   unfold w4TreeReaches.l2
   repeat' first
   | (with_reducible exact ih0 _ _ _ _ _ _ _)
   | (with_reducible exact ih1 _ _ _ _ _ _ _ _ _)
   | (with_reducible exact ih2 _ _ _ _ _ _ _ _ _ _ _ _)
   | (with_reducible exact ih3 _ _ _ _ _ _ _ _ _ _ _ _ _ _ _)
   | (with_reducible exact ih4 _ _ _ _ _ _ _ _ _ _ _ _ _ _ _ _ _)
   | (with_reducible exact ih5 _ _ _ _ _ _ _ _ _ _ _ _ _ _ _ _ _ _ _ _)
   | (with_reducible exact w4anchor.mono _)
   | (with_reducible exact w4grown.mono _ _ _ _ _ _ _ _)
   | (with_reducible exact r3Under.mono _ _ _ _)
   | (with_reducible exact r4Members.mono _ _)
   | (with_reducible exact tree_Filtered.mono _ _ _)
   | (with_reducible exact tree_Members.mono _ _)
   | (with_reducible exact tree_Resolution.mono _ _ _)
   | (with_reducible exact LeO.refl _)
   | (with_reducible exact LeO.none _)
   | (with_reducible refine LeO.ite ?_ ?_)
   | (with_reducible refine LeO.bind ?_ (fun _=>?_))
   | exact ih0 _ _ _ _ _ _ _
   | exact ih1 _ _ _ _ _ _ _ _ _
   | exact ih2 _ _ _ _ _ _ _ _ _ _ _ _
   | exact ih3 _ _ _ _ _ _ _ _ _ _ _ _ _ _ _
   | exact ih4 _ _ _ _ _ _ _ _ _ _ _ _ _ _ _ _ _
   | exact ih5 _ _ _ _ _ _ _ _ _ _ _ _ _ _ _ _ _ _ _ _
   | exact w4anchor.mono _
   | exact w4grown.mono _ _ _ _ _ _ _ _
   | exact r3Under.mono _ _ _ _
   | exact r4Members.mono _ _
   | exact tree_Filtered.mono _ _ _
   | exact tree_Members.mono _ _
   | exact tree_Resolution.mono _ _ _
   | exact LeO.none _
   | refine LeO.ite ?_ ?_
   | refine LeO.bind ?_ (fun _=>?_)
  ·
   intro y0 y1 y2 y3 y4 y5 y6 y7 y8 y9 y10 y11 y12 y13 y14 y15 y16
   unfold w4TreeReaches.j4
   repeat' first
   | (with_reducible exact ih0 _ _ _ _ _ _ _)
   | (with_reducible exact ih1 _ _ _ _ _ _ _ _ _)
   | (with_reducible exact ih2 _ _ _ _ _ _ _ _ _ _ _ _)
   | (with_reducible exact ih3 _ _ _ _ _ _ _ _ _ _ _ _ _ _ _)
   | (with_reducible exact ih4 _ _ _ _ _ _ _ _ _ _ _ _ _ _ _ _ _)
   | (with_reducible exact ih5 _ _ _ _ _ _ _ _ _ _ _ _ _ _ _ _ _ _ _ _)
   | (with_reducible exact w4anchor.mono _)
   | (with_reducible exact w4grown.mono _ _ _ _ _ _ _ _)
   | (with_reducible exact r3Under.mono _ _ _ _)
   | (with_reducible exact r4Members.mono _ _)
   | (with_reducible exact tree_Filtered.mono _ _ _)
   | (with_reducible exact tree_Members.mono _ _)
   | (with_reducible exact tree_Resolution.mono _ _ _)
   | (with_reducible exact LeO.refl _)
   | (with_reducible exact LeO.none _)
   | (with_reducible refine LeO.ite ?_ ?_)
   | (with_reducible refine LeO.bind ?_ (fun _=>?_))
   | exact ih0 _ _ _ _ _ _ _
   | exact ih1 _ _ _ _ _ _ _ _ _
   | exact ih2 _ _ _ _ _ _ _ _ _ _ _ _
   | exact ih3 _ _ _ _ _ _ _ _ _ _ _ _ _ _ _
   | exact ih4 _ _ _ _ _ _ _ _ _ _ _ _ _ _ _ _ _
   | exact ih5 _ _ _ _ _ _ _ _ _ _ _ _ _ _ _ _ _ _ _ _
   | exact w4anchor.mono _
   | exact w4grown.mono _ _ _ _ _ _ _ _
   | exact r3Under.mono _ _ _ _
   | exact r4Members.mono _ _
   | exact tree_Filtered.mono _ _ _
   | exact tree_Members.mono _ _
   | exact tree_Resolution.mono _ _ _
   | exact LeO.none _
   | refine LeO.ite ?_ ?_
   | refine LeO.bind ?_ (fun _=>?_)
  ·
   intro y0 y1 y2 y3 y4 y5 y6 y7 y8 y9 y10 y11 y12 y13 y14 y15 y16 y17 y18 y19
   unfold w4TreeReaches.l3
   repeat' first
   | (with_reducible exact ih0 _ _ _ _ _ _ _)
   | (with_reducible exact ih1 _ _ _ _ _ _ _ _ _)
   | (with_reducible exact ih2 _ _ _ _ _ _ _ _ _ _ _ _)
   | (with_reducible exact ih3 _ _ _ _ _ _ _ _ _ _ _ _ _ _ _)
   | (with_reducible exact ih4 _ _ _ _ _ _ _ _ _ _ _ _ _ _ _ _ _)
   | (with_reducible exact ih5 _ _ _ _ _ _ _ _ _ _ _ _ _ _ _ _ _ _ _ _)
   | (with_reducible exact w4anchor.mono _)
   | (with_reducible exact w4grown.mono _ _ _ _ _ _ _ _)
   | (with_reducible exact r3Under.mono _ _ _ _)
   | (with_reducible exact r4Members.mono _ _)
   | (with_reducible exact tree_Filtered.mono _ _ _)
   | (with_reducible exact tree_Members.mono _ _)
   | (with_reducible exact tree_Resolution.mono _ _ _)
   | (with_reducible exact LeO.refl _)
   | (with_reducible exact LeO.none _)
   | (with_reducible refine LeO.ite ?_ ?_)
   | (with_reducible refine LeO.bind ?_ (fun _=>?_))
   | exact ih0 _ _ _ _ _ _ _
   | exact ih1 _ _ _ _ _ _ _ _ _
   | exact ih2 _ _ _ _ _ _ _ _ _ _ _ _
   | exact ih3 _ _ _ _ _ _ _ _ _ _ _ _ _ _ _
   | exact ih4 _ _ _ _ _ _ _ _ _ _ _ _ _ _ _ _ _
   | exact ih5 _ _ _ _ _ _ _ _ _ _ _ _ _ _ _ _ _ _ _ _
   | exact w4anchor.mono _
   | exact w4grown.mono _ _ _ _ _ _ _ _
   | exact r3Under.mono _ _ _ _
   | exact r4Members.mono _ _
   | exact tree_Filtered.mono _ _ _
   | exact tree_Members.mono _ _
   | exact tree_Resolution.mono _ _ _
   | exact LeO.none _
   | refine LeO.ite ?_ ?_
   | refine LeO.bind ?_ (fun _=>?_)
theorem w4TreeReaches.mono : ∀ a0 a1 a2 a3 a4 a5 a6 a7 k,LeO (w4TreeReaches.f k a0 a1 a2 a3 a4 a5 a6 a7) (w4TreeReaches.f (k + 1) a0 a1 a2 a3 a4 a5 a6 a7):=by
 intro a0 a1 a2 a3 a4 a5 a6 a7 k
 obtain ⟨ih0,ih1,ih2,ih3,ih4,ih5⟩:=w4TreeReaches.mono_l k
 unfold w4TreeReaches.f
 repeat' first
  | (with_reducible exact ih0 _ _ _ _ _ _ _)
  | (with_reducible exact ih1 _ _ _ _ _ _ _ _ _)
  | (with_reducible exact ih2 _ _ _ _ _ _ _ _ _ _ _ _)
  | (with_reducible exact ih3 _ _ _ _ _ _ _ _ _ _ _ _ _ _ _)
  | (with_reducible exact ih4 _ _ _ _ _ _ _ _ _ _ _ _ _ _ _ _ _)
  | (with_reducible exact ih5 _ _ _ _ _ _ _ _ _ _ _ _ _ _ _ _ _ _ _ _)
  | (with_reducible exact w4anchor.mono _)
  | (with_reducible exact w4grown.mono _ _ _ _ _ _ _ _)
  | (with_reducible exact r3Under.mono _ _ _ _)
  | (with_reducible exact r4Members.mono _ _)
  | (with_reducible exact tree_Filtered.mono _ _ _)
  | (with_reducible exact tree_Members.mono _ _)
  | (with_reducible exact tree_Resolution.mono _ _ _)
  | (with_reducible exact LeO.refl _)
  | (with_reducible exact LeO.none _)
  | (with_reducible refine LeO.ite ?_ ?_)
  | (with_reducible refine LeO.bind ?_ (fun _=>?_))
  | exact ih0 _ _ _ _ _ _ _
  | exact ih1 _ _ _ _ _ _ _ _ _
  | exact ih2 _ _ _ _ _ _ _ _ _ _ _ _
  | exact ih3 _ _ _ _ _ _ _ _ _ _ _ _ _ _ _
  | exact ih4 _ _ _ _ _ _ _ _ _ _ _ _ _ _ _ _ _
  | exact ih5 _ _ _ _ _ _ _ _ _ _ _ _ _ _ _ _ _ _ _ _
  | exact w4anchor.mono _
  | exact w4grown.mono _ _ _ _ _ _ _ _
  | exact r3Under.mono _ _ _ _
  | exact r4Members.mono _ _
  | exact tree_Filtered.mono _ _ _
  | exact tree_Members.mono _ _
  | exact tree_Resolution.mono _ _ _
  | exact LeO.none _
  | refine LeO.ite ?_ ?_
  | refine LeO.bind ?_ (fun _=>?_)
end Go.Proofs.YtbblomnhobodkaaDoor.PTw
namespace Go.Proofs.YtbblomnhobodkaaDoor.PTw
open Go.RowKit Go.Proofs.YtbblomnhobodkaaDoorW.PW Go.Proofs.YtbblomnhobodkaaDoorW.PL Go.Proofs.YtbblomnhobodkaaDoorW.PM
attribute [local go_sem] max2_int min2_int max_two min_two max_three min_three max_four min_four   -- for this text's walks alone
set_option linter.unusedVariables false
set_option linter.unusedSimpArgs false
structure WfOp (o : S32) : Prop where
 f0 : (Lit.int .i64 o.f0).wf = true
 f1 : (Lit.int .i64 o.f1).wf = true
 v1 : (Lit.int .i64 o.f2.f1).wf = true
 v2 : (Lit.int .i64 o.f2.f2).wf = true
 v3 : (Lit.int .i64 o.f2.f3).wf = true
 v4 : (Lit.int .i64 o.f2.f4).wf = true
 f3 : (Lit.int .i64 o.f3).wf = true
 late : o.f2.f5.length≤maxLen∧∀ x ∈ o.f2.f5,(Lit.int .i64 x).wf = true
end Go.Proofs.YtbblomnhobodkaaDoor.PTw
