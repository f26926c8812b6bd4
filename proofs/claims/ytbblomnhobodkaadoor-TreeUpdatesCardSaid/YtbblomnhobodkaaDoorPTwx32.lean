/- What this claim reaches of longer texts of this session. -/
import Derived.Test.YtbblomnhobodkaaDoorPTwx0
import Derived.Test.YtbblomnhobodkaaDoorPTwx13
import Derived.Test.YtbblomnhobodkaaDoorPTwx14
import Derived.Test.YtbblomnhobodkaaDoorPTwx18
import Derived.Test.YtbblomnhobodkaaDoorPTwx1
import Derived.Shelf.Spec.TrailingZeros
import Derived.Lib.ItoaNum
import Derived.Lib.LaidTab
import Derived.Laws.Bits64
import Derived.Lib.Hide
import Derived.RangeFuncBox
import Derived.Maps.AppendAt
import Derived.Lib.SliceRun
import Derived.Shelf.Spec.SlicesInsert
import Derived.Shelf.Spec.SlicesInsertGrow
import Derived.Deep.DeepCutAuto
import Derived.Test.YtbblomnhobodkaaDoorPTwx4
import Derived.Test.YtbblomnhobodkaaDoorPTwx8
namespace Go.Proofs.YtbblomnhobodkaaDoor.PTw
open Go.RowKit Go.Proofs.YtbblomnhobodkaaDoorW.PW Go.Proofs.YtbblomnhobodkaaDoorW.PL Go.Proofs.YtbblomnhobodkaaDoorW.PM
attribute [local go_sem] max2_int min2_int max_two min_two max_three min_three max_four min_four   -- for this text's walks alone
set_option linter.unusedVariables false
set_option linter.unusedSimpArgs false
def w4grown.l0 : Nat→List (S29)→List (S32)→Int→Int→Option ((List (S29)))
 | 0,_,_,_,_=>none
 | k + 1,x5,x13,x14,x15=>if x15 < x14 then (if 0≤x15 then (if x15 < (x13.length : Int) then (if x15≥300 then (some x5) else (if ((rd_T32 x13 x15).f0) = 1 then ((r4Add.f k x5 ((rd_T32 x13 x15).f2.f0) ((rd_T32 x13 x15).f2.f1) ((rd_T32 x13 x15).f2.f2) ((rd_T32 x13 x15).f2.f3) ((rd_T32 x13 x15).f2.f4) ((rd_T32 x13 x15).f2.f5)).bind fun bt525=>(if (bt525.1.length : Int) > 0 then (w4grown.l0 k bt525.1 x13 x14 (wrap64 (x15 + 1))) else (w4grown.l0 k x5 x13 x14 (wrap64 (x15 + 1))))) else (if ((rd_T32 x13 x15).f0) = 2 then ((r4Update.f k x5 ((rd_T32 x13 x15).f1) ((rd_T32 x13 x15).f2.f0) ((rd_T32 x13 x15).f2.f1) ((rd_T32 x13 x15).f2.f2) ((rd_T32 x13 x15).f2.f3) ((rd_T32 x13 x15).f2.f4) ((rd_T32 x13 x15).f2.f5)).bind fun bt530=>(if (bt530.1.length : Int) > 0 then (w4grown.l0 k bt530.1 x13 x14 (wrap64 (x15 + 1))) else (w4grown.l0 k x5 x13 x14 (wrap64 (x15 + 1))))) else (if ((rd_T32 x13 x15).f0) = 3 then ((r4Remove.f k x5 ((rd_T32 x13 x15).f1)).bind fun bt534=>(if (bt534.1.length : Int) > 0 then (w4grown.l0 k bt534.1 x13 x14 (wrap64 (x15 + 1))) else (w4grown.l0 k x5 x13 x14 (wrap64 (x15 + 1))))) else (if ((rd_T32 x13 x15).f0) = 4 then ((w4keys.f k x5 ((rd_T32 x13 x15).f0) ((rd_T32 x13 x15).f1) ((rd_T32 x13 x15).f2.f0) ((rd_T32 x13 x15).f2.f1) ((rd_T32 x13 x15).f2.f2) ((rd_T32 x13 x15).f2.f3) ((rd_T32 x13 x15).f2.f4) ((rd_T32 x13 x15).f2.f5) 0).bind fun t538=>((r4Merge.f k x5 ((rd_T32 x13 x15).f1) ((rd_T32 x13 x15).f2.f0) ((rd_T32 x13 x15).f2.f1) ((rd_T32 x13 x15).f2.f2) ((rd_T32 x13 x15).f2.f3) ((rd_T32 x13 x15).f2.f4) ((rd_T32 x13 x15).f2.f5) t538 t538).bind fun bt541=>(if (bt541.1.length : Int) > 0 then (w4grown.l0 k bt541.1 x13 x14 (wrap64 (x15 + 1))) else (w4grown.l0 k x5 x13 x14 (wrap64 (x15 + 1)))))) else (if (([] : List (S29)).length : Int) > 0 then (w4grown.l0 k ([] : List (S29)) x13 x14 (wrap64 (x15 + 1))) else (w4grown.l0 k x5 x13 x14 (wrap64 (x15 + 1))))))))) else (none)) else (none)) else (some x5)
def w4grown.f (k : Nat) (a0_0 : Bool) (a0_1 : Int) (a0_2 : Int) (a0_3 : Int) (a0_4 : Int) (l0_5 : List Int) (l1 : List (S32)) : Option ((List (S29))):=(r4Leaf.f a0_0 a0_1 a0_2 a0_3 a0_4 l0_5).bind fun bt512=>(w4grown.l0 k (([(⟨bt512.1,bt512.2.1,bt512.2.2.1,bt512.2.2.2.1,bt512.2.2.2.2.1,bt512.2.2.2.2.2⟩ : S29)] : List (S29))) l1 (l1.length : Int) 0)
theorem w4grown.mono_l : ∀ k,(∀ y0 y1 y2 y3,LeO (w4grown.l0 k y0 y1 y2 y3) (w4grown.l0 (k + 1) y0 y1 y2 y3))
 | 0=>fun _ _ _ _ r h=>by simp [w4grown.l0] at h
 | k + 1=>by
  have ih0:=w4grown.mono_l k
  · intro y0 y1 y2 y3
    unfold w4grown.l0
    repeat' first
    | (with_reducible exact ih0 _ _ _ _)
    | (with_reducible exact w4keys.mono _ _ _ _ _ _ _ _ _ _ _)
    | (with_reducible exact r4Add.mono _ _ _ _ _ _ _ _)
    | (with_reducible exact r4Merge.mono _ _ _ _ _ _ _ _ _ _ _)
    | (with_reducible exact r4Remove.mono _ _ _)
    | (with_reducible exact r4Update.mono _ _ _ _ _ _ _ _ _)
    | (with_reducible exact LeO.refl _)
    | (with_reducible exact LeO.none _)
    | (with_reducible refine LeO.ite ?_ ?_)
    | (with_reducible refine LeO.bind ?_ (fun _=>?_))
    | exact ih0 _ _ _ _
    | exact w4keys.mono _ _ _ _ _ _ _ _ _ _ _
    | exact r4Add.mono _ _ _ _ _ _ _ _
    | exact r4Merge.mono _ _ _ _ _ _ _ _ _ _ _
    | exact r4Remove.mono _ _ _
    | exact r4Update.mono _ _ _ _ _ _ _ _ _
    | exact LeO.none _
    | refine LeO.ite ?_ ?_
    | refine LeO.bind ?_ (fun _=>?_)
theorem w4grown.mono : ∀ a0 a1 a2 a3 a4 a5 a6 k,LeO (w4grown.f k a0 a1 a2 a3 a4 a5 a6) (w4grown.f (k + 1) a0 a1 a2 a3 a4 a5 a6):=by
 intro a0 a1 a2 a3 a4 a5 a6 k;have ih0:=w4grown.mono_l k;unfold w4grown.f
 repeat' first
  | (with_reducible exact ih0 _ _ _ _)
  | (with_reducible exact w4keys.mono _ _ _ _ _ _ _ _ _ _ _)
  | (with_reducible exact r4Add.mono _ _ _ _ _ _ _ _)
  | (with_reducible exact r4Merge.mono _ _ _ _ _ _ _ _ _ _ _)
  | (with_reducible exact r4Remove.mono _ _ _)
  | (with_reducible exact r4Update.mono _ _ _ _ _ _ _ _ _)
  | (with_reducible exact LeO.refl _)
  | (with_reducible exact LeO.none _)
  | (with_reducible refine LeO.ite ?_ ?_)
  | (with_reducible refine LeO.bind ?_ (fun _=>?_))
  | exact ih0 _ _ _ _
  | exact w4keys.mono _ _ _ _ _ _ _ _ _ _ _
  | exact r4Add.mono _ _ _ _ _ _ _ _
  | exact r4Merge.mono _ _ _ _ _ _ _ _ _ _ _
  | exact r4Remove.mono _ _ _
  | exact r4Update.mono _ _ _ _ _ _ _ _ _
  | exact LeO.none _
  | refine LeO.ite ?_ ?_
  | refine LeO.bind ?_ (fun _=>?_)
end Go.Proofs.YtbblomnhobodkaaDoor.PTw
namespace Go.Proofs.YtbblomnhobodkaaDoor.PTw
open Go.RowKit Go.Proofs.YtbblomnhobodkaaDoorW.PW Go.Proofs.YtbblomnhobodkaaDoorW.PL Go.Proofs.YtbblomnhobodkaaDoorW.PM
attribute [local go_sem] max2_int min2_int max_two min_two max_three min_three max_four min_four   -- for this text's walks alone
set_option linter.unusedVariables false
set_option linter.unusedSimpArgs false
theorem grown_box {w2 w3 : World} {g t : Nat} {z0 z1 z2 z3 z4 z5 z6 z7 z8 v0 v1 v2 v3 v4 v5 v6 v7 v8 : Value} (hw : w3 = (((((((((w2.setCell ⟨g,0,none⟩ v0).setCell ⟨g,1,none⟩ v1).setCell ⟨g,2,none⟩ v2).setCell ⟨g,3,none⟩ v3).setCell ⟨g,4,none⟩ v4).setCell ⟨g,5,none⟩ v5).setCell ⟨g,6,none⟩ v6).setCell ⟨g,7,none⟩ v7).setCell ⟨g,8,none⟩ v8)) (h : w2.heap[g]? = some (.cells #[z0,z1,z2,z3,z4,z5,z6,z7,z8] t (0,0))) : w3.heap[g]? = some (.cells #[v0,v1,v2,v3,v4,v5,v6,v7,v8] t (0,0)):=by
 subst hw;have h0:=blk_put h 0 v0 (cs':=#[v0,z1,z2,z3,z4,z5,z6,z7,z8]) rfl;have h1:=blk_put h0 1 v1 (cs':=#[v0,v1,z2,z3,z4,z5,z6,z7,z8]) rfl;have h2:=blk_put h1 2 v2 (cs':=#[v0,v1,v2,z3,z4,z5,z6,z7,z8]) rfl;have h3:=blk_put h2 3 v3 (cs':=#[v0,v1,v2,v3,z4,z5,z6,z7,z8]) rfl;have h4:=blk_put h3 4 v4 (cs':=#[v0,v1,v2,v3,v4,z5,z6,z7,z8]) rfl;have h5:=blk_put h4 5 v5 (cs':=#[v0,v1,v2,v3,v4,v5,z6,z7,z8]) rfl;have h6:=blk_put h5 6 v6 (cs':=#[v0,v1,v2,v3,v4,v5,v6,z7,z8]) rfl;have h7:=blk_put h6 7 v7 (cs':=#[v0,v1,v2,v3,v4,v5,v6,v7,z8]) rfl;have h8:=blk_put h7 8 v8 (cs':=#[v0,v1,v2,v3,v4,v5,v6,v7,v8]) rfl;exact h8
theorem grown_below {w w2 w3 : World} {g : Nat} {v0 v1 v2 v3 v4 v5 v6 v7 v8 : Value} (hw : w3 = (((((((((w2.setCell ⟨g,0,none⟩ v0).setCell ⟨g,1,none⟩ v1).setCell ⟨g,2,none⟩ v2).setCell ⟨g,3,none⟩ v3).setCell ⟨g,4,none⟩ v4).setCell ⟨g,5,none⟩ v5).setCell ⟨g,6,none⟩ v6).setCell ⟨g,7,none⟩ v7).setCell ⟨g,8,none⟩ v8)) (hb : Below w.heap.size w w2) (hg : w.heap.size≤g) : Below w.heap.size w w3:=by
 subst hw;exact (bwS (bwS (bwS (bwS (bwS (bwS (bwS (bwS (bwS hb hg) hg) hg) hg) hg) hg) hg) hg) hg)
theorem V_int {w : World} {A : Option Addr} {l : List Int} {c base : Nat} (hl : l.length≤c) (h : (Kd.int .i64).C w A l.length l) : Kd.V (Kd.int .i64) 3 w base (fun _=>True) (.slice A l.length c) l:=Kd.V_mk hl (fun W' hW=>Kd.Heap.C (Kd.heap_int .i64) (fun k_ hk=>hW k_ trivial hk) h)
end Go.Proofs.YtbblomnhobodkaaDoor.PTw
namespace Go.Proofs.YtbblomnhobodkaaDoor.PTw
open Go.RowKit Go.Proofs.YtbblomnhobodkaaDoorW.PW Go.Proofs.YtbblomnhobodkaaDoorW.PL Go.Proofs.YtbblomnhobodkaaDoorW.PM
attribute [local go_sem] max2_int min2_int max_two min_two max_three min_three max_four min_four   -- for this text's walks alone
set_option linter.unusedVariables false
set_option linter.unusedSimpArgs false
set_option maxHeartbeats 8000000 in
set_option maxRecDepth 100000 in
theorem w4grown.calls (k : Nat) (a0_0 : Bool) (a0_1 : Int) (a0_2 : Int) (a0_3 : Int) (a0_4 : Int) (A0_5 : Option Addr) (c0_5 : Nat) (l0_5 : List Int) (P1_ : Nat→Prop) (A1 : Option Addr) (c1 : Nat) (l1 : List (S32)) (r : List (S29)) (w : World) (hr0_5 : Kd.C (Kd.int .i64) w A0_5 l0_5.length l0_5) (hc0_5 : l0_5.length≤c0_5) (hs1 : Kd.V k32 32 w w.heap.size (fun k_=>P1_ k_) (.slice A1 l1.length c1) l1) (h : w4grown.f k a0_0 a0_1 a0_2 a0_3 a0_4 l0_5 l1 = some r) :
 Calls Tryd.prog 18 #[.agg #[.bool a0_0,.int .i64 a0_1,.int .i64 a0_2,.int .i64 a0_3,.int .i64 a0_4,.slice A0_5 l0_5.length c0_5],.slice A1 l1.length c1] w fun e w'=>∃ v0_ : Value,e = .returned (v0_)∧Kd.N k29 29 w' w.heap.size (fun k_=>(P1_ k_∨w.heap.size≤k_)) v0_ r∧Below w.heap.size w w':=by
 have hu29:=Tryd.underlying29;have hu32:=Tryd.underlying32;have HR0_5:=Az.mk hr0_5;have HC0_5:=Az.mk hc0_5;clear hr0_5 hc0_5;have HO1:=Az.mk (show Kd.V k32 32 w w.heap.size (fun k_=>(P1_ k_∨w.heap.size≤k_)) (.slice A1 l1.length c1) l1 from Kd.V_mono hs1 (fun k_ hk=>.inl hk));have HB:=Az.mk (Below.refl w.heap.size w);have H : ((r4Leaf.f a0_0 a0_1 a0_2 a0_3 a0_4 l0_5).bind fun bt512=>(w4grown.l0 k (([(⟨bt512.1,bt512.2.1,bt512.2.2.1,bt512.2.2.2.1,bt512.2.2.2.2.1,bt512.2.2.2.2.2⟩ : S29)] : List (S29))) l1 (l1.length : Int) 0)) = some r:=h;clear h;replace H:=Option.bind_eq_some_iff.mp H;obtain ⟨⟨t512,t513,t514,t515,t516,t517⟩,A30,H⟩:=H;(try dsimp only at H);have A3:=Az.mk A30;clear A30
 obtain ⟨y520,hy520⟩ : ∃ y_ : List (S29),y_ = (([(⟨t512,t513,t514,t515,t516,t517⟩ : S29)] : List (S29))):=⟨_,rfl⟩
 replace H : (w4grown.l0 k y520 l1 (l1.length : Int) 0) = some r:=by first | (rw [hy520];with_reducible exact H) | (have H2_:=(Option.bind_some _ _).symm.trans H;rw [hy520];with_reducible exact H2_) | (have H2_:=(Option.bind_some _ _).symm.trans H;with_reducible exact H2_) | with_reducible exact H | (rw [hy520];exact H) | exact H
 have Ny520:=Az.mk hy520;clear hy520;have H':=Az.mk H;clear H
 go_enter Tryd.func18,Tryd.ntmps18
 go_wp2_with (first | ((with_reducible refine gate_dst (N:=2) rfl ?_);refine box_event ?hg (N:=2) ?hd (cs:=#[.bool a0_0,.int .i64 a0_1,.int .i64 a0_2,.int .i64 a0_3,.int .i64 a0_4,.slice A0_5 l0_5.length c0_5]) (t:=29) ?hr ?_;(case hd=>rfl);(case hg=>rfl);(case hr=>exact gr_);intro gb511 hg w4 hbox hb;have BK511:=Az.mk (hbox);have GW511:=Az.mk ((by rw [hg];exact (bwZ (by repeat (first | (with_reducible first | exact HB.out | apply bwA | apply bwN | apply bw1) | exact HB.out))) : w.heap.size≤gb511));have GE511:=Az.mk ((by rw [hg];exact (bwZ (by repeat (first | (with_reducible first | exact HB.out | apply bwA | apply bwN | apply bw1) | exact HB.out))) : w.heap.size≤gb511));replace HO1:=Az.mk (Kd.V_below (Kd.V_elderB (by (with_reducible repeat (first | apply Kd.V_alloc | apply Kd.V_drewN | apply Kd.V_drew));exact HO1.out) gb511 (Nat.le_of_eq hg.symm)) hb);replace HB:=Az.mk (bwT (by repeat (first | (with_reducible first | exact HB.out | apply bwA | apply bwN | apply bw1) | exact HB.out)) hb);clear hb hbox hg;have hcz5_0 : w4.cell? ⟨gb511,0,none⟩ = some (.bool a0_0):=(kC BK511.out 0).trans rfl;have hcz5_1 : w4.cell? ⟨gb511,1,none⟩ = some (.int .i64 a0_1):=(kC BK511.out 1).trans rfl;have hcz5_2 : w4.cell? ⟨gb511,2,none⟩ = some (.int .i64 a0_2):=(kC BK511.out 2).trans rfl;have hcz5_3 : w4.cell? ⟨gb511,3,none⟩ = some (.int .i64 a0_3):=(kC BK511.out 3).trans rfl;have hcz5_4 : w4.cell? ⟨gb511,4,none⟩ = some (.int .i64 a0_4):=(kC BK511.out 4).trans rfl;have hcz5_5 : w4.cell? ⟨gb511,5,none⟩ = some (.slice A0_5 l0_5.length c0_5):=(kC BK511.out 5).trans rfl;have hfz5_0:=kF BK511.out 0;have hfz5_1:=kF BK511.out 1;have hfz5_2:=kF BK511.out 2;have hfz5_3:=kF BK511.out 3;have hfz5_4:=kF BK511.out 4;have hfz5_5:=kF BK511.out 5) | ((with_reducible refine gate_callee (f:=35) rfl ?_);refine goesL_ (some 11) rfl rfl Tryd.func35 (by kernel_rfl) rfl #[.agg #[.bool a0_0,.int .i64 a0_1,.int .i64 a0_2,.int .i64 a0_3,.int .i64 a0_4,.slice A0_5 l0_5.length c0_5]] rfl tl_ ?_;(with_reducible refine (r4Leaf.calls a0_0 a0_1 a0_2 a0_3 a0_4 _ _ l0_5 t512 t513 t514 t515 t516 t517 _ ?side1 ?side2 A3.out).mono ?_);(case side1=>repeat (first | exact (Kd.C_below HR0_5.out HB.out) | (with_reducible refine Kd.C_alloc ?_ _) | (with_reducible refine Kd.C_drewN ?_ _) | (with_reducible refine Kd.C_drew ?_)));(case side2=>exact HC0_5.out);rintro e w6 ⟨v518,rfl,ho0,hb⟩;refine ⟨_,rfl,?_⟩;obtain ⟨Av_,cv_,hv_⟩:=Kd.R_slice ho0;have HV518:=Az.mk hv_;clear hv_;have HO519:=Az.mk (Kd.R_lower (Kd.R_newM (M:=fun k_=>(w.heap.size≤k_)) ho0 (bwZ (by repeat (first | (with_reducible first | exact HB.out | apply bwA | apply bwN | apply bw1 | refine bwS ?_ GE511.out) | exact HB.out))) (fun k_ h_=>h_)) (bwZ (by repeat (first | (with_reducible first | exact HB.out | apply bwA | apply bwN | apply bw1 | refine bwS ?_ GE511.out) | exact HB.out))));replace HO1:=Az.mk (Kd.V_elder' (by (with_reducible repeat (first | apply Kd.V_alloc | apply Kd.V_drewN | apply Kd.V_drew));exact HO1.out) (Kd.R_base ho0) hb);replace BK511:=Az.mk (kB (g:=gb511) (o:=.cells #[.bool a0_0,.int .i64 a0_1,.int .i64 a0_2,.int .i64 a0_3,.int .i64 a0_4,.slice A0_5 l0_5.length c0_5] 29 (0,0)) (by (with_reducible repeat (first | refine kN ?_ _ | refine kD ?_ | refine kA ?_ _));exact BK511.out) hb);replace HB:=Az.mk (bwT (by repeat (first | (with_reducible first | exact HB.out | apply bwA | apply bwN | apply bw1 | refine bwS ?_ GE511.out) | exact HB.out)) hb);(try clear hb);(try clear hb2);(try clear hk);(try clear hi);(try clear ho0);obtain ⟨Ao7,co7,eo7⟩:=Kd.R_slice HO519.out;subst eo7) | ((with_reducible refine gate_dst (N:=12) rfl ?_);refine Kd.N_lit k29 _ 29 ?hg (N':=12) ?hd (xs:=([(⟨t512,t513,t514,t515,t516,t517⟩ : S29)] : List (S29))) (inner:=[.bool t512,.int .i64 t513,.int .i64 t514,.int .i64 t515,.int .i64 t516,.slice Ao7 t517.length co7]) (ok:=(fun k_=>(P1_ k_∨w.heap.size≤k_)∧k_≠gb511)) (okp:=(fun k_=>(P1_ k_∨w.heap.size≤k_)∧k_≠gb511)) ?hr ?hp (fun _ hk=>hk) ((show ∀ k_,w6.heap.size≤k_→(fun k_=>(P1_ k_∨w.heap.size≤k_)∧k_≠gb511) k_ from fun k_ hk=>⟨(.inr (Nat.le_trans (bwZ (by repeat (first | (with_reducible first | exact HB.out | apply bwA | apply bwN | apply bw1 | refine bwS ?_ GE511.out) | exact HB.out))) hk)),Kd.freshB (g:=gb511) (o:=.cells #[.bool a0_0,.int .i64 a0_1,.int .i64 a0_2,.int .i64 a0_3,.int .i64 a0_4,.slice A0_5 l0_5.length c0_5] 29 (0,0)) (by (with_reducible repeat (first | refine kN ?_ _ | refine kD ?_ | refine kA ?_ _));exact BK511.out) k_ hk⟩) _ (Nat.le_refl _)) (Below.refl _ _) (Nat.le_refl _) (by simp) ?_;(case hd=>rfl);(case hg=>rfl);(case hr=>exact gr_);(case hp=>exact (Reps.c6 (show Kd.FK k29 _ _ (⟨t512,t513,t514,t515,t516,t517⟩ : S29) [.bool t512,.int .i64 t513,.int .i64 t514,.int .i64 t515,.int .i64 t516,.slice Ao7 t517.length co7] from (k29_mkF _ _ (⟨t512,t513,t514,t515,t516,t517⟩ : S29) (Kd.R_reads' (Kd.R_mono (ok':=(fun k_=>(P1_ k_∨w.heap.size≤k_)∧k_≠gb511)) (Kd.R_types (HO519.out) BK511.out (by decide)) (fun k_ hk=>⟨(.inr (hk.1.1)),hk.2⟩))).2.1 (Kd.R_F (Kd.R_mono (ok':=(fun k_=>(P1_ k_∨w.heap.size≤k_)∧k_≠gb511)) (Kd.R_types (HO519.out) BK511.out (by decide)) (fun k_ hk=>⟨(.inr (hk.1.1)),hk.2⟩))))) (Reps.none _ _)));intro v521 w8 ho9 hb hg_ hnew_;clear hg_ hnew_;(first | rw [← Ny520.out] at ho9 | (simp only [Int.reduceToNat] at ho9;rw [← Ny520.out] at ho9));have HO522:=Az.mk (Kd.N_lower ho9 (bwZ (by repeat (first | (with_reducible first | exact HB.out | apply bwA | apply bwN | apply bw1 | refine bwS ?_ GE511.out) | exact HB.out))));replace HO1:=Az.mk (Kd.V_elder' (by (with_reducible repeat (first | apply Kd.V_alloc | apply Kd.V_drewN | apply Kd.V_drew));exact HO1.out) (Kd.N_base ho9) hb);replace BK511:=Az.mk (kB (g:=gb511) (o:=.cells #[.bool a0_0,.int .i64 a0_1,.int .i64 a0_2,.int .i64 a0_3,.int .i64 a0_4,.slice A0_5 l0_5.length c0_5] 29 (0,0)) (by (with_reducible repeat (first | refine kN ?_ _ | refine kD ?_ | refine kA ?_ _));exact BK511.out) hb);replace HB:=Az.mk (bwT (by repeat (first | (with_reducible first | exact HB.out | apply bwA | apply bwN | apply bw1 | refine bwS ?_ GE511.out) | exact HB.out)) hb);clear HO519;clear hb ho9))
 go_loopg [5,15] k (fun kq v5 v15 w'=>∃ (x5_1 : List (S29)) (x15_1 : Int),v15 = .int .i64 x15_1∧Az (w4grown.l0 kq x5_1 l1 (l1.length : Int) x15_1 = some r)∧Az (kq≤k)∧Az (Kd.N k29 29 w' w.heap.size (fun k_=>(P1_ k_∨w.heap.size≤k_)) v5 x5_1)∧Az (Kd.C k32 w' A1 l1.length l1)∧Az (Below w.heap.size w w'))
 case atStart=>exact ⟨y520,0,rfl,H',⟨Nat.le_refl _⟩,⟨by (with_reducible repeat (first | apply Kd.N_alloc | apply Kd.N_drewN | apply Kd.N_drew));exact Kd.N_mono HO522.out (fun _ h_=>h_.1)⟩,⟨by (with_reducible repeat (first | refine Kd.C_alloc ?_ _ | refine Kd.C_drewN ?_ _ | refine Kd.C_drew ?_));exact (Kd.V_reads' HO1.out).2.2⟩,⟨by repeat (first | (with_reducible first | exact HB.out | apply bwA | apply bwN | apply bw1))⟩⟩
 case round=>
  clear H' HO1 HO522 BK511 HB;obtain ⟨x5,x15,rfl,HA,HK1,HN,HCS,HB⟩:=hrel
  cases gk with
  | zero=>exact absurd HA.out (by simp [w4grown.l0])
  | succ k1=>
   have H:=HA.out;clear HA;simp only [w4grown.l0] at H;obtain ⟨A5,c5,rfl⟩:=Kd.N_slice HN.out;have HX5:=Az.mk (Kd.N_reads' HN.out).2.2;have HL5:=Az.mk (Kd.N_reads' HN.out).2.1
   by_cases c1 : x15 < (l1.length : Int)
   case neg=>
    rw [if_neg c1] at H;have c1b : decide (x15 < (l1.length : Int)) = false:=decide_eq_false c1;obtain rfl:=Option.some.inj H;clear c1 H
    go_wp2
    go_ret
    exact ⟨_,rfl,by (with_reducible repeat (first | apply Kd.N_alloc | apply Kd.N_drewN | apply Kd.N_drew));exact HN.out,by repeat (first | (with_reducible first | exact HB.out | apply bwA | apply bwN | apply bw1))⟩
   rw [if_pos c1] at H
   by_cases c2 : 0≤x15
   case neg=>rw [if_neg c2] at H;cases H
   rw [if_pos c2,if_pos c1] at H;have H':=Az.mk H;clear H;have c1b : decide (x15 < (l1.length : Int)) = true:=decide_eq_true c1;obtain ⟨ad,A7,c7,e0,hx0,hx1,hx2,hx3,hx4,hx5,hx6,hx7,hx8,hl7,hi7⟩:=at_T32 HCS.out x15 c2 c1;cases e0;have p1:=eq_true c1;have p2:=eq_true c2;have HL7:=Az.mk hl7;have HI7:=Az.mk hi7;clear hl7 hi7 c1 c2
   generalize hq : rd_T32 l1 x15 = q at *
   clear hq
   go_upto_region 5 with (first
    | ((with_reducible refine gate_dst (N:=7) rfl ?_);refine box_event ?hg (N:=7) ?hd (cs:=#[.int .i64 0,.int .i64 0,.bool false,.int .i64 0,.int .i64 0,.int .i64 0,.int .i64 0,.slice none 0 0,.int .i64 0]) (t:=32) ?hr ?_;(case hd=>rfl);(case hg=>rfl);(case hr=>exact gr_);intro g hg w2 hbox hb;have BK:=Az.mk hbox;have HB2:=Az.mk (show Below wr.heap.size wr w2 from hb);have GE:=Az.mk (show wr.heap.size≤g from Nat.le_of_eq hg.symm);clear hb hbox hg;have hcz0 : w2.cell? ⟨g,0,none⟩ = some (.int .i64 0):=(kC BK.out 0).trans rfl;have hcz1 : w2.cell? ⟨g,1,none⟩ = some (.int .i64 0):=(kC BK.out 1).trans rfl;have hcz2 : w2.cell? ⟨g,2,none⟩ = some (.bool false):=(kC BK.out 2).trans rfl;have hcz3 : w2.cell? ⟨g,3,none⟩ = some (.int .i64 0):=(kC BK.out 3).trans rfl;have hcz4 : w2.cell? ⟨g,4,none⟩ = some (.int .i64 0):=(kC BK.out 4).trans rfl;have hcz5 : w2.cell? ⟨g,5,none⟩ = some (.int .i64 0):=(kC BK.out 5).trans rfl;have hcz6 : w2.cell? ⟨g,6,none⟩ = some (.int .i64 0):=(kC BK.out 6).trans rfl;have hcz7 : w2.cell? ⟨g,7,none⟩ = some (.slice none 0 0):=(kC BK.out 7).trans rfl;have hcz8 : w2.cell? ⟨g,8,none⟩ = some (.int .i64 0):=(kC BK.out 8).trans rfl;have hfz0:=kF BK.out 0;have hfz1:=kF BK.out 1;have hfz2:=kF BK.out 2;have hfz3:=kF BK.out 3;have hfz4:=kF BK.out 4;have hfz5:=kF BK.out 5;have hfz6:=kF BK.out 6;have hfz7:=kF BK.out 7;have hfz8:=kF BK.out 8)
    | ((with_reducible refine gate_store (t:=32) (p:=7) rfl ?_);refine store_event (t:=32) (p:=7) (v:=?vo_w23) (w1:=(((((((((w2.setCell ⟨g,0,none⟩ (.int .i64 q.f0)).setCell ⟨g,1,none⟩ (.int .i64 q.f1)).setCell ⟨g,2,none⟩ (.bool q.f2.f0)).setCell ⟨g,3,none⟩ (.int .i64 q.f2.f1)).setCell ⟨g,4,none⟩ (.int .i64 q.f2.f2)).setCell ⟨g,5,none⟩ (.int .i64 q.f2.f3)).setCell ⟨g,6,none⟩ (.int .i64 q.f2.f4)).setCell ⟨g,7,none⟩ (.slice A7 q.f2.f5.length c7)).setCell ⟨g,8,none⟩ (.int .i64 q.f3))) ?hg ?ho ?hn ?hr ?_;(case ho=>rfl);(case hg=>rfl);(case hn=>rfl);(case hr=>first | (go_simp;done) | (go_simp;rfl));intro w3 hw;have BK3:=Az.mk (grown_box hw BK.out);have HB3:=Az.mk (grown_below hw HB2.out GE.out);clear hw hcz0 hcz1 hcz2 hcz3 hcz4 hcz5 hcz6 hcz7 hcz8 hfz0 hfz1 hfz2 hfz3 hfz4 hfz5 hfz6 hfz7 hfz8 BK HB2))
   clear hx0 hx1 hx2 hx3 hx4 hx5 hx6 hx7 hx8 hs1 HR0_5 HC0_5 A3 Ny520 HV518 GW511 GE511;clear hcz5_0 hcz5_1 hcz5_2 hcz5_3 hcz5_4 hcz5_5 hfz5_0 hfz5_1 hfz5_2 hfz5_3 hfz5_4 hfz5_5 p1 p2;have HX3:=Az.mk (Kd.C_below HX5.out HB3.out);have HI3:=Az.mk (Kd.C_below HI7.out HB3.out);have HS3:=Az.mk (Kd.C_below HCS.out HB3.out);have HX6:=HX5;have HI6:=HI7;clear HX5 HI7;have H:=H'.out;clear H'
   by_cases c3 : x15≥300
   case pos=>
    rw [if_pos c3] at H;obtain rfl:=Option.some.inj H;have c3b : decide (300≤x15) = true:=decide_eq_true c3;clear c3 H
    go_wp2
    go_ret
    exact ⟨_,rfl,by (with_reducible repeat (first | apply Kd.N_alloc | apply Kd.N_drewN | apply Kd.N_drew));exact Kd.N_below HN.out HB3.out,by repeat (first | (with_reducible first | exact (bwT HB.out HB3.out) | apply bwA | apply bwN | apply bw1))⟩
   rw [if_neg c3] at H;have c3b : decide (300≤x15) = false:=decide_eq_false c3;have HH:=Az.mk H;clear c3 H;have hy0 : w3.cell? ⟨g,0,none⟩ = some (.int .i64 q.f0):=(kC BK3.out 0).trans rfl;have hy1 : w3.cell? ⟨g,1,none⟩ = some (.int .i64 q.f1):=(kC BK3.out 1).trans rfl;have hy2 : w3.cell? ⟨g,2,none⟩ = some (.bool q.f2.f0):=(kC BK3.out 2).trans rfl;have hy3 : w3.cell? ⟨g,3,none⟩ = some (.int .i64 q.f2.f1):=(kC BK3.out 3).trans rfl;have hy4 : w3.cell? ⟨g,4,none⟩ = some (.int .i64 q.f2.f2):=(kC BK3.out 4).trans rfl;have hy5 : w3.cell? ⟨g,5,none⟩ = some (.int .i64 q.f2.f3):=(kC BK3.out 5).trans rfl;have hy6 : w3.cell? ⟨g,6,none⟩ = some (.int .i64 q.f2.f4):=(kC BK3.out 6).trans rfl;have hy7 : w3.cell? ⟨g,7,none⟩ = some (.slice A7 q.f2.f5.length c7):=(kC BK3.out 7).trans rfl;have hy8 : w3.cell? ⟨g,8,none⟩ = some (.int .i64 q.f3):=(kC BK3.out 8).trans rfl;have hfy8:=kF BK3.out 8
   go_upto_block 2 with fail
   go_cut [8] (fun v8 wx=>∃ x8 : List S29,Az (Kd.N k29 29 wx wr.heap.size (fun k_=>wr.heap.size≤k_) v8 x8)∧Az (Below wr.heap.size wr wx)∧Az ((if (x8.length : Int) > 0 then w4grown.l0 k1 x8 l1 (l1.length : Int) (wrap64 (x15 + 1)) else w4grown.l0 k1 x5 l1 (l1.length : Int) (wrap64 (x15 + 1))) = some r))
   case first=>as_aux_lemma=>
    have H:=HH.out;clear HH
    by_cases q1 : q.f0 = 1
    case pos=>
     rw [if_pos q1] at H;obtain ⟨⟨t,t2,t3⟩,A90,H⟩:=Option.bind_eq_some_iff.mp H;have A9:=Az.mk A90;have HH:=Az.mk H;have q1b : (q.f0 == 1) = true:=beq_iff_eq.mpr q1;clear A90 H q1
     go_wp2_with (go_at_call 20;(with_reducible refine (r4Add.calls k1 A5 c5 x5 q.f2.f0 q.f2.f1 q.f2.f2 q.f2.f3 q.f2.f4 (fun _=>True) A7 c7 q.f2.f5 t t2 t3 _ (by repeat (first | (with_reducible exact HX3.out) | (with_reducible refine Kd.C_alloc ?_ _) | (with_reducible refine Kd.C_drewN ?_ _) | (with_reducible refine Kd.C_drew ?_))) HL5.out (V_int HL7.out (by repeat (first | (with_reducible exact HI3.out) | (with_reducible refine Kd.C_alloc ?_ _) | (with_reducible refine Kd.C_drewN ?_ _) | (with_reducible refine Kd.C_drew ?_)))) A9.out).mono ?_);rintro e w4 ⟨v8,rfl,hS,hb⟩;have HS4:=Az.mk hS;have HB4:=Az.mk (bwT (by repeat (first | (with_reducible first | exact HB3.out | apply bwA | apply bwN | apply bw1))) hb);have HZ:=Az.mk (bwZ (by repeat (first | (with_reducible first | exact HB3.out | apply bwA | apply bwN | apply bw1))));clear hS hb)
     go_meet
     exact ⟨t,⟨Kd.N_mono (Kd.N_lower (Kd.S_N HS4.out) HZ.out) (fun k_ hk=>Nat.le_trans HZ.out hk)⟩,HB4,HH⟩
    rw [if_neg q1] at H;have q1b : (q.f0 == 1) = false:=beq_eq_false_iff_ne.mpr q1;clear q1
    by_cases q2 : q.f0 = 2
    case pos=>
     rw [if_pos q2] at H;obtain ⟨⟨t,t2⟩,A90,H⟩:=Option.bind_eq_some_iff.mp H;have A9:=Az.mk A90;have HH:=Az.mk H;have q2b : (q.f0 == 2) = true:=beq_iff_eq.mpr q2;clear A90 H q2
     go_wp2_with (go_at_call 47;(with_reducible refine (r4Update.calls k1 A5 c5 x5 q.f1 q.f2.f0 q.f2.f1 q.f2.f2 q.f2.f3 q.f2.f4 A7 c7 q.f2.f5 t t2 _ (by repeat (first | (with_reducible exact HX3.out) | (with_reducible refine Kd.C_alloc ?_ _) | (with_reducible refine Kd.C_drewN ?_ _) | (with_reducible refine Kd.C_drew ?_))) HL5.out (by repeat (first | (with_reducible exact HI3.out) | (with_reducible refine Kd.C_alloc ?_ _) | (with_reducible refine Kd.C_drewN ?_ _) | (with_reducible refine Kd.C_drew ?_))) HL7.out A9.out).mono ?_);rintro e w4 ⟨v8,rfl,hS,hb⟩;have HS4:=Az.mk hS;have HB4:=Az.mk (bwT (by repeat (first | (with_reducible first | exact HB3.out | apply bwA | apply bwN | apply bw1))) hb);have HZ:=Az.mk (bwZ (by repeat (first | (with_reducible first | exact HB3.out | apply bwA | apply bwN | apply bw1))));clear hS hb)
     go_meet
     exact ⟨t,⟨Kd.N_mono (Kd.N_lower (Kd.S_N (Kd.S_bound HS4.out)) HZ.out) (fun k_ hk=>Nat.le_trans HZ.out hk.2.1)⟩,HB4,HH⟩
    rw [if_neg q2] at H;have q2b : (q.f0 == 2) = false:=beq_eq_false_iff_ne.mpr q2;clear q2
    by_cases q3 : q.f0 = 3
    case pos=>
     rw [if_pos q3] at H;obtain ⟨⟨t,t2⟩,A90,H⟩:=Option.bind_eq_some_iff.mp H;have A9:=Az.mk A90;have HH:=Az.mk H;have q3b : (q.f0 == 3) = true:=beq_iff_eq.mpr q3;clear A90 H q3
     go_wp2_with (go_at_call 48;(with_reducible refine (r4Remove.calls k1 A5 c5 x5 q.f1 t t2 _ (by repeat (first | (with_reducible exact HX3.out) | (with_reducible refine Kd.C_alloc ?_ _) | (with_reducible refine Kd.C_drewN ?_ _) | (with_reducible refine Kd.C_drew ?_))) HL5.out A9.out).mono ?_);rintro e w4 ⟨v8,rfl,hS,hb⟩;have HS4:=Az.mk hS;have HB4:=Az.mk (bwT (by repeat (first | (with_reducible first | exact HB3.out | apply bwA | apply bwN | apply bw1))) hb);have HZ:=Az.mk (bwZ (by repeat (first | (with_reducible first | exact HB3.out | apply bwA | apply bwN | apply bw1))));clear hS hb)
     go_meet
     exact ⟨t,⟨Kd.N_mono (Kd.N_lower (Kd.S_N (Kd.S_bound HS4.out)) HZ.out) (fun k_ hk=>Nat.le_trans HZ.out hk.2.1)⟩,HB4,HH⟩
    rw [if_neg q3] at H;have q3b : (q.f0 == 3) = false:=beq_eq_false_iff_ne.mpr q3;clear q3
    by_cases q4 : q.f0 = 4
    case neg=>
     rw [if_neg q4] at H;have q4b : (q.f0 == 4) = false:=beq_eq_false_iff_ne.mpr q4;have HH:=Az.mk H;clear H q4
     go_wp2
     go_meet
     exact ⟨[],⟨Kd.N_nil _ _ _ _ _⟩,⟨(by repeat (first | (with_reducible first | exact HB3.out | apply bwA | apply bwN | apply bw1)))⟩,HH⟩
    rw [if_pos q4] at H;obtain ⟨ks,A80,H⟩:=Option.bind_eq_some_iff.mp H;obtain ⟨⟨t,t2⟩,A90,H⟩:=Option.bind_eq_some_iff.mp H;have A8:=Az.mk A80;have A9:=Az.mk A90;have HH:=Az.mk H;have q4b : (q.f0 == 4) = true:=beq_iff_eq.mpr q4;clear A80 A90 H q4
    go_upto_region 16 with ((with_reducible refine gate_store (t:=3) (p:=56) rfl ?_);refine store_event (t:=3) (p:=56) (v:=?vo_w24) (w1:=(w3.setCell ⟨g,8,none⟩ (.int .i64 0))) ?hg ?ho ?hn ?hr ?_;(case ho=>rfl);(case hg=>rfl);(case hn=>rfl);(case hr=>first | (go_simp;done) | (go_simp;rfl));intro w5 hw;have BK5:=Az.mk (show w5.heap[g]? = some (.cells #[.int .i64 q.f0,.int .i64 q.f1,.bool q.f2.f0,.int .i64 q.f2.f1,.int .i64 q.f2.f2,.int .i64 q.f2.f3,.int .i64 q.f2.f4,.slice A7 q.f2.f5.length c7,.int .i64 0] 32 (0,0)) from by rw [hw];exact blk_put BK3.out 8 _ rfl);have HB5:=Az.mk (show Below wr.heap.size wr w5 from by rw [hw];exact bwS HB3.out GE.out);clear hw)
    clear hy0 hy1 hy2 hy3 hy4 hy5 hy6 hy7 hy8 hfy8 HX3 HI3 HS3 BK3 HB3;have HX3:=Az.mk (Kd.C_below HX6.out HB5.out);have HI3:=Az.mk (Kd.C_below HI6.out HB5.out);have HB3:=HB5;have hz0 : w5.cell? ⟨g,0,none⟩ = some (.int .i64 q.f0):=(kC BK5.out 0).trans rfl;have hz1 : w5.cell? ⟨g,1,none⟩ = some (.int .i64 q.f1):=(kC BK5.out 1).trans rfl;have hz2 : w5.cell? ⟨g,2,none⟩ = some (.bool q.f2.f0):=(kC BK5.out 2).trans rfl;have hz3 : w5.cell? ⟨g,3,none⟩ = some (.int .i64 q.f2.f1):=(kC BK5.out 3).trans rfl;have hz4 : w5.cell? ⟨g,4,none⟩ = some (.int .i64 q.f2.f2):=(kC BK5.out 4).trans rfl;have hz5 : w5.cell? ⟨g,5,none⟩ = some (.int .i64 q.f2.f3):=(kC BK5.out 5).trans rfl;have hz6 : w5.cell? ⟨g,6,none⟩ = some (.int .i64 q.f2.f4):=(kC BK5.out 6).trans rfl;have hz7 : w5.cell? ⟨g,7,none⟩ = some (.slice A7 q.f2.f5.length c7):=(kC BK5.out 7).trans rfl;have hz8 : w5.cell? ⟨g,8,none⟩ = some (.int .i64 0):=(kC BK5.out 8).trans rfl
    go_upto_region 17 with (go_at_call 39;(with_reducible refine (w4keys.calls k1 A5 c5 x5 q.f0 q.f1 q.f2.f0 q.f2.f1 q.f2.f2 q.f2.f3 q.f2.f4 A7 c7 q.f2.f5 0 ks _ (by repeat (first | (with_reducible exact HX3.out) | (with_reducible refine Kd.C_alloc ?_ _) | (with_reducible refine Kd.C_drewN ?_ _) | (with_reducible refine Kd.C_drew ?_))) HL5.out (by repeat (first | (with_reducible exact HI3.out) | (with_reducible refine Kd.C_alloc ?_ _) | (with_reducible refine Kd.C_drewN ?_ _) | (with_reducible refine Kd.C_drew ?_))) HL7.out A8.out).mono ?_);rintro e w6 ⟨v9,rfl,hR,hb⟩;have HR6:=Az.mk hR;have BK6:=Az.mk (kB BK5.out hb);have HB6:=Az.mk (bwT (by repeat (first | (with_reducible first | exact HB3.out | apply bwA | apply bwN | apply bw1))) hb);clear hR hb)
    clear hz0 hz1 hz2 hz3 hz4 hz5 hz6 hz7 hz8 HX3 HI3 HB3 HB5 BK5;have HX3:=Az.mk (Kd.C_below HX6.out HB6.out);have HI3:=Az.mk (Kd.C_below HI6.out HB6.out);have HB3:=HB6;obtain ⟨Ak,ck,rfl⟩:=Kd.R_slice HR6.out;have HK6:=Az.mk (Kd.R_reads' HR6.out).2.2;have HKL:=Az.mk (Kd.R_reads' HR6.out).2.1;have hu0 : w6.cell? ⟨g,0,none⟩ = some (.int .i64 q.f0):=(kC BK6.out 0).trans rfl;have hu1 : w6.cell? ⟨g,1,none⟩ = some (.int .i64 q.f1):=(kC BK6.out 1).trans rfl;have hu2 : w6.cell? ⟨g,2,none⟩ = some (.bool q.f2.f0):=(kC BK6.out 2).trans rfl;have hu3 : w6.cell? ⟨g,3,none⟩ = some (.int .i64 q.f2.f1):=(kC BK6.out 3).trans rfl;have hu4 : w6.cell? ⟨g,4,none⟩ = some (.int .i64 q.f2.f2):=(kC BK6.out 4).trans rfl;have hu5 : w6.cell? ⟨g,5,none⟩ = some (.int .i64 q.f2.f3):=(kC BK6.out 5).trans rfl;have hu6 : w6.cell? ⟨g,6,none⟩ = some (.int .i64 q.f2.f4):=(kC BK6.out 6).trans rfl;have hu7 : w6.cell? ⟨g,7,none⟩ = some (.slice A7 q.f2.f5.length c7):=(kC BK6.out 7).trans rfl;have hu8 : w6.cell? ⟨g,8,none⟩ = some (.int .i64 0):=(kC BK6.out 8).trans rfl
    go_wp2_with (go_at_call 49;(with_reducible refine (r4Merge.calls k1 A5 c5 x5 q.f1 q.f2.f0 q.f2.f1 q.f2.f2 q.f2.f3 q.f2.f4 (fun _=>True) A7 c7 q.f2.f5 Ak ck ks Ak ck ks t t2 _ (by repeat (first | (with_reducible exact HX3.out) | (with_reducible refine Kd.C_alloc ?_ _) | (with_reducible refine Kd.C_drewN ?_ _) | (with_reducible refine Kd.C_drew ?_))) HL5.out (V_int HL7.out (by repeat (first | (with_reducible exact HI3.out) | (with_reducible refine Kd.C_alloc ?_ _) | (with_reducible refine Kd.C_drewN ?_ _) | (with_reducible refine Kd.C_drew ?_)))) (by repeat (first | (with_reducible exact HK6.out) | (with_reducible refine Kd.C_alloc ?_ _) | (with_reducible refine Kd.C_drewN ?_ _) | (with_reducible refine Kd.C_drew ?_))) HKL.out (by repeat (first | (with_reducible exact HK6.out) | (with_reducible refine Kd.C_alloc ?_ _) | (with_reducible refine Kd.C_drewN ?_ _) | (with_reducible refine Kd.C_drew ?_))) HKL.out A9.out).mono ?_);rintro e w4 ⟨v8,rfl,hS,hb⟩;have HS4:=Az.mk hS;have HB4:=Az.mk (bwT (by repeat (first | (with_reducible first | exact HB3.out | apply bwA | apply bwN | apply bw1))) hb);have HZ:=Az.mk (bwZ (by repeat (first | (with_reducible first | exact HB3.out | apply bwA | apply bwN | apply bw1))));clear hS hb)
    go_meet
    exact ⟨t,⟨Kd.N_mono (Kd.N_lower (Kd.S_N HS4.out) HZ.out) (fun k_ hk=>Nat.le_trans HZ.out hk)⟩,HB4,HH⟩
   case rest=>
   obtain ⟨x8,HN8,HB8,HH⟩:=hcut;clear hy0 hy1 hy2 hy3 hy4 hy5 hy6 hy7 hy8 hfy8 HX3 HI3 HS3 BK3 HB3;have H:=HH.out;clear HH;obtain ⟨A8,c8,rfl⟩:=Kd.N_slice HN8.out
   by_cases c9 : (x8.length : Int) > 0
   · rw [if_pos c9] at H
     have HH:=Az.mk H;have c9b : decide (0 < (x8.length : Int)) = true:=decide_eq_true c9;have c9n : decide (0 < x8.length) = true:=decide_eq_true (by omega);clear c9 H
     go_wp2
     go_roundg k1
     case measure=>have:=HK1.out;omega
     case rel=>exact ⟨x8,wrap64 (x15 + 1),rs_,HH,⟨by have:=HK1.out;omega⟩,⟨by (with_reducible repeat (first | apply Kd.N_alloc | apply Kd.N_drewN | apply Kd.N_drew));exact Kd.N_mono (Kd.N_lower HN8.out (bwZ HB.out)) (fun k_ hk=>.inr (Nat.le_trans (bwZ HB.out) hk))⟩,⟨by (with_reducible repeat (first | refine Kd.C_alloc ?_ _ | refine Kd.C_drewN ?_ _ | refine Kd.C_drew ?_));exact Kd.C_below HCS.out HB8.out⟩,⟨by repeat (first | (with_reducible first | exact (bwT HB.out HB8.out) | apply bwA | apply bwN | apply bw1))⟩⟩
   · rw [if_neg c9] at H
     have HH:=Az.mk H;have c9b : decide (0 < (x8.length : Int)) = false:=decide_eq_false c9;have c9n : decide (0 < x8.length) = false:=decide_eq_false (by omega);clear c9 H
     go_wp2
     go_roundg k1
     case measure=>have:=HK1.out;omega
     case rel=>exact ⟨x5,wrap64 (x15 + 1),rs_,HH,⟨by have:=HK1.out;omega⟩,⟨by (with_reducible repeat (first | apply Kd.N_alloc | apply Kd.N_drewN | apply Kd.N_drew));exact Kd.N_below HN.out HB8.out⟩,⟨by (with_reducible repeat (first | refine Kd.C_alloc ?_ _ | refine Kd.C_drewN ?_ _ | refine Kd.C_drew ?_));exact Kd.C_below HCS.out HB8.out⟩,⟨by repeat (first | (with_reducible first | exact (bwT HB.out HB8.out) | apply bwA | apply bwN | apply bw1))⟩⟩
end Go.Proofs.YtbblomnhobodkaaDoor.PTw
namespace Go.Proofs.YtbblomnhobodkaaDoor.PTw
open Go.RowKit Go.Proofs.YtbblomnhobodkaaDoorW.PW Go.Proofs.YtbblomnhobodkaaDoorW.PL Go.Proofs.YtbblomnhobodkaaDoorW.PM
attribute [local go_sem] max2_int min2_int max_two min_two max_three min_three max_four min_four   -- for this text's walks alone
set_option linter.unusedVariables false
set_option linter.unusedSimpArgs false
def tree_Members.l0 : Nat→List (S29)→List Int→Int→Int→Option (List Int)
 | 0,_,_,_,_=>none
 | k + 1,x0,x3,x6,x7=>if x7 < x6 then (if 0≤(wrap64 (2 * x7)) then (if (wrap64 (2 * x7)) < (x0.length : Int) then (if (rd_T29 x0 (wrap64 (2 * x7))).f0 = true then (if x3.length < 17592186044416 then (tree_Members.l0 k x0 (x3 ++ [x7]) x6 (wrap64 (x7 + 1))) else (none)) else (tree_Members.l0 k x0 x3 x6 (wrap64 (x7 + 1)))) else (none)) else (none)) else (some x3)
def tree_Members.f (k : Nat) (l0 : List (S29)) : Option (List Int):=(tree_Leaves.f l0).bind fun t571=>(tree_Members.l0 k l0 ([] : List Int) t571 0)
theorem tree_Members.mono_l : ∀ k,(∀ y0 y1 y2 y3,LeO (tree_Members.l0 k y0 y1 y2 y3) (tree_Members.l0 (k + 1) y0 y1 y2 y3))
 | 0=>fun _ _ _ _ r h=>by simp [tree_Members.l0] at h
 | k + 1=>by
  have ih0:=tree_Members.mono_l k
  · intro y0 y1 y2 y3
    unfold tree_Members.l0
    repeat' first
    | (with_reducible exact ih0 _ _ _ _)
    | (with_reducible exact LeO.refl _)
    | (with_reducible exact LeO.none _)
    | (with_reducible refine LeO.ite ?_ ?_)
    | (with_reducible refine LeO.bind ?_ (fun _=>?_))
    | exact ih0 _ _ _ _
    | exact LeO.none _
    | refine LeO.ite ?_ ?_
    | refine LeO.bind ?_ (fun _=>?_)
theorem tree_Members.mono : ∀ a0 k,LeO (tree_Members.f k a0) (tree_Members.f (k + 1) a0):=by
 intro a0 k;have ih0:=tree_Members.mono_l k;unfold tree_Members.f
 repeat' first
  | (with_reducible exact ih0 _ _ _ _)
  | (with_reducible exact LeO.refl _)
  | (with_reducible exact LeO.none _)
  | (with_reducible refine LeO.ite ?_ ?_)
  | (with_reducible refine LeO.bind ?_ (fun _=>?_))
  | exact ih0 _ _ _ _
  | exact LeO.none _
  | refine LeO.ite ?_ ?_
  | refine LeO.bind ?_ (fun _=>?_)
set_option maxHeartbeats 8000000 in
set_option maxRecDepth 100000 in
theorem tree_Members.calls (k : Nat) (A0 : Option Addr) (c0 : Nat) (l0 : List (S29)) (r : List Int) (w : World) (hr0 : Kd.C k29 w A0 l0.length l0) (hc0 : l0.length≤c0) (h : tree_Members.f k l0 = some r) :
 Calls Tryd.prog 24 #[.slice A0 l0.length c0] w fun e w'=>∃ v0_ : Value,e = .returned (v0_)∧Kd.R (Kd.int .i64) 3 w' w.heap.size (fun _=>True) v0_ r∧Below w.heap.size w w':=by
 have HR0:=Az.mk hr0;have HC0:=Az.mk hc0;clear hr0 hc0;have HB:=Az.mk (Below.refl w.heap.size w);have H : ((tree_Leaves.f l0).bind fun t571=>(tree_Members.l0 k l0 ([] : List Int) t571 0)) = some r:=h;clear h;replace H:=Option.bind_eq_some_iff.mp H;obtain ⟨t571,A20,H⟩:=H;(try dsimp only at H);have A2:=Az.mk A20;clear A20;have H':=Az.mk H;clear H
 go_enter Tryd.func24,Tryd.ntmps24
 go_wp2_with (first | ((with_reducible refine gate_callee (f:=29) rfl ?_);refine goesL_ (some 6) rfl rfl Tryd.func29 (by kernel_rfl) rfl #[.slice A0 l0.length c0] rfl tl_ ?_;(with_reducible refine (tree_Leaves.calls _ _ l0 t571 _ ?side1 ?side2 A2.out).mono ?_);(case side1=>exact C_mv (HR0.out));(case side2=>exact HC0.out);rintro e w' ⟨rfl,⟨nd,rfl⟩⟩;refine ⟨_,rfl,?_⟩))
 go_loopg [3,7] k (fun kq v3 v7 w'=>∃ (x3_1 : List Int) (x7_1 : Int),v7 = .int .i64 x7_1∧Az (tree_Members.l0 kq l0 x3_1 t571 x7_1 = some r)∧Az (kq≤k)∧Az (Kd.R (Kd.int .i64) 3 w' w.heap.size (fun _=>True) v3 x3_1)∧Az (Below w.heap.size w w'))
 case atStart=>exact ⟨(([] : List Int)),(0),rs_,H',⟨Nat.le_refl _⟩,⟨by first | exact Kd.R_nil _ _ _ _ _ | exact Kd.N_nil _ _ _ _ _ | exact Kd.V_nil _ _ _ _ _ | exact Kd.Q_nil _ _ _ _ _ | exact Kd.S_nil _ _ _ _ _⟩,⟨bmv HB.out⟩⟩
 case round=>
  clear H';obtain ⟨x3_1,x7_1,rfl,HA,HK1,HO_3,HB⟩:=hrel
  cases gk with
  | zero=>exact absurd HA.out (by simp [tree_Members.l0])
  | succ k1=>
   have H:=HA.out;clear HA;simp only [tree_Members.l0] at H
   by_cases c3 : x7_1 < t571
   · rw [if_pos c3] at H
     have c3b0 : decide (x7_1 < t571) = true:=decide_eq_true c3;clear c3
     obtain ⟨ji4,hji4⟩ : ∃ j_ : Int,(wrap64 (2 * x7_1)) = j_:=⟨_,rfl⟩
     replace H : (if 0≤(ji4) then (if (ji4) < (l0.length : Int) then (if (rd_T29 l0 (ji4)).f0 = true then (if x3_1.length < 17592186044416 then (tree_Members.l0 k1 l0 (x3_1 ++ [x7_1]) t571 (wrap64 (x7_1 + 1))) else (none)) else (tree_Members.l0 k1 l0 x3_1 t571 (wrap64 (x7_1 + 1)))) else (none)) else (none)) = some r:=by first | (rw [hji4] at H;exact H) | (simp only [hji4] at H ⊢;exact H)
     have hji4w : (IntKind.i64.wrap (2 * x7_1)) = ji4:=(i64_w _).trans hji4
     by_cases c5 : 0≤(ji4)
     · rw [if_pos c5] at H
       have c5b0 : decide (0≤(ji4)) = true:=decide_eq_true c5;clear c5
       by_cases c6 : (ji4) < (l0.length : Int)
       · rw [if_pos c6] at H
         have c6b0 : decide ((ji4) < (l0.length : Int)) = true:=decide_eq_true c6;clear c6
         obtain ⟨bq7,hbq7⟩ : ∃ b_ : Bool,b_ = ((rd_T29 l0 (ji4)).f0):=⟨_,rfl⟩
         replace H : (if bq7 = true then (if x3_1.length < 17592186044416 then (tree_Members.l0 k1 l0 (x3_1 ++ [x7_1]) t571 (wrap64 (x7_1 + 1))) else (none)) else (tree_Members.l0 k1 l0 x3_1 t571 (wrap64 (x7_1 + 1)))) = some r:=by rw [← hbq7] at H;exact H
         have Nbq7:=Az.mk hbq7;clear hbq7
         by_cases c8 : bq7 = true
         · subst c8
           rw [if_pos rfl] at H
           by_cases c9 : x3_1.length < 17592186044416
           · rw [if_pos c9] at H
             have LMc9:=Az.mk c9;clear c9
             obtain ⟨y573,hy573⟩ : ∃ y_ : List Int,y_ = (x3_1 ++ [x7_1]):=⟨_,rfl⟩
             replace H : (tree_Members.l0 k1 l0 y573 t571 (wrap64 (x7_1 + 1))) = some r:=by first | (rw [hy573];with_reducible exact H) | (have H2_:=(Option.bind_some _ _).symm.trans H;rw [hy573];with_reducible exact H2_) | (have H2_:=(Option.bind_some _ _).symm.trans H;with_reducible exact H2_) | with_reducible exact H | (rw [hy573];exact H) | exact H
             have Ny573:=Az.mk hy573;clear hy573;have H':=Az.mk H;clear H;have p572 : 0≤((ji4) : Int):=dt_;have q572 : (ji4) < (l0.length : Int):=dt_;obtain ⟨ad572,A572_5,c572_5,e572,hx572_0,hx572_1,hx572_2,hx572_3,hx572_4,hx572_5,hl572_5,hi572_5⟩:=at_T29 HR0.out (ji4) p572 q572
             (try rw [← Nbq7.out] at hx572_0)
             cases e572;replace hx572_0:=hbc HB.out hx572_0;replace hx572_1:=hbc HB.out hx572_1;replace hx572_2:=hbc HB.out hx572_2;replace hx572_3:=hbc HB.out hx572_3;replace hx572_4:=hbc HB.out hx572_4;replace hx572_5:=hbc HB.out hx572_5;have HR572_5:=Az.mk hi572_5;have HC572_5:=Az.mk hl572_5;clear hi572_5 hl572_5;replace p572:=eq_true p572;replace q572:=eq_true q572
             go_wp2_with (first | ((with_reducible refine gate_builtin (b:=.append) (xs:=#[.tmp 16,.tmp 18]) rfl ?_);at_builtin;refine Kd.R_append (Kd.int .i64) (w0:=w) w.heap.size rfl (.tmp 16) (.tmp 18) 27 3 (.int .i64 0) 8 rfl Tryd.underlying27 info3 rfl (by decide) (by omega) u3 x3_1 x7_1 [.int .i64 x7_1] (fun _=>True) (fun _=>False) rfl rfl ?aP (fun _ hk=>hk.elim) ?aF ?aO ?aB ?aS ?aL ?_;(case aP=>exact rfl);(case aB=>exact (bmv HB.out));(case aF=>exact (fun _ _=>trivial));(case aO=>exact (R_mv HO_3.out));(case aS=>exact (bwZ (bmv HB.out)));(case aL=>have:=LMc9.out;omega);intro v574 w10 ho hb hg hat;rw [← Ny573.out] at ho;have HO575:=Az.mk (ho);replace HB:=Az.mk (hb);clear HO_3;clear ho hb hg hat))
             go_roundg k1
             case measure=>have:=HK1.out;omega
             case rel=>exact ⟨(y573),(wrap64 (x7_1 + 1)),rs_,H',⟨by have:=HK1.out;omega⟩,⟨R_mv HO575.out⟩,⟨bmv HB.out⟩⟩
           · rw [if_neg c9] at H
             exact absurd H (by simp)
         · replace c8:=Bool.eq_false_iff.mpr c8
           subst c8;rw [if_neg (show ¬ (false = true) by decide)] at H;have H':=Az.mk H;clear H;have p572 : 0≤((ji4) : Int):=dt_;have q572 : (ji4) < (l0.length : Int):=dt_;obtain ⟨ad572,A572_5,c572_5,e572,hx572_0,hx572_1,hx572_2,hx572_3,hx572_4,hx572_5,hl572_5,hi572_5⟩:=at_T29 HR0.out (ji4) p572 q572
           (try rw [← Nbq7.out] at hx572_0)
           cases e572;replace hx572_0:=hbc HB.out hx572_0;replace hx572_1:=hbc HB.out hx572_1;replace hx572_2:=hbc HB.out hx572_2;replace hx572_3:=hbc HB.out hx572_3;replace hx572_4:=hbc HB.out hx572_4;replace hx572_5:=hbc HB.out hx572_5;have HR572_5:=Az.mk hi572_5;have HC572_5:=Az.mk hl572_5;clear hi572_5 hl572_5;replace p572:=eq_true p572;replace q572:=eq_true q572
           go_wp2
           go_roundg k1
           case measure=>have:=HK1.out;omega
           case rel=>exact ⟨(x3_1),(wrap64 (x7_1 + 1)),rs_,H',⟨by have:=HK1.out;omega⟩,⟨R_mv HO_3.out⟩,⟨bmv HB.out⟩⟩
       · rw [if_neg c6] at H
         exact absurd H (by simp)
     · rw [if_neg c5] at H
       exact absurd H (by simp)
   · rw [if_neg c3] at H
     have c3b0 : decide (x7_1 < t571) = false:=decide_eq_false c3;clear c3;obtain rfl:=Option.some.inj H
     go_wp2
     go_ret
     exact ⟨_,by first | rfl | (simp [errW_none,errW_some] <;> rfl) | (simp [*,errW_none,errW_some] <;> rfl),R_mv HO_3.out,bmv HB.out⟩
end Go.Proofs.YtbblomnhobodkaaDoor.PTw
namespace Go.Proofs.YtbblomnhobodkaaDoor.PTw
open Go.RowKit Go.Proofs.YtbblomnhobodkaaDoorW.PW Go.Proofs.YtbblomnhobodkaaDoorW.PL Go.Proofs.YtbblomnhobodkaaDoorW.PM
attribute [local go_sem] max2_int min2_int max_two min_two max_three min_three max_four min_four   -- for this text's walks alone
set_option linter.unusedVariables false
set_option linter.unusedSimpArgs false
structure WfOp (o : S32) : Prop where
 f0 : (Lit.int .i64 o.f0).wf = true
 f1 : (Lit.int .i64 o.f1).wf = true
 v1 : (Lit.int .i64 o.f2.f1).wf = true
 v2 : (Lit.int .i64 o.f2.f2).wf = true
 v3 : (Lit.int .i64 o.f2.f3).wf = true
 v4 : (Lit.int .i64 o.f2.f4).wf = true
 f3 : (Lit.int .i64 o.f3).wf = true
 late : o.f2.f5.length≤maxLen∧∀ x ∈ o.f2.f5,(Lit.int .i64 x).wf = true
end Go.Proofs.YtbblomnhobodkaaDoor.PTw
namespace Go.Proofs.YtbblomnhobodkaaDoor.PTw
open Go.RowKit Go.Proofs.YtbblomnhobodkaaDoorW.PW Go.Proofs.YtbblomnhobodkaaDoorW.PL Go.Proofs.YtbblomnhobodkaaDoorW.PM
attribute [local go_sem] max2_int min2_int max_two min_two max_three min_three max_four min_four   -- for this text's walks alone
set_option linter.unusedVariables false
set_option linter.unusedSimpArgs false
def w4upward.l0 : Nat→Int→Int→List Int→Int→Option (List Int)
 | 0,_,_,_,_=>none
 | k + 1,x0,x1,x5,x6=>if x6 < x1 then (if (wrap64 (4 * x6)) = 0 then (none) else (if x0 = (wrap64 ((wrap64 ((wrap64 ((wrap64 (Int.tdiv x0 (wrap64 (4 * x6)))) * (wrap64 (4 * x6)))) + (wrap64 (2 * x6)))) - 1)) then (w4upward.l0 k (wrap64 ((wrap64 ((wrap64 ((wrap64 (Int.tdiv x0 (wrap64 (4 * x6)))) * (wrap64 (4 * x6)))) + (wrap64 (2 * x6)))) - 1)) x1 x5 (wrap64 (x6 * 2))) else (if x5.length < 17592186044416 then (w4upward.l0 k (wrap64 ((wrap64 ((wrap64 ((wrap64 (Int.tdiv x0 (wrap64 (4 * x6)))) * (wrap64 (4 * x6)))) + (wrap64 (2 * x6)))) - 1)) x1 (x5 ++ [wrap64 ((wrap64 ((wrap64 ((wrap64 (Int.tdiv x0 (wrap64 (4 * x6)))) * (wrap64 (4 * x6)))) + (wrap64 (2 * x6)))) - 1)]) (wrap64 (x6 * 2))) else (none)))) else (some x5)
def w4upward.f (k : Nat) (a0 : Int) (a1 : Int) : Option (List Int):=w4upward.l0 k a0 a1 ([] : List Int) 1
theorem w4upward.mono_l : ∀ k,(∀ y0 y1 y2 y3,LeO (w4upward.l0 k y0 y1 y2 y3) (w4upward.l0 (k + 1) y0 y1 y2 y3))
 | 0=>fun _ _ _ _ r h=>by simp [w4upward.l0] at h
 | k + 1=>by
  have ih0:=w4upward.mono_l k
  · intro y0 y1 y2 y3
    unfold w4upward.l0
    repeat' first
    | (with_reducible exact ih0 _ _ _ _)
    | (with_reducible exact LeO.refl _)
    | (with_reducible exact LeO.none _)
    | (with_reducible refine LeO.ite ?_ ?_)
    | (with_reducible refine LeO.bind ?_ (fun _=>?_))
    | exact ih0 _ _ _ _
    | exact LeO.none _
    | refine LeO.ite ?_ ?_
    | refine LeO.bind ?_ (fun _=>?_)
theorem w4upward.mono : ∀ a0 a1 k,LeO (w4upward.f k a0 a1) (w4upward.f (k + 1) a0 a1):=by
 intro a0 a1 k;have ih0:=w4upward.mono_l k;unfold w4upward.f
 repeat' first
  | (with_reducible exact ih0 _ _ _ _)
  | (with_reducible exact LeO.refl _)
  | (with_reducible exact LeO.none _)
  | (with_reducible refine LeO.ite ?_ ?_)
  | (with_reducible refine LeO.bind ?_ (fun _=>?_))
  | exact ih0 _ _ _ _
  | exact LeO.none _
  | refine LeO.ite ?_ ?_
  | refine LeO.bind ?_ (fun _=>?_)
set_option maxHeartbeats 8000000 in
set_option maxRecDepth 100000 in
theorem w4upward.calls (k : Nat) (a0 : Int) (a1 : Int) (r : List Int) (w : World) (h : w4upward.f k a0 a1 = some r) :
 Calls Tryd.prog 30 #[.int .i64 a0,.int .i64 a1] w fun e w'=>∃ v0_ : Value,e = .returned (v0_)∧Kd.R (Kd.int .i64) 3 w' w.heap.size (fun _=>True) v0_ r∧Below w.heap.size w w':=by
 have HB:=Az.mk (Below.refl w.heap.size w);have H : (w4upward.l0 k a0 a1 ([] : List Int) 1) = some r:=h;clear h;have H':=Az.mk H;clear H
 go_enter Tryd.func30,Tryd.ntmps30
 go_wp2
 go_loopg [0,5,6] k (fun kq v0 v5 v6 w'=>∃ (x0_1 : Int) (x5_1 : List Int) (x6_1 : Int),v0 = .int .i64 x0_1∧v6 = .int .i64 x6_1∧Az (w4upward.l0 kq x0_1 a1 x5_1 x6_1 = some r)∧Az (kq≤k)∧Az (Kd.R (Kd.int .i64) 3 w' w.heap.size (fun _=>True) v5 x5_1)∧Az (Below w.heap.size w w'))
 case atStart=>exact ⟨(a0),(([] : List Int)),(1),rs_,rs_,H',⟨Nat.le_refl _⟩,⟨by first | exact Kd.R_nil _ _ _ _ _ | exact Kd.N_nil _ _ _ _ _ | exact Kd.V_nil _ _ _ _ _ | exact Kd.Q_nil _ _ _ _ _ | exact Kd.S_nil _ _ _ _ _⟩,⟨bmv HB.out⟩⟩
 case round=>
  clear H';obtain ⟨x0_1,x5_1,x6_1,rfl,rfl,HA,HK1,HO_5,HB⟩:=hrel
  cases gk with
  | zero=>exact absurd HA.out (by simp [w4upward.l0])
  | succ k1=>
   have H:=HA.out;clear HA;simp only [w4upward.l0] at H
   by_cases c3 : x6_1 < a1
   · rw [if_pos c3] at H
     have c3b0 : decide (x6_1 < a1) = true:=decide_eq_true c3;clear c3
     by_cases c4 : (wrap64 (4 * x6_1)) = 0
     · rw [if_pos c4] at H
       exact absurd H (by simp)
     · rw [if_neg c4] at H
       have c4b0 : ((wrap64 (4 * x6_1)) == 0) = false:=beq_eq_false_iff_ne.mpr c4;have c4b1 : ((wrap64 (4 * x6_1)) != 0) = true:=bne_iff_ne.mpr c4
       by_cases c5 : x0_1 = (wrap64 ((wrap64 ((wrap64 ((wrap64 (Int.tdiv x0_1 (wrap64 (4 * x6_1)))) * (wrap64 (4 * x6_1)))) + (wrap64 (2 * x6_1)))) - 1))
       · rw [if_pos c5] at H
         have c5b0 : (x0_1 == (wrap64 ((wrap64 ((wrap64 ((wrap64 (Int.tdiv x0_1 (wrap64 (4 * x6_1)))) * (wrap64 (4 * x6_1)))) + (wrap64 (2 * x6_1)))) - 1))) = true:=beq_iff_eq.mpr c5;have c5b1 : (x0_1 != (wrap64 ((wrap64 ((wrap64 ((wrap64 (Int.tdiv x0_1 (wrap64 (4 * x6_1)))) * (wrap64 (4 * x6_1)))) + (wrap64 (2 * x6_1)))) - 1))) = false:=bne_eq_false_iff_eq.mpr c5;clear c5;have H':=Az.mk H;clear H
         go_wp2
         go_roundg k1
         case measure=>have:=HK1.out;omega
         case rel=>exact ⟨(wrap64 ((wrap64 ((wrap64 ((wrap64 (Int.tdiv x0_1 (wrap64 (4 * x6_1)))) * (wrap64 (4 * x6_1)))) + (wrap64 (2 * x6_1)))) - 1)),(x5_1),(wrap64 (x6_1 * 2)),rs_,rs_,H',⟨by have:=HK1.out;omega⟩,⟨R_mv HO_5.out⟩,⟨bmv HB.out⟩⟩
       · rw [if_neg c5] at H
         have c5b0 : (x0_1 == (wrap64 ((wrap64 ((wrap64 ((wrap64 (Int.tdiv x0_1 (wrap64 (4 * x6_1)))) * (wrap64 (4 * x6_1)))) + (wrap64 (2 * x6_1)))) - 1))) = false:=beq_eq_false_iff_ne.mpr c5;have c5b1 : (x0_1 != (wrap64 ((wrap64 ((wrap64 ((wrap64 (Int.tdiv x0_1 (wrap64 (4 * x6_1)))) * (wrap64 (4 * x6_1)))) + (wrap64 (2 * x6_1)))) - 1))) = true:=bne_iff_ne.mpr c5
         by_cases c6 : x5_1.length < 17592186044416
         · rw [if_pos c6] at H
           have LMc6:=Az.mk c6;clear c6
           obtain ⟨y622,hy622⟩ : ∃ y_ : List Int,y_ = (x5_1 ++ [wrap64 ((wrap64 ((wrap64 ((wrap64 (Int.tdiv x0_1 (wrap64 (4 * x6_1)))) * (wrap64 (4 * x6_1)))) + (wrap64 (2 * x6_1)))) - 1)]):=⟨_,rfl⟩
           replace H : (w4upward.l0 k1 (wrap64 ((wrap64 ((wrap64 ((wrap64 (Int.tdiv x0_1 (wrap64 (4 * x6_1)))) * (wrap64 (4 * x6_1)))) + (wrap64 (2 * x6_1)))) - 1)) a1 y622 (wrap64 (x6_1 * 2))) = some r:=by first | (rw [hy622];with_reducible exact H) | (have H2_:=(Option.bind_some _ _).symm.trans H;rw [hy622];with_reducible exact H2_) | (have H2_:=(Option.bind_some _ _).symm.trans H;with_reducible exact H2_) | with_reducible exact H | (rw [hy622];exact H) | exact H
           have Ny622:=Az.mk hy622;clear hy622;have H':=Az.mk H;clear H
           go_wp2_with (first | ((with_reducible refine gate_builtin (b:=.append) (xs:=#[.tmp 27,.tmp 29]) rfl ?_);at_builtin;refine Kd.R_append (Kd.int .i64) (w0:=w) w.heap.size rfl (.tmp 27) (.tmp 29) 27 3 (.int .i64 0) 8 rfl Tryd.underlying27 info3 rfl (by decide) (by omega) u5 x5_1 (wrap64 ((wrap64 ((wrap64 ((wrap64 (Int.tdiv x0_1 (wrap64 (4 * x6_1)))) * (wrap64 (4 * x6_1)))) + (wrap64 (2 * x6_1)))) - 1)) [.int .i64 (wrap64 ((wrap64 ((wrap64 ((wrap64 (Int.tdiv x0_1 (wrap64 (4 * x6_1)))) * (wrap64 (4 * x6_1)))) + (wrap64 (2 * x6_1)))) - 1))] (fun _=>True) (fun _=>False) rfl rfl ?aP (fun _ hk=>hk.elim) ?aF ?aO ?aB ?aS ?aL ?_;(case aP=>exact rfl);(case aB=>exact (bmv HB.out));(case aF=>exact (fun _ _=>trivial));(case aO=>exact (R_mv HO_5.out));(case aS=>exact (bwZ (bmv HB.out)));(case aL=>have:=LMc6.out;omega);intro v623 w7 ho hb hg hat;rw [← Ny622.out] at ho;have HO624:=Az.mk (ho);replace HB:=Az.mk (hb);clear HO_5;clear ho hb hg hat))
           go_roundg k1
           case measure=>have:=HK1.out;omega
           case rel=>exact ⟨(wrap64 ((wrap64 ((wrap64 ((wrap64 (Int.tdiv x0_1 (wrap64 (4 * x6_1)))) * (wrap64 (4 * x6_1)))) + (wrap64 (2 * x6_1)))) - 1)),(y622),(wrap64 (x6_1 * 2)),rs_,rs_,H',⟨by have:=HK1.out;omega⟩,⟨R_mv HO624.out⟩,⟨bmv HB.out⟩⟩
         · rw [if_neg c6] at H
           exact absurd H (by simp)
   · rw [if_neg c3] at H
     have c3b0 : decide (x6_1 < a1) = false:=decide_eq_false c3;clear c3;obtain rfl:=Option.some.inj H
     go_wp2
     go_ret
     exact ⟨_,by first | rfl | (simp [errW_none,errW_some] <;> rfl) | (simp [*,errW_none,errW_some] <;> rfl),R_mv HO_5.out,bmv HB.out⟩
def tree_clean.l0 : Nat→List Int→Int→Int→List (S29)→Option ((List (S29)))
 | 0,_,_,_,_=>none
 | k + 1,x16,x17,x18,x29=>if x18 < x17 then (if 0≤x18 then (if x18 < (x16.length : Int) then (if 0≤(rd x16 x18) then (if (rd x16 x18) < (x29.length : Int) then (tree_clean.l0 k x16 x17 (wrap64 (x18 + 1)) (x29.set ((rd x16 x18) : Int).toNat (⟨false,0,0,0,0,([] : List Int)⟩ : S29))) else (none)) else (none)) else (none)) else (none)) else (some x29)
def tree_clean.f (k : Nat) (l0 : List (S29)) (a1 : Int) : Option ((List (S29))):=(tree_Leaves.f l0).bind fun t598=>((heap_Path.f (wrap64 (2 * a1)) t598).bind fun bt599=>(tree_clean.l0 k bt599.1 (bt599.1.length : Int) 0 l0))
theorem tree_clean.mono_l : ∀ k,(∀ y0 y1 y2 y3,LeO (tree_clean.l0 k y0 y1 y2 y3) (tree_clean.l0 (k + 1) y0 y1 y2 y3))
 | 0=>fun _ _ _ _ r h=>by simp [tree_clean.l0] at h
 | k + 1=>by
  have ih0:=tree_clean.mono_l k
  · intro y0 y1 y2 y3
    unfold tree_clean.l0
    repeat' first
    | (with_reducible exact ih0 _ _ _ _)
    | (with_reducible exact LeO.refl _)
    | (with_reducible exact LeO.none _)
    | (with_reducible refine LeO.ite ?_ ?_)
    | (with_reducible refine LeO.bind ?_ (fun _=>?_))
    | exact ih0 _ _ _ _
    | exact LeO.none _
    | refine LeO.ite ?_ ?_
    | refine LeO.bind ?_ (fun _=>?_)
theorem tree_clean.mono : ∀ a0 a1 k,LeO (tree_clean.f k a0 a1) (tree_clean.f (k + 1) a0 a1):=by
 intro a0 a1 k;have ih0:=tree_clean.mono_l k;unfold tree_clean.f
 repeat' first
  | (with_reducible exact ih0 _ _ _ _)
  | (with_reducible exact LeO.refl _)
  | (with_reducible exact LeO.none _)
  | (with_reducible refine LeO.ite ?_ ?_)
  | (with_reducible refine LeO.bind ?_ (fun _=>?_))
  | exact ih0 _ _ _ _
  | exact LeO.none _
  | refine LeO.ite ?_ ?_
  | refine LeO.bind ?_ (fun _=>?_)
set_option maxHeartbeats 8000000 in
set_option maxRecDepth 100000 in
theorem tree_clean.calls (k : Nat) (A0 : Option Addr) (c0 : Nat) (l0 : List (S29)) (a1 : Int) (r : List (S29)) (ok : Nat→Prop) (w0 w : World) (hrG : TabG w) (hs : Kd.S k29 29 w w0.heap.size ok (.slice A0 l0.length c0) l0) (hB : Below w0.heap.size w0 w) (h : tree_clean.f k l0 a1 = some r) :
 Calls Tryd.prog 61 #[.slice A0 l0.length c0,.int .i64 a1] w fun e w'=>e = .returned (.tuple #[])∧Kd.S k29 29 w' w0.heap.size ok (.slice A0 l0.length c0) r∧Below w0.heap.size w0 w'∧Kept w w' ok:=by
 have huV:=Tryd.underlying29;have HT:=Az.mk hrG;have HO597:=Az.mk hs;have HB:=Az.mk hB;have HKE:=Az.mk (Kept.refl w ok);have H:=h;clear h hs hB hrG;unfold tree_clean.f at H;obtain ⟨t598,A40,H⟩:=Option.bind_eq_some_iff.mp H;have A4:=Az.mk A40;clear A40;obtain ⟨⟨t599,t600⟩,A50,H⟩:=Option.bind_eq_some_iff.mp H;(try dsimp only at H);have A5:=Az.mk A50;clear A50;have H':=Az.mk H;clear H
 go_enter Tryd.func61,Tryd.ntmps61
 go_wp2_with (first | ((with_reducible refine gate_callee (f:=29) rfl ?_);refine goesL_ (some 12) rfl rfl Tryd.func29 (by kernel_rfl) rfl #[.slice A0 l0.length c0] rfl (by (try simp only [List.map_toArray,List.map_cons,List.map_nil]);first | done | rfl) ?_;(with_reducible refine (tree_Leaves.calls _ _ l0 t598 _ ?side1 ?side2 A4.out).mono ?_);(case side1=>repeat (first | exact (Kd.S_reads' HO597.out).2.2 | (with_reducible refine Kd.C_alloc ?_ _) | (with_reducible refine Kd.C_drewN ?_ _) | (with_reducible refine Kd.C_drew ?_)));(case side2=>exact (Kd.S_reads' HO597.out).2.1);rintro e w' ⟨rfl,⟨nd,rfl⟩⟩;refine ⟨_,rfl,?_⟩) | ((with_reducible refine gate_callee (f:=52) rfl ?_);refine goesL_ (some 13) rfl rfl Tryd.func52 (by kernel_rfl) rfl #[.int .i64 (wrap64 (2 * a1)),.int .i64 t598] rfl (by (try simp only [List.map_toArray,List.map_cons,List.map_nil]);first | done | rfl) ?_;(with_reducible refine (heap_Path.calls (hrG:=?sideG) (wrap64 (2 * a1)) t598 t599 t600 _ A5.out).mono ?_);(case sideG=>first | exact HT.out | exact HT.out.drewN _ | exact (HT.out.drewN _).drewN _);rintro e w7 ⟨v601,rfl,ho0,hb⟩;refine ⟨_,rfl,?_⟩;have HO602:=Az.mk (show Kd.R (Kd.int .i64) 3 w7 w.heap.size (fun _=>True) v601 t599 from ho0);replace HO597:=Az.mk (Kd.S_elder' (by (with_reducible repeat (first | apply Kd.S_alloc | apply Kd.S_drewN | apply Kd.S_drew));exact HO597.out) (Kd.R_base ho0) hb);replace HKE:=Az.mk (show Kept w w7 ok from (Kept.drewN HKE.out _).below hb);replace HB:=Az.mk (bwT (by repeat (first | (with_reducible first | exact HB.out | apply bwA | apply bwN | apply bw1) | exact HB.out)) hb);(try clear hb);(try clear ho0);obtain ⟨Ao8,co8,eo8⟩:=Kd.R_slice HO602.out;subst eo8))
 go_loopg [18] k (fun kq v18 w'=>∃ (x18_1 : Int) (x29_1 : List (S29)),v18 = .int .i64 x18_1∧Az (tree_clean.l0 kq t599 (t599.length : Int) x18_1 x29_1 = some r)∧Az (kq≤k)∧Az (Kd.R (Kd.int .i64) 3 w' w.heap.size (fun _=>True) (.slice Ao8 t599.length co8) t599)∧Az (Kd.S k29 29 w' w0.heap.size (fun k_=>ok k_∧some k_≠((.slice Ao8 t599.length co8) : Value).ownBlock) (.slice A0 l0.length c0) x29_1)∧Az (Below w0.heap.size w0 w')∧Az (Kept w w' ok))
 case atStart=>exact ⟨(0),(l0),rs_,H',⟨Nat.le_refl _⟩,⟨by (with_reducible repeat (first | apply Kd.R_alloc | apply Kd.R_drewN | apply Kd.R_drew));exact HO602.out⟩,⟨by (with_reducible repeat (first | apply Kd.S_alloc | apply Kd.S_drewN | apply Kd.S_drew));exact HO597.out⟩,⟨by repeat (first | (with_reducible first | exact HB.out | apply bwA | apply bwN | apply bw1) | exact HB.out)⟩,⟨HKE.out⟩⟩
 case round=>
  clear H';(try clear c2);(try clear p2);(try clear c5);(try clear c6);(try clear p6);obtain ⟨x18_1,x29_1,rfl,HA,HK1,HO_16,HO_29,HB,HKE⟩:=hrel;have hl29:=Az.mk (Kd.S_reads' HO_29.out).1
  cases gk with
  | zero=>exact absurd HA.out (by simp [tree_clean.l0])
  | succ k1=>
   have H:=HA.out;clear HA;simp only [tree_clean.l0] at H
   by_cases c9 : x18_1 < (t599.length : Int)
   · rw [if_pos c9] at H
     have c9b0 : decide (x18_1 < (t599.length : Int)) = true:=decide_eq_true c9;clear c9
     by_cases c10 : 0≤x18_1
     · rw [if_pos c10] at H
       have c10b0 : decide (0≤x18_1) = true:=decide_eq_true c10;clear c10
       by_cases c11 : x18_1 < (t599.length : Int)
       · rw [if_pos c11] at H
         have c11b0 : decide (x18_1 < (t599.length : Int)) = true:=decide_eq_true c11;clear c11
         by_cases c12 : 0≤(rd t599 x18_1)
         · rw [if_pos c12] at H
           have c12b0 : decide (0≤(rd t599 x18_1)) = true:=decide_eq_true c12;clear c12
           by_cases c13 : (rd t599 x18_1) < (x29_1.length : Int)
           · rw [if_pos c13] at H
             have c13b0 : decide ((rd t599 x18_1) < (x29_1.length : Int)) = true:=decide_eq_true c13;have c13b1 : decide ((rd t599 x18_1) < (l0.length : Int)) = true:=decide_eq_true (by have:=hl29.out;omega);clear c13
             obtain ⟨y604,hy604⟩ : ∃ y_ : List (S29),y_ = (x29_1.set ((rd t599 x18_1) : Int).toNat (⟨false,0,0,0,0,([] : List Int)⟩ : S29)):=⟨_,rfl⟩
             replace H : (tree_clean.l0 k1 t599 (t599.length : Int) (wrap64 (x18_1 + 1)) y604) = some r:=by first | (rw [hy604];with_reducible exact H) | (have H2_:=(Option.bind_some _ _).symm.trans H;rw [hy604];with_reducible exact H2_) | (have H2_:=(Option.bind_some _ _).symm.trans H;with_reducible exact H2_) | with_reducible exact H | (rw [hy604];exact H) | exact H
             have Ny604:=Az.mk hy604;clear hy604;have H':=Az.mk H;clear H;have p603 : 0≤(x18_1 : Int):=dt_;have q603 : x18_1 < (t599.length : Int):=dt_;obtain ⟨ad603,e603,hx603_0⟩:=Kd.at_int (Kd.R_reads' HO_16.out).2.2 x18_1 p603 q603;cases e603;replace p603:=eq_true p603;replace q603:=eq_true q603;have p14 : 0≤((rd t599 x18_1) : Int):=dt_;have q14 : ((rd t599 x18_1) : Int) < ((l0.length : Int) : Int):=dt_;obtain ⟨go14,co14,eo14,gb14,gl14,cl14,HG14⟩:=Kd.S_form HO_29.out (by have:=hl29.out;omega)
             (first | cases eo14 | (injection eo14 with ea_ en_ ec_;(first | subst ea_ | (injection ea_ with ea_;subst ea_));subst ec_;clear en_))
             have GB14:=Az.mk gb14;have GG14:=Az.mk HG14;clear gb14 gl14 HG14;obtain ⟨_,ce14,hcl14,hM14,hcc14,hfr14,_,_⟩:=Kd.S_elem HO_29.out z29 ((rd t599 x18_1) : Int) p14 q14;obtain ⟨ve14_5,rfl,ge14_5⟩:=k29_openM hM14;have hx14_0 : wr.cell? ⟨go14,((rd t599 x18_1) : Int).toNat * 6,none⟩ = some (.bool ((rd_T29 x29_1 (rd t599 x18_1)).f0)):=hcc14 0 _ rfl;have hx14_1 : wr.cell? ⟨go14,((rd t599 x18_1) : Int).toNat * 6 + 1,none⟩ = some (.int .i64 ((rd_T29 x29_1 (rd t599 x18_1)).f1)):=hcc14 1 _ rfl;have hx14_2 : wr.cell? ⟨go14,((rd t599 x18_1) : Int).toNat * 6 + 2,none⟩ = some (.int .i64 ((rd_T29 x29_1 (rd t599 x18_1)).f2)):=hcc14 2 _ rfl;have hx14_3 : wr.cell? ⟨go14,((rd t599 x18_1) : Int).toNat * 6 + 3,none⟩ = some (.int .i64 ((rd_T29 x29_1 (rd t599 x18_1)).f3)):=hcc14 3 _ rfl;have hx14_4 : wr.cell? ⟨go14,((rd t599 x18_1) : Int).toNat * 6 + 4,none⟩ = some (.int .i64 ((rd_T29 x29_1 (rd t599 x18_1)).f4)):=hcc14 4 _ rfl;have hx14_5 : wr.cell? ⟨go14,((rd t599 x18_1) : Int).toNat * 6 + 5,none⟩ = some (ve14_5):=hcc14 5 _ rfl;have hf14_0 : wr.frozen? ⟨go14,((rd t599 x18_1) : Int).toNat * 6,none⟩ = false:=hfr14 0;have hf14_1 : wr.frozen? ⟨go14,((rd t599 x18_1) : Int).toNat * 6 + 1,none⟩ = false:=hfr14 1;have hf14_2 : wr.frozen? ⟨go14,((rd t599 x18_1) : Int).toNat * 6 + 2,none⟩ = false:=hfr14 2;have hf14_3 : wr.frozen? ⟨go14,((rd t599 x18_1) : Int).toNat * 6 + 3,none⟩ = false:=hfr14 3;have hf14_4 : wr.frozen? ⟨go14,((rd t599 x18_1) : Int).toNat * 6 + 4,none⟩ = false:=hfr14 4;have hf14_5 : wr.frozen? ⟨go14,((rd t599 x18_1) : Int).toNat * 6 + 5,none⟩ = false:=hfr14 5;clear hcl14 hcc14 hfr14 hM14;replace p14:=eq_true p14;replace q14:=eq_true q14;have HX15:=Az.mk (show Kd.S k29 29 wr w0.heap.size (fun k_=>((fun k_=>ok k_∧some k_≠(.slice (some ad603) t599.length co8 : Value).ownBlock)) k_∧¬ ((fun _=>False)) k_) (.slice (some ⟨go14,0,none⟩) l0.length c0) x29_1 from (by (with_reducible repeat (first | apply Kd.S_alloc | apply Kd.S_drewN | apply Kd.S_drew));exact Kd.S_mono HO_29.out (fun k_ hk=>⟨hk,fun e_=>e_⟩)));obtain ⟨oki15,ce15,hcl15,hM15,hcc15,hfr15,hoki15,hH15⟩:=Kd.S_elem HX15.out z29 ((rd t599 x18_1) : Int) (dt_) (by have h_ : ((rd t599 x18_1) : Int) < ((l0.length : Int) : Int):=dt_;first | exact h_ | (have e_:=(Kd.S_reads' HO_29.out).1;omega) | simpa using h_);obtain ⟨ve15_5,rfl,ge15_5⟩:=k29_openM hM15;have HP15:=Kd.S_seg hH15 (dt_) (by have h_ : ((rd t599 x18_1) : Int) < ((l0.length : Int) : Int):=dt_;first | exact h_ | (have e_:=(Kd.S_reads' HO_29.out).1;omega) | simpa using h_) (seg:=[.bool false,.int .i64 0,.int .i64 0,.int .i64 0,.int .i64 0,.slice none 0 0]) (j:=0) (show 6≤6 from by decide) (x':=(⟨false,0,0,0,0,([] : List Int)⟩ : S29)) (k29_mkM _ _ _ (⟨false,0,0,0,0,([] : List Int)⟩ : S29) (Kd.R_nil _ _ _ _ _)) (fun _ hk=>hk) (fun k_ hk_=>hk_.elim);have hx15_0:=hcc15 0 _ rfl
             (try simp only [show (k29).sz = 6 from rfl,Nat.mul_one,Nat.add_zero] at hx15_0)
             have hf15_0:=hfr15 0
             (try simp only [show (k29).sz = 6 from rfl,Nat.mul_one,Nat.add_zero] at hf15_0)
             have hx15_1:=hcc15 1 _ rfl
             (try simp only [show (k29).sz = 6 from rfl,Nat.mul_one,Nat.add_zero] at hx15_1)
             have hf15_1:=hfr15 1
             (try simp only [show (k29).sz = 6 from rfl,Nat.mul_one,Nat.add_zero] at hf15_1)
             have hx15_2:=hcc15 2 _ rfl
             (try simp only [show (k29).sz = 6 from rfl,Nat.mul_one,Nat.add_zero] at hx15_2)
             have hf15_2:=hfr15 2
             (try simp only [show (k29).sz = 6 from rfl,Nat.mul_one,Nat.add_zero] at hf15_2)
             have hx15_3:=hcc15 3 _ rfl
             (try simp only [show (k29).sz = 6 from rfl,Nat.mul_one,Nat.add_zero] at hx15_3)
             have hf15_3:=hfr15 3
             (try simp only [show (k29).sz = 6 from rfl,Nat.mul_one,Nat.add_zero] at hf15_3)
             have hx15_4:=hcc15 4 _ rfl
             (try simp only [show (k29).sz = 6 from rfl,Nat.mul_one,Nat.add_zero] at hx15_4)
             have hf15_4:=hfr15 4
             (try simp only [show (k29).sz = 6 from rfl,Nat.mul_one,Nat.add_zero] at hf15_4)
             have hx15_5:=hcc15 5 _ rfl
             (try simp only [show (k29).sz = 6 from rfl,Nat.mul_one,Nat.add_zero] at hx15_5)
             have hf15_5:=hfr15 5
             (try simp only [show (k29).sz = 6 from rfl,Nat.mul_one,Nat.add_zero] at hf15_5)
             clear hcl15 hcc15 hfr15 hM15 hoki15 hH15
             go_wp2_with (first | ((with_reducible refine gate_store (t:=29) (p:=25) rfl ?_);refine store_event (t:=29) (p:=25) (v:=?vo_w16) (w1:=((((((wr.setCell ⟨go14,((rd t599 x18_1) : Int).toNat * 6,none⟩ (.bool false)).setCell ⟨go14,((rd t599 x18_1) : Int).toNat * 6 + 1,none⟩ (.int .i64 0)).setCell ⟨go14,((rd t599 x18_1) : Int).toNat * 6 + 2,none⟩ (.int .i64 0)).setCell ⟨go14,((rd t599 x18_1) : Int).toNat * 6 + 3,none⟩ (.int .i64 0)).setCell ⟨go14,((rd t599 x18_1) : Int).toNat * 6 + 4,none⟩ (.int .i64 0)).setCell ⟨go14,((rd t599 x18_1) : Int).toNat * 6 + 5,none⟩ (.slice none 0 0))) ?hg ?ho ?hn ?hr ?_;(case ho=>rfl);(case hg=>rfl);(case hn=>rfl);(case hr=>first | (go_simp;done) | (go_simp;rfl));intro w16 hw;have hg : wr.grownBy w16 (some go14):=(by rw [hw];exact HP15.2);have hp_ : Kd.S k29 29 w16 w0.heap.size (fun k_=>ok k_∧some k_≠(.slice (some ad603) t599.length co8 : Value).ownBlock) (.slice (some ⟨go14,0,none⟩) l0.length c0) y604:=(by rw [hw,Ny604.out];exact HP15.1);clear HP15;replace HO_16:=Az.mk (Kd.R_over' (v:=(.slice (some ⟨go14,0,none⟩) l0.length c0)) (by (with_reducible repeat (first | apply Kd.R_alloc | apply Kd.R_drewN | apply Kd.R_drew));exact HO_16.out) (Kd.S_typed HO_29.out) (by decide) hg);replace HKE:=Az.mk (Kept.of_grown hg HKE.out (fun k_ e_=>by cases e_;exact .inl ((Kd.S_R HO_29.out).1 _ rfl).1));replace HO_29:=Az.mk (hp_);replace HB:=Az.mk ((by rw [hw];exact bwS (bwS (bwS (bwS (bwS (bwS (HB.out) GB14.out) GB14.out) GB14.out) GB14.out) GB14.out) GB14.out : Below w0.heap.size w0 w16));clear hg hw hp_))
             go_roundg k1
             case measure=>have:=HK1.out;omega
             case rel=>exact ⟨(wrap64 (x18_1 + 1)),(y604),rs_,H',⟨by have:=HK1.out;omega⟩,⟨by (with_reducible repeat (first | apply Kd.R_alloc | apply Kd.R_drewN | apply Kd.R_drew));exact HO_16.out⟩,⟨by (with_reducible repeat (first | apply Kd.S_alloc | apply Kd.S_drewN | apply Kd.S_drew));exact HO_29.out⟩,⟨by repeat (first | (with_reducible first | exact HB.out | apply bwA | apply bwN | apply bw1) | exact HB.out)⟩,⟨HKE.out⟩⟩
           · rw [if_neg c13] at H
             exact absurd H (by simp)
         · rw [if_neg c12] at H
           exact absurd H (by simp)
       · rw [if_neg c11] at H
         exact absurd H (by simp)
     · rw [if_neg c10] at H
       exact absurd H (by simp)
   · rw [if_neg c9] at H
     have c9b0 : decide (x18_1 < (t599.length : Int)) = false:=decide_eq_false c9;clear c9;obtain rfl:=Option.some.inj H
     go_wp2
     go_end0
     exact ⟨rfl,Kd.S_mono HO_29.out (fun _ hk=>hk.1),HB.out,HKE.out⟩
def tree_Merge.l0 : Nat→List Int→List Int→List Int→List (S29)→Int→Option (List (S29) × Int)
 | 0,_,_,_,_,_=>none
 | k + 1,p,ks,hs,x,j=>if j < (p.length : Int) then (if 0≤j then (if j < (ks.length : Int) then (if j < (hs.length : Int) then (if 0≤rd p j then (if rd p j < (x.length : Int) then tree_Merge.l0 k p ks hs (x.set (rd p j).toNat (⟨true,rd ks j,0,0,rd hs j,([] : List Int)⟩ : S29)) (wrap64 (j + 1)) else none) else none) else none) else none) else none) else some (x,0)
def tree_Merge.f (k : Nat) (l0 : List (S29)) (a1 : Int) (a2_0 : Bool) (a2_1 : Int) (a2_2 : Int) (a2_3 : Int) (a2_4 : Int) (l2_5 : List Int) (l3 : List Int) (l4 : List Int) : Option ((List (S29)) × Int):=(tree_full.f l0 a1).bind fun t=>if t = true then ((tree_Filtered.f k l0 a1).bind fun p=>if l3.length = p.1.length∧l4.length = p.1.length then ((tree_copied.f k l0).bind fun t2=>if 0≤(wrap64 (2 * a1)) then (if (wrap64 (2 * a1)) < (t2.length : Int) then ((tree_clean.f k (t2.set ((wrap64 (2 * a1)) : Int).toNat (⟨true,a2_1,a2_2,a2_3,a2_4,([] : List Int)⟩ : S29)) a1).bind fun t3=>tree_Merge.l0 k p.1 l3 l4 t3 0) else none) else none) else some (([] : List (S29)),30)) else some (([] : List (S29)),40)
theorem tree_Merge.mono_l : ∀ k y0 y1 y2 y3 y4,LeO (tree_Merge.l0 k y0 y1 y2 y3 y4) (tree_Merge.l0 (k + 1) y0 y1 y2 y3 y4)
 | 0=>fun _ _ _ _ _ r h=>by simp [tree_Merge.l0] at h
 | k + 1=>by
  intro y0 y1 y2 y3 y4;unfold tree_Merge.l0;exact LeO.ite (LeO.ite (LeO.ite (LeO.ite (LeO.ite (LeO.ite (tree_Merge.mono_l k _ _ _ _ _) (LeO.none _)) (LeO.none _)) (LeO.none _)) (LeO.none _)) (LeO.none _)) (LeO.refl _)
theorem tree_Merge.mono : ∀ a0 a1 a2 a3 a4 a5 a6 a7 a8 a9 k,LeO (tree_Merge.f k a0 a1 a2 a3 a4 a5 a6 a7 a8 a9) (tree_Merge.f (k + 1) a0 a1 a2 a3 a4 a5 a6 a7 a8 a9):=by
 intro a0 a1 a2 a3 a4 a5 a6 a7 a8 a9 k;unfold tree_Merge.f;refine LeO.bind (LeO.refl _) (fun _=>LeO.ite (LeO.bind (tree_Filtered.mono _ _ _) (fun _=>LeO.ite (LeO.bind (tree_copied.mono _ _) (fun _=>LeO.ite (LeO.ite (LeO.bind (tree_clean.mono _ _ _) (fun _=>tree_Merge.mono_l _ _ _ _ _ _)) (LeO.none _)) (LeO.none _))) (LeO.refl _))) (LeO.refl _))
set_option maxHeartbeats 8000000 in
set_option maxRecDepth 100000 in
theorem tree_Merge.calls (k : Nat) (A0 : Option Addr) (c0 : Nat) (l0 : List (S29)) (a1 : Int) (a2_0 : Bool) (a2_1 : Int) (a2_2 : Int) (a2_3 : Int) (a2_4 : Int) (P2_5_ : Nat→Prop) (A2_5 : Option Addr) (c2_5 : Nat) (l2_5 : List Int) (A3 : Option Addr) (c3 : Nat) (l3 : List Int) (A4 : Option Addr) (c4 : Nat) (l4 : List Int) (r1 : List (S29)) (r2 : Int) (w : World) (hrG : TabG w) (hr0 : Kd.C k29 w A0 l0.length l0) (hc0 : l0.length≤c0) (hs2_5 : Kd.V (Kd.int .i64) 3 w w.heap.size (fun k_=>P2_5_ k_) (.slice A2_5 l2_5.length c2_5) l2_5) (hr3 : Kd.C (Kd.int .i64) w A3 l3.length l3) (hc3 : l3.length≤c3) (hr4 : Kd.C (Kd.int .i64) w A4 l4.length l4) (hc4 : l4.length≤c4) (h : tree_Merge.f k l0 a1 a2_0 a2_1 a2_2 a2_3 a2_4 l2_5 l3 l4 = some (r1,r2)) :
 Calls Tryd.prog 31 #[.slice A0 l0.length c0,.int .i64 a1,.agg #[.bool a2_0,.int .i64 a2_1,.int .i64 a2_2,.int .i64 a2_3,.int .i64 a2_4,.slice A2_5 l2_5.length c2_5],.slice A3 l3.length c3,.slice A4 l4.length c4] w fun e w'=>∃ v0_ : Value,e = .returned (.tuple #[v0_,.int .i64 r2])∧Kd.S k29 29 w' w.heap.size (fun k_=>(w.heap.size≤k_)) v0_ r1∧Below w.heap.size w w':=by
 have huV:=Tryd.underlying29;have HT:=Az.mk hrG;clear hrG;have HC:=Az.mk hr0;have HL:=Az.mk hc0;obtain ⟨_,hl5,hc5⟩:=V_now hs2_5;have HC5:=Az.mk hc5;have HL5:=Az.mk hl5;have HK3:=Az.mk hr3;have HK4:=Az.mk hr4;have hn3:=hr3.2.1;have hn4:=hr4.2.1;have HN34:=Az.mk (And.intro hn3 hn4);clear hr0 hc0 hs2_5 hc5 hl5 hr3 hr4 hn3 hn4;unfold tree_Merge.f at h;obtain ⟨t,A40,H⟩:=Option.bind_eq_some_iff.mp h;have A4_:=Az.mk A40;clear A40 h;have HB0:=Az.mk (bwA (Below.refl w.heap.size w) (.cells #[.bool a2_0,.int .i64 a2_1,.int .i64 a2_2,.int .i64 a2_3,.int .i64 a2_4,.slice A2_5 l2_5.length c2_5] 29));cases t
 · rw [if_neg (by decide)] at H
   simp only [Option.some.injEq,Prod.mk.injEq] at H;obtain ⟨rfl,rfl⟩:=H
   go_enter Tryd.func31,Tryd.ntmps31
   go_wp2_with (go_at_call 60;(with_reducible refine (tree_full.calls _ _ l0 a1 false _ (Kd.C_alloc HC.out _) HL.out A4_.out).mono ?_);rintro e w1 ⟨rfl,⟨nd,rfl⟩⟩)
   go_ret2
   exact ⟨_,rfl,Kd.S_nil _ _ _ _ _,bwN HB0.out _⟩
 · rw [if_pos rfl] at H
   obtain ⟨⟨p,q⟩,A50,H⟩:=Option.bind_eq_some_iff.mp H;have A5_:=Az.mk A50;clear A50;dsimp only at H
   go_enter Tryd.func31,Tryd.ntmps31
   go_upto_region 4 with (first
    | (go_at_call 60;(with_reducible refine (tree_full.calls _ _ l0 a1 true _ (Kd.C_alloc HC.out _) HL.out A4_.out).mono ?_);rintro e w1 ⟨rfl,⟨nd,rfl⟩⟩)
    | (go_at_call 23;(with_reducible refine (tree_Filtered.calls _ _ _ l0 a1 p q _ (TabG.below HT.out (bwN HB0.out nd)) (Kd.C_drewN (Kd.C_alloc HC.out _) nd) HL.out A5_.out).mono ?_);rintro e w2 ⟨vp,vq,rfl,hRp,hRq,hb⟩;have HB2:=Az.mk (bwT (bwN HB0.out nd) hb);have HX2:=Az.mk hb;have HRp:=Az.mk (Kd.R_lower hRp (by exact (bwZ (bwN HB0.out nd))));clear hRp hRq hb))
   obtain ⟨Ap,cp,rfl⟩:=Kd.R_slice HRp.out;have hpl : p.length≤9223372036854775807:=(Kd.R_reads' HRp.out).2.2.2.1
   by_cases hlen : l3.length = p.length∧l4.length = p.length
   case neg=>
    rw [if_neg hlen] at H;simp only [Option.some.injEq,Prod.mk.injEq] at H;obtain ⟨rfl,rfl⟩:=H
    by_cases he3 : l3.length = p.length
    · have hb3 : ((l3.length : Int) != (p.length : Int)) = false:=by simp;omega
      have hb4 : ((l4.length : Int) != (p.length : Int)) = true:=by
       have : l4.length≠p.length:=fun e=>hlen ⟨he3,e⟩
       simp;omega
      clear he3 hlen hpl
      go_wp2
      go_ret2
      exact ⟨_,rfl,Kd.S_nil _ _ _ _ _,HB2.out⟩
    · have hb3 : ((l3.length : Int) != (p.length : Int)) = true:=by simp;omega
      clear he3 hlen hpl
      go_wp2
      go_ret2
      exact ⟨_,rfl,Kd.S_nil _ _ _ _ _,HB2.out⟩
   rw [if_pos hlen] at H;obtain ⟨he3,he4⟩:=hlen;have HE:=Az.mk (And.intro he3 (And.intro he4 hpl))
   have hb3 : ((l3.length : Int) != (p.length : Int)) = false:=by simp;omega
   have hb4 : ((l4.length : Int) != (p.length : Int)) = false:=by simp;omega
   clear he3 he4 hpl;obtain ⟨t2,A60,H⟩:=Option.bind_eq_some_iff.mp H;have A6_:=Az.mk A60;clear A60
   have ex : ∃ ji,wrap64 (2 * a1) = ji:=⟨_,rfl⟩
   obtain ⟨ji,hji⟩:=ex;rw [hji] at H;have hjiw : (IntKind.i64.wrap (2 * a1)) = ji:=(i64_w _).trans hji
   by_cases h0 : 0≤ji
   case neg=>rw [if_neg h0] at H;cases H
   rw [if_pos h0] at H
   by_cases h1 : ji < (t2.length : Int)
   case neg=>rw [if_neg h1] at H;cases H
   rw [if_pos h1] at H;have HH:=Az.mk H;clear H
   go_upto_region 7 with (go_at_call 50;(with_reducible refine (tree_copied.calls _ _ _ l0 t2 _ (Kd.C_below (Kd.C_drewN (Kd.C_alloc HC.out _) nd) HX2.out) HL.out A6_.out).mono ?_);rintro e w3 ⟨v3,rfl,hS,hb⟩;have HBX:=Az.mk hb;have HS3:=Az.mk (Kd.S_mono (Kd.S_bound hS) (fun k_ hk=>hk.2.1) : Kd.S k29 29 w3 w2.heap.size (fun k_=>w2.heap.size≤k_) v3 t2);clear hS hb)
   obtain ⟨g,c3_,rfl,gb,gl,_,_⟩:=Kd.S_form HS3.out (by omega);have hblk : w3.heap[w.heap.size]? = some (.cells #[.bool a2_0,.int .i64 a2_1,.int .i64 a2_2,.int .i64 a2_3,.int .i64 a2_4,.slice A2_5 l2_5.length c2_5] 29 (0,0)):=(HBX.out.block _ (Nat.lt_of_lt_of_le (by simp) HX2.out.size)).trans ((HX2.out.block _ (by simp)).trans heap_alloc_at);have lx0:=cell_of hblk 0;have lx1:=cell_of hblk 1;have lx2:=cell_of hblk 2;have lx3:=cell_of hblk 3;have lx4:=cell_of hblk 4;have lx5:=cell_of hblk 5;simp only [List.getElem?_toArray,List.getElem?_cons_zero,List.getElem?_cons_succ] at lx0 lx1 lx2 lx3 lx4 lx5;have HC53:=Az.mk (Kd.C_below (Kd.C_below (Kd.C_drewN (Kd.C_alloc HC5.out (.cells #[.bool a2_0,.int .i64 a2_1,.int .i64 a2_2,.int .i64 a2_3,.int .i64 a2_4,.slice A2_5 l2_5.length c2_5] 29)) nd) HX2.out) HBX.out);have GB:=Az.mk gb;have p0:=eq_true h0;have p1:=eq_true h1;have H0:=Az.mk h0;have H1:=Az.mk h1;clear gb gl hji h0 h1 hblk
   go_upto_region 8 with (first
    | (go_at_call 51;(with_reducible refine (tree_leafOf.nil a2_0 a2_1 a2_2 a2_3 a2_4 A2_5 c2_5 l2_5 _ HC53.out HL5.out).mono ?_);rintro e w4 ⟨rfl,hb4⟩;have HS4:=Az.mk (Kd.S_below HS3.out hb4);have HB4:=Az.mk (bwT HBX.out hb4);clear hb4 lx0 lx1 lx2 lx3 lx4 lx5;obtain ⟨oki,ce,hcl,hM,hcc,hfr,hoki,hH⟩:=Kd.S_elem HS4.out z29 ji H0.out H1.out;obtain ⟨ve5,rfl,ge5⟩:=k29_openM hM;have HP:=Az.mk (Kd.S_seg0 hH H0.out H1.out (seg:=[.bool true,.int .i64 a2_1,.int .i64 a2_2,.int .i64 a2_3,.int .i64 a2_4,.slice none 0 0]) (j:=0) (show 6≤6 from by decide) (x':=(⟨true,a2_1,a2_2,a2_3,a2_4,([] : List Int)⟩ : S29)) (k29_mkM _ _ _ (⟨true,a2_1,a2_2,a2_3,a2_4,([] : List Int)⟩ : S29) (Kd.R_nil _ _ _ _ _)) (fun _ hk=>hk));have hx0 : w4.cell? ⟨g,ji.toNat * 6,none⟩ = some (.bool _):=hcc 0 _ rfl;have hx1 : w4.cell? ⟨g,ji.toNat * 6 + 1,none⟩ = some (.int .i64 _):=hcc 1 _ rfl;have hx2 : w4.cell? ⟨g,ji.toNat * 6 + 2,none⟩ = some (.int .i64 _):=hcc 2 _ rfl;have hx3 : w4.cell? ⟨g,ji.toNat * 6 + 3,none⟩ = some (.int .i64 _):=hcc 3 _ rfl;have hx4 : w4.cell? ⟨g,ji.toNat * 6 + 4,none⟩ = some (.int .i64 _):=hcc 4 _ rfl;have hx5 : w4.cell? ⟨g,ji.toNat * 6 + 5,none⟩ = some ve5:=hcc 5 _ rfl;have hf0 : w4.frozen? ⟨g,ji.toNat * 6,none⟩ = false:=hfr 0;have hf1 : w4.frozen? ⟨g,ji.toNat * 6 + 1,none⟩ = false:=hfr 1;have hf2 : w4.frozen? ⟨g,ji.toNat * 6 + 2,none⟩ = false:=hfr 2;have hf3 : w4.frozen? ⟨g,ji.toNat * 6 + 3,none⟩ = false:=hfr 3;have hf4 : w4.frozen? ⟨g,ji.toNat * 6 + 4,none⟩ = false:=hfr 4;have hf5 : w4.frozen? ⟨g,ji.toNat * 6 + 5,none⟩ = false:=hfr 5;clear hcl hM hcc hfr hoki hH ge5)
    | ((with_reducible refine gate_store (t:=29) (p:=46) rfl ?_);refine store_event (t:=29) (p:=46) (v:=?vo) (w1:=((((((w4.setCell ⟨g,ji.toNat * 6,none⟩ (.bool true)).setCell ⟨g,ji.toNat * 6 + 1,none⟩ (.int .i64 a2_1)).setCell ⟨g,ji.toNat * 6 + 2,none⟩ (.int .i64 a2_2)).setCell ⟨g,ji.toNat * 6 + 3,none⟩ (.int .i64 a2_3)).setCell ⟨g,ji.toNat * 6 + 4,none⟩ (.int .i64 a2_4)).setCell ⟨g,ji.toNat * 6 + 5,none⟩ (.slice none 0 0))) ?hg ?ho ?hn ?hr ?_;(case ho=>rfl);(case hg=>rfl);(case hn=>rfl);(case hr=>first | (go_simp;done) | (go_simp;rfl));intro w5 hw;have HS5:=Az.mk (show Kd.S k29 29 w5 w2.heap.size (fun k_=>w2.heap.size≤k_) (.slice (some ⟨g,0,none⟩) t2.length c3_) (t2.set ji.toNat (⟨true,a2_1,a2_2,a2_3,a2_4,([] : List Int)⟩ : S29)) from by rw [hw];exact HP.out.1);have HG5:=Az.mk (show w4.grownBy w5 (some g) from by rw [hw];exact HP.out.2);clear hw))
   obtain ⟨y,hy⟩ : ∃ y,y = (t2.set ji.toNat (⟨true,a2_1,a2_2,a2_3,a2_4,([] : List Int)⟩ : S29)):=⟨_,rfl⟩
   have hyl : y.length = t2.length:=by rw [hy,List.length_set]
   have HB5:=Az.mk (show Below w2.heap.size w2 w5 from pw_below_grown HB4.out (some g) (bwZ HB4.out) HG5.out (fun k_ e_=>by cases e_;exact GB.out));obtain ⟨t3,A70,H⟩:=Option.bind_eq_some_iff.mp HH.out;have HT5:=Az.mk (TabG.below HT.out (bwT HB2.out HB5.out));have HS6:=HS5.out;have A8:=A70;rw [← hy] at HS6 A8;have hcl:=tree_clean.calls k (some ⟨g,0,none⟩) c3_ y a1 t3 (fun k_=>w2.heap.size≤k_) w2 w5 HT5.out (by rw [hyl];exact HS6) HB5.out A8;rw [hyl] at hcl;have HCL:=Az.mk hcl;have HH2:=Az.mk H;clear hcl HS6 A8 hyl hy y HS5 HP HG5 A70 H HH p0 p1 hx0 hx1 hx2 hx3 hx4 hx5 hf0 hf1 hf2 hf3 hf4 hf5
   go_upto_region 9 with (go_at_call 61;(with_reducible refine HCL.out.mono ?_);rintro e w6 ⟨rfl,hS6,hB6,_⟩;have HS6:=Az.mk hS6;have HB6:=Az.mk hB6;clear hS6 hB6)
   have HCp:=Az.mk (Kd.R_reads' HRp.out).2.2;clear HRp HCL HT5 HB5 HB4 HS4 HS3 HBX HC53 HC5 HL5 H0 H1 GB HC HL HX2
   go_wp2
   go_loopg [52] k (fun kq v w'=>∃ (j : Int) (x : List (S29)),v = .int .i64 j∧Az (kq≤k)∧Az (tree_Merge.l0 kq p l3 l4 x j = some (r1,r2))∧Az (Kd.S k29 29 w' w2.heap.size (fun k_=>w2.heap.size≤k_) (.slice (some ⟨g,0,none⟩) t2.length c3_) x)∧Az (Below w2.heap.size w2 w'))
   case atStart=>exact ⟨0,t3,rfl,⟨Nat.le_refl _⟩,HH2,HS6,HB6⟩
   case round=>
    clear HH2 HS6 HB6;obtain ⟨j,x,rfl,HK1,HR,HS,HB⟩:=hrel
    cases gk with
    | zero=>exact absurd HR.out (by simp [tree_Merge.l0])
    | succ k1=>
     have H:=HR.out;simp only [tree_Merge.l0] at H;have hxl:=(Kd.S_reads' HS.out).1;have HXL:=Az.mk hxl;clear HR hxl
     by_cases c1 : j < (p.length : Int)
     case neg=>
      rw [if_neg c1] at H;have c1b : decide (j < (p.length : Int)) = false:=decide_eq_false c1;simp only [Option.some.injEq,Prod.mk.injEq] at H;obtain ⟨rfl,rfl⟩:=H;clear c1
      go_wp2
      go_ret2
      exact ⟨_,rfl,Kd.S_mono (Kd.S_lower HS.out (bwZ HB2.out)) (fun k_ hk=>Nat.le_trans (bwZ HB2.out) hk),bwT HB2.out HB.out⟩
     rw [if_pos c1] at H
     by_cases c2 : 0≤j
     case neg=>rw [if_neg c2] at H;cases H
     rw [if_pos c2] at H
     by_cases c3 : j < (l3.length : Int)
     case neg=>rw [if_neg c3] at H;cases H
     rw [if_pos c3] at H
     by_cases c4 : j < (l4.length : Int)
     case neg=>rw [if_neg c4] at H;cases H
     rw [if_pos c4] at H
     by_cases c5 : 0≤rd p j
     case neg=>rw [if_neg c5] at H;cases H
     rw [if_pos c5] at H
     by_cases c6 : rd p j < (x.length : Int)
     case neg=>rw [if_neg c6] at H;cases H
     rw [if_pos c6] at H;have H':=Az.mk H;have c1b : decide (j < (p.length : Int)) = true:=decide_eq_true c1;obtain ⟨adp,ep,hcp⟩:=Kd.at_int (Kd.C_below HCp.out HB.out) j c2 c1;cases ep;obtain ⟨ad3,e3,hc3_⟩:=Kd.at_int (Kd.C_below HK3.out (bwT HB2.out HB.out)) j c2 c3;cases e3;obtain ⟨ad4,e4,hc4_⟩:=Kd.at_int (Kd.C_below HK4.out (bwT HB2.out HB.out)) j c2 c4;cases e4;obtain ⟨oki,ce,hcl,hM,hcc,hfr,hoki,hH⟩:=Kd.S_elem HS.out z29 (rd p j) c5 (by have:=HXL.out;omega);obtain ⟨ve5,rfl,ge5⟩:=k29_openM hM;have HP:=Az.mk (Kd.S_seg0 hH c5 (by have:=HXL.out;omega) (seg:=[.bool true,.int .i64 (rd l3 j),.int .i64 0,.int .i64 0,.int .i64 (rd l4 j),.slice none 0 0]) (j:=0) (show 6≤6 from by decide) (x':=(⟨true,rd l3 j,0,0,rd l4 j,([] : List Int)⟩ : S29)) (k29_mkM _ _ _ (⟨true,rd l3 j,0,0,rd l4 j,([] : List Int)⟩ : S29) (Kd.R_nil _ _ _ _ _)) (fun _ hk=>hk));have gbb : w2.heap.size≤g:=Kd.S_base HS.out g rfl;have hx0 : wr.cell? ⟨g,(rd p j).toNat * 6,none⟩ = some (.bool _):=hcc 0 _ rfl;have hx1 : wr.cell? ⟨g,(rd p j).toNat * 6 + 1,none⟩ = some (.int .i64 _):=hcc 1 _ rfl;have hx2 : wr.cell? ⟨g,(rd p j).toNat * 6 + 2,none⟩ = some (.int .i64 _):=hcc 2 _ rfl;have hx3 : wr.cell? ⟨g,(rd p j).toNat * 6 + 3,none⟩ = some (.int .i64 _):=hcc 3 _ rfl;have hx4 : wr.cell? ⟨g,(rd p j).toNat * 6 + 4,none⟩ = some (.int .i64 _):=hcc 4 _ rfl;have hx5 : wr.cell? ⟨g,(rd p j).toNat * 6 + 5,none⟩ = some ve5:=hcc 5 _ rfl;have hf0 : wr.frozen? ⟨g,(rd p j).toNat * 6,none⟩ = false:=hfr 0;have hf1 : wr.frozen? ⟨g,(rd p j).toNat * 6 + 1,none⟩ = false:=hfr 1;have hf2 : wr.frozen? ⟨g,(rd p j).toNat * 6 + 2,none⟩ = false:=hfr 2;have hf3 : wr.frozen? ⟨g,(rd p j).toNat * 6 + 3,none⟩ = false:=hfr 3;have hf4 : wr.frozen? ⟨g,(rd p j).toNat * 6 + 4,none⟩ = false:=hfr 4;have hf5 : wr.frozen? ⟨g,(rd p j).toNat * 6 + 5,none⟩ = false:=hfr 5;have p1:=eq_true c1;have p2:=eq_true c2;have p3:=eq_true c3;have p4:=eq_true c4;have p5:=eq_true c5;have p6:=eq_true (show rd p j < (t2.length : Int) by have:=HXL.out;omega);clear hcl hM hcc hfr hoki hH ge5 H c1 c2 c3 c4 c5 c6
     generalize hq : rd p j = q at *
     have HGB:=Az.mk gbb;clear HK3 HK4 HXL HE HN34 gbb
     go_wp2
     refine Mix.wp_region_mix (fun _=>True) (fun i=>[0,0,0,0,12,28,0,0,192,448,1020,2047,4095].getD i 0) (fun i=>[2,2,2,2,2,2,2,2,2,2,2,2,3].getD i 0) (by kernel_rfl) ⟨by kernel_rfl,by kernel_rfl,by kernel_rfl,by kernel_rfl,by kernel_rfl⟩ trivial ?_;simp only [Mix.whole,List.getD_cons_zero,List.getD_cons_succ,Nat.reduceAdd]
     repeat (first | (refine Mix.pin_no rfl rfl (fun K hK=>?_);go_step;refine hK _ ?_;clear hK K) | (refine Mix.pin_not rfl rfl rfl rfl (fun K hK=>?_);simp only [List.setIfInBounds_toArray,List.set_cons_zero,List.set_cons_succ];refine hK _ ?_;clear hK K) | (refine Mix.pin_yes rfl rfl rfl rfl (fun K hK=>?_);go_step;refine hK _ ?_;clear hK K))
     refine Mix.last_no rfl (fun K hK=>?_)
     go_step
     obtain ⟨wn,hwn⟩ : ∃ wn,wn = ((((((wr.setCell ⟨g,q.toNat * 6,none⟩ (.bool true)).setCell ⟨g,q.toNat * 6 + 1,none⟩ (.int .i64 (rd l3 j))).setCell ⟨g,q.toNat * 6 + 2,none⟩ (.int .i64 0)).setCell ⟨g,q.toNat * 6 + 3,none⟩ (.int .i64 0)).setCell ⟨g,q.toNat * 6 + 4,none⟩ (.int .i64 (rd l4 j))).setCell ⟨g,q.toNat * 6 + 5,none⟩ (.slice none 0 0)):=⟨_,rfl⟩
     have HSn:=Az.mk (show Kd.S k29 29 wn w2.heap.size (fun k_=>w2.heap.size≤k_) (.slice (some ⟨g,0,none⟩) t2.length c3_) (x.set q.toNat (⟨true,rd l3 j,0,0,rd l4 j,([] : List Int)⟩ : S29)) from by rw [hwn];exact HP.out.1);have HGn:=Az.mk (show wr.grownBy wn (some g) from by rw [hwn];exact HP.out.2);rw [← hwn];have HBn:=Az.mk (pw_below_grown HB.out (some g) (bwZ HB.out) HGn.out (fun k_ e_=>by cases e_;exact HGB.out));clear hwn HP hx0 hx1 hx2 hx3 hx4 hx5 hf0 hf1 hf2 hf3 hf4 hf5 hcp hc3_ hc4_ p1 p2 p3 p4 p5 p6 c1b HGn HS HB;refine hK _ _ ?_;clear hK K;refine Mix.walk_nil ?_
     go_wp2
     go_roundg k1
     case measure=>have:=HK1.out;omega
     case rel=>exact ⟨wrap64 (j + 1),_,rfl,⟨by have:=HK1.out;omega⟩,H',⟨Kd.S_drew HSn.out⟩,⟨below_drew HBn.out⟩⟩
end Go.Proofs.YtbblomnhobodkaaDoor.PTw
namespace Go.Proofs.YtbblomnhobodkaaDoor.PTw
open Go.RowKit Go.Proofs.YtbblomnhobodkaaDoorW.PW Go.Proofs.YtbblomnhobodkaaDoorW.PL Go.Proofs.YtbblomnhobodkaaDoorW.PM
attribute [local go_sem] max2_int min2_int max_two min_two max_three min_three max_four min_four   -- for this text's walks alone
set_option linter.unusedVariables false
set_option linter.unusedSimpArgs false
def tree_Update.f (k : Nat) (l0 : List (S29)) (a1 : Int) (a2_0 : Bool) (a2_1 : Int) (a2_2 : Int) (a2_3 : Int) (a2_4 : Int) (l2_5 : List Int) : Option ((List (S29)) × Int):=(tree_full.f l0 a1).bind fun t=>if t = true then ((tree_copied.f k l0).bind fun t2=>if 0≤(wrap64 (2 * a1)) then (if (wrap64 (2 * a1)) < (t2.length : Int) then ((tree_clean.f k (t2.set ((wrap64 (2 * a1)) : Int).toNat (⟨true,a2_1,a2_2,a2_3,a2_4,([] : List Int)⟩ : S29)) a1).bind fun t3=>some (t3,0)) else none) else none) else some (([] : List (S29)),40)
theorem tree_Update.mono : ∀ a0 a1 a2 a3 a4 a5 a6 a7 k,LeO (tree_Update.f k a0 a1 a2 a3 a4 a5 a6 a7) (tree_Update.f (k + 1) a0 a1 a2 a3 a4 a5 a6 a7):=by
 intro a0 a1 a2 a3 a4 a5 a6 a7 k;unfold tree_Update.f;refine LeO.bind (LeO.refl _) (fun _=>LeO.ite (LeO.bind (tree_copied.mono _ _) (fun _=>LeO.ite (LeO.ite (LeO.bind (tree_clean.mono _ _ _) (fun _=>LeO.refl _)) (LeO.none _)) (LeO.none _))) (LeO.refl _))
set_option maxHeartbeats 8000000 in
set_option maxRecDepth 100000 in
theorem tree_Update.calls (k : Nat) (A0 : Option Addr) (c0 : Nat) (l0 : List (S29)) (a1 : Int) (a2_0 : Bool) (a2_1 : Int) (a2_2 : Int) (a2_3 : Int) (a2_4 : Int) (A2_5 : Option Addr) (c2_5 : Nat) (l2_5 : List Int) (r1 : List (S29)) (r2 : Int) (w : World) (hrG : TabG w) (hr0 : Kd.C k29 w A0 l0.length l0) (hc0 : l0.length≤c0) (hr2_5 : Kd.C (Kd.int .i64) w A2_5 l2_5.length l2_5) (hc2_5 : l2_5.length≤c2_5) (h : tree_Update.f k l0 a1 a2_0 a2_1 a2_2 a2_3 a2_4 l2_5 = some (r1,r2)) :
 Calls Tryd.prog 33 #[.slice A0 l0.length c0,.int .i64 a1,.agg #[.bool a2_0,.int .i64 a2_1,.int .i64 a2_2,.int .i64 a2_3,.int .i64 a2_4,.slice A2_5 l2_5.length c2_5]] w fun e w'=>∃ v0_ : Value,e = .returned (.tuple #[v0_,.int .i64 r2])∧Kd.S k29 29 w' w.heap.size (fun _=>True) v0_ r1∧Below w.heap.size w w':=by
 have huV:=Tryd.underlying29;have HT:=Az.mk hrG;have HC:=Az.mk hr0;have HL:=Az.mk hc0;have HC5:=Az.mk hr2_5;have HL5:=Az.mk hc2_5;clear hrG hr0 hc0 hr2_5 hc2_5;unfold tree_Update.f at h;obtain ⟨t,A40,H⟩:=Option.bind_eq_some_iff.mp h;have A4:=Az.mk A40;clear A40 h;have HB0:=Az.mk (bwA (Below.refl w.heap.size w) (.cells #[.bool a2_0,.int .i64 a2_1,.int .i64 a2_2,.int .i64 a2_3,.int .i64 a2_4,.slice A2_5 l2_5.length c2_5] 29));cases t
 · rw [if_neg (by decide)] at H
   simp only [Option.some.injEq,Prod.mk.injEq] at H;obtain ⟨rfl,rfl⟩:=H
   go_enter Tryd.func33,Tryd.ntmps33
   go_wp2_with (go_at_call 60;(with_reducible refine (tree_full.calls _ _ l0 a1 false _ (Kd.C_alloc HC.out _) HL.out A4.out).mono ?_);rintro e w1 ⟨rfl,⟨nd,rfl⟩⟩)
   go_ret2
   exact ⟨_,rfl,Kd.S_nil _ _ _ _ _,bwN HB0.out _⟩
 · rw [if_pos rfl] at H
   obtain ⟨t2,A60,H⟩:=Option.bind_eq_some_iff.mp H;have A6:=Az.mk A60;clear A60
   go_enter Tryd.func33,Tryd.ntmps33
   have ex : ∃ ji,wrap64 (2 * a1) = ji:=⟨_,rfl⟩
   obtain ⟨ji,hji⟩:=ex;rw [hji] at H;have hjiw : (IntKind.i64.wrap (2 * a1)) = ji:=(i64_w _).trans hji
   by_cases h0 : 0≤ji
   case neg=>rw [if_neg h0] at H;cases H
   rw [if_pos h0] at H
   by_cases h1 : ji < (t2.length : Int)
   case neg=>rw [if_neg h1] at H;cases H
   rw [if_pos h1] at H;obtain ⟨t3,A70,H⟩:=Option.bind_eq_some_iff.mp H;have A7:=Az.mk A70;simp only [Option.some.injEq,Prod.mk.injEq] at H;obtain ⟨rfl,rfl⟩:=H;clear A70
   go_upto_region 4 with (first
    | (go_at_call 60;(with_reducible refine (tree_full.calls _ _ l0 a1 true _ (Kd.C_alloc HC.out _) HL.out A4.out).mono ?_);rintro e w1 ⟨rfl,⟨nd,rfl⟩⟩)
    | (go_at_call 50;(with_reducible refine (tree_copied.calls _ _ _ l0 t2 _ (Kd.C_drewN (Kd.C_alloc HC.out _) nd) HL.out A6.out).mono ?_);rintro e w3 ⟨v3,rfl,hS,hb⟩;have HB3:=Az.mk (bwT (bwN HB0.out nd) hb);have HS3:=Az.mk (Kd.S_lower hS (by exact (bwZ (bwN HB0.out nd))));have HBX:=Az.mk hb;clear hS hb))
   obtain ⟨g,c3,rfl,gb,gl,_,_⟩:=Kd.S_form HS3.out (by omega);have hblk : w3.heap[w.heap.size]? = some (.cells #[.bool a2_0,.int .i64 a2_1,.int .i64 a2_2,.int .i64 a2_3,.int .i64 a2_4,.slice A2_5 l2_5.length c2_5] 29 (0,0)):=(HBX.out.block _ (by simp)).trans heap_alloc_at;have lx0:=cell_of hblk 0;have lx1:=cell_of hblk 1;have lx2:=cell_of hblk 2;have lx3:=cell_of hblk 3;have lx4:=cell_of hblk 4;have lx5:=cell_of hblk 5;simp only [List.getElem?_toArray,List.getElem?_cons_zero,List.getElem?_cons_succ] at lx0 lx1 lx2 lx3 lx4 lx5;have HC53:=Az.mk (Kd.C_below (Kd.C_drewN (Kd.C_alloc HC5.out (.cells #[.bool a2_0,.int .i64 a2_1,.int .i64 a2_2,.int .i64 a2_3,.int .i64 a2_4,.slice A2_5 l2_5.length c2_5] 29)) nd) HBX.out);have GB:=Az.mk gb;have p0:=eq_true h0;have p1:=eq_true h1;have H0:=Az.mk h0;have H1:=Az.mk h1;clear gb gl hji h0 h1 hblk
   go_upto_region 5 with (first
    | (go_at_call 51;(with_reducible refine (tree_leafOf.nil a2_0 a2_1 a2_2 a2_3 a2_4 A2_5 c2_5 l2_5 _ HC53.out HL5.out).mono ?_);rintro e w4 ⟨rfl,hb4⟩;have HS4:=Az.mk (Kd.S_below HS3.out hb4);have HB4:=Az.mk (bwT HB3.out hb4);clear hb4 lx0 lx1 lx2 lx3 lx4 lx5;obtain ⟨oki,ce,hcl,hM,hcc,hfr,hoki,hH⟩:=Kd.S_elem HS4.out z29 ji H0.out H1.out;obtain ⟨ve5,rfl,ge5⟩:=k29_openM hM;have HP:=Az.mk (Kd.S_seg0 hH H0.out H1.out (seg:=[.bool true,.int .i64 a2_1,.int .i64 a2_2,.int .i64 a2_3,.int .i64 a2_4,.slice none 0 0]) (j:=0) (show 6≤6 from by decide) (x':=(⟨true,a2_1,a2_2,a2_3,a2_4,([] : List Int)⟩ : S29)) (k29_mkM _ _ _ (⟨true,a2_1,a2_2,a2_3,a2_4,([] : List Int)⟩ : S29) (Kd.R_nil _ _ _ _ _)) (fun _ hk=>hk));have hx0 : w4.cell? ⟨g,ji.toNat * 6,none⟩ = some (.bool _):=hcc 0 _ rfl;have hx1 : w4.cell? ⟨g,ji.toNat * 6 + 1,none⟩ = some (.int .i64 _):=hcc 1 _ rfl;have hx2 : w4.cell? ⟨g,ji.toNat * 6 + 2,none⟩ = some (.int .i64 _):=hcc 2 _ rfl;have hx3 : w4.cell? ⟨g,ji.toNat * 6 + 3,none⟩ = some (.int .i64 _):=hcc 3 _ rfl;have hx4 : w4.cell? ⟨g,ji.toNat * 6 + 4,none⟩ = some (.int .i64 _):=hcc 4 _ rfl;have hx5 : w4.cell? ⟨g,ji.toNat * 6 + 5,none⟩ = some ve5:=hcc 5 _ rfl;have hf0 : w4.frozen? ⟨g,ji.toNat * 6,none⟩ = false:=hfr 0;have hf1 : w4.frozen? ⟨g,ji.toNat * 6 + 1,none⟩ = false:=hfr 1;have hf2 : w4.frozen? ⟨g,ji.toNat * 6 + 2,none⟩ = false:=hfr 2;have hf3 : w4.frozen? ⟨g,ji.toNat * 6 + 3,none⟩ = false:=hfr 3;have hf4 : w4.frozen? ⟨g,ji.toNat * 6 + 4,none⟩ = false:=hfr 4;have hf5 : w4.frozen? ⟨g,ji.toNat * 6 + 5,none⟩ = false:=hfr 5;clear hcl hM hcc hfr hoki hH ge5)
    | ((with_reducible refine gate_store (t:=29) (p:=20) rfl ?_);refine store_event (t:=29) (p:=20) (v:=?vo) (w1:=((((((w4.setCell ⟨g,ji.toNat * 6,none⟩ (.bool true)).setCell ⟨g,ji.toNat * 6 + 1,none⟩ (.int .i64 a2_1)).setCell ⟨g,ji.toNat * 6 + 2,none⟩ (.int .i64 a2_2)).setCell ⟨g,ji.toNat * 6 + 3,none⟩ (.int .i64 a2_3)).setCell ⟨g,ji.toNat * 6 + 4,none⟩ (.int .i64 a2_4)).setCell ⟨g,ji.toNat * 6 + 5,none⟩ (.slice none 0 0))) ?hg ?ho ?hn ?hr ?_;(case ho=>rfl);(case hg=>rfl);(case hn=>rfl);(case hr=>first | (go_simp;done) | (go_simp;rfl));intro w5 hw;have HS5:=Az.mk (show Kd.S k29 29 w5 w.heap.size (fun _=>True) (.slice (some ⟨g,0,none⟩) t2.length c3) (t2.set ji.toNat (⟨true,a2_1,a2_2,a2_3,a2_4,([] : List Int)⟩ : S29)) from by rw [hw];exact HP.out.1);have HG5:=Az.mk (show w4.grownBy w5 (some g) from by rw [hw];exact HP.out.2);clear hw))
   obtain ⟨y,hy⟩ : ∃ y,y = (t2.set ji.toNat (⟨true,a2_1,a2_2,a2_3,a2_4,([] : List Int)⟩ : S29)):=⟨_,rfl⟩
   have hyl : y.length = t2.length:=by rw [hy,List.length_set]
   have HB5:=Az.mk (show Below w.heap.size w w5 from pw_below_grown HB4.out (some g) (bwZ HB4.out) HG5.out (fun k_ e_=>by cases e_;exact GB.out));have HT5:=Az.mk (TabG.below HT.out HB5.out);have HS6:=HS5.out;have A8:=A7.out;rw [← hy] at HS6 A8;have hcl:=tree_clean.calls k (some ⟨g,0,none⟩) c3 y a1 t3 (fun _=>True) w w5 HT5.out (by rw [hyl];exact HS6) HB5.out A8;rw [hyl] at hcl;have HCL:=Az.mk hcl;clear hcl HS6 A8 hyl hy y HS5 HP HG5 A7 p0 p1 hx0 hx1 hx2 hx3 hx4 hx5 hf0 hf1 hf2 hf3 hf4 hf5
   go_wp2_with (go_at_call 61;(with_reducible refine HCL.out.mono ?_);rintro e w6 ⟨rfl,hS6,hB6,_⟩;have HS6:=Az.mk hS6;have HB6:=Az.mk hB6;clear hS6 hB6)
   go_ret2
   exact ⟨_,rfl,HS6.out,HB6.out⟩
end Go.Proofs.YtbblomnhobodkaaDoor.PTw
