/- What this claim reaches of longer texts of this session. -/
import Derived.Test.YtbblomnhobodkaaDoorPTwx0
import Derived.Test.YtbblomnhobodkaaDoorPTwx1
import Derived.Test.YtbblomnhobodkaaDoorPTwx5
import Derived.Test.YtbblomnhobodkaaDoorPTwx8
import Derived.Test.YtbblomnhobodkaaDoorPTwx14
import Derived.Test.YtbblomnhobodkaaDoorPTwx28
import Derived.Deep.Slices
import Derived.Deep.Fields
import Derived.ChangeSame
import Derived.ChangeShapes
import Derived.WideShapes
import Derived.DataShut
import Derived.OpenShut
namespace Go.Proofs.YtbblomnhobodkaaDoor.PTw
open Go.RowKit Go.Proofs.YtbblomnhobodkaaDoorW.PW Go.Proofs.YtbblomnhobodkaaDoorW.PL Go.Proofs.YtbblomnhobodkaaDoorW.PM
attribute [local go_sem] max2_int min2_int max_two min_two max_three min_three max_four min_four   -- for this text's walks alone
set_option linter.unusedVariables false
set_option linter.unusedSimpArgs false
set_option maxHeartbeats 8000000 in
set_option maxRecDepth 100000 in
theorem w4TreeLate.calls (k : Nat) (a0_0 : Bool) (a0_1 : Int) (a0_2 : Int) (a0_3 : Int) (a0_4 : Int) (A0_5 : Option Addr) (c0_5 : Nat) (l0_5 : List Int) (A1 : Option Addr) (c1 : Nat) (l1 : List (S32)) (a2 : Int) (r : Bool) (w : World) (hrG : TabG w) (hr0_5 : Kd.C (Kd.int .i64) w A0_5 l0_5.length l0_5) (hc0_5 : l0_5.length≤c0_5) (hr1 : Kd.C k32 w A1 l1.length l1) (hc1 : l1.length≤c1) (h : w4TreeLate.f k a0_0 a0_1 a0_2 a0_3 a0_4 l0_5 l1 a2 = some r) (hr : r = true) :
 Calls Tryd.prog 7 #[.agg #[.bool a0_0,.int .i64 a0_1,.int .i64 a0_2,.int .i64 a0_3,.int .i64 a0_4,.slice A0_5 l0_5.length c0_5],.slice A1 l1.length c1,.int .i64 a2] w fun e w'=>e = .returned (.bool r)∧Below w.heap.size w w':=by
 have HRG:=Az.mk hrG
 clear hrG
 have hu29:=Tryd.underlying29
 have HR0_5:=Az.mk hr0_5
 have HC0_5:=Az.mk hc0_5
 clear hr0_5 hc0_5
 have HR1:=Az.mk hr1
 have HC1:=Az.mk hc1
 clear hr1 hc1
 have HB:=Az.mk (Below.refl w.heap.size w)
 have H : ((w4anchor.f k).bind fun t663=>(if t663 = true then ((w4grown.f k a0_0 a0_1 a0_2 a0_3 a0_4 l0_5 l1).bind fun t664=>((tree_Add.f k t664 a0_0 a0_1 a0_2 a0_3 a0_4 l0_5).bind fun bt667=>(if bt667.2.2 = 0 then (w4TreeLate.l0 k a2 bt667.1 bt667.2.1 1 a0_0 a0_1 a0_2 a0_3 a0_4 l0_5) else ((r4Members.f k t664).bind fun t672=>(some ((t672.length : Int) == 32)))))) else (some false))) = some r:=h
 clear h
 replace H:=Option.bind_eq_some_iff.mp H
 obtain ⟨t663,A40,H⟩:=H
 replace H : (if t663 = true then ((w4grown.f k a0_0 a0_1 a0_2 a0_3 a0_4 l0_5 l1).bind fun t664=>((tree_Add.f k t664 a0_0 a0_1 a0_2 a0_3 a0_4 l0_5).bind fun bt667=>(if bt667.2.2 = 0 then (w4TreeLate.l0 k a2 bt667.1 bt667.2.1 1 a0_0 a0_1 a0_2 a0_3 a0_4 l0_5) else ((r4Members.f k t664).bind fun t672=>(some ((t672.length : Int) == 32)))))) else (some false)) = some r:=H
 have A4:=Az.mk A40
 clear A40
 by_cases c5 : t663 = true
 ·
  subst c5
  have H1 : ((w4grown.f k a0_0 a0_1 a0_2 a0_3 a0_4 l0_5 l1).bind fun t664=>((tree_Add.f k t664 a0_0 a0_1 a0_2 a0_3 a0_4 l0_5).bind fun bt667=>(if bt667.2.2 = 0 then (w4TreeLate.l0 k a2 bt667.1 bt667.2.1 1 a0_0 a0_1 a0_2 a0_3 a0_4 l0_5) else ((r4Members.f k t664).bind fun t672=>(some ((t672.length : Int) == 32)))))) = some r:=by rw [if_pos rfl] at H;exact H
  clear H
  have H:=H1
  clear H1
  replace H:=Option.bind_eq_some_iff.mp H
  obtain ⟨t664,A60,H⟩:=H
  replace H : ((tree_Add.f k t664 a0_0 a0_1 a0_2 a0_3 a0_4 l0_5).bind fun bt667=>(if bt667.2.2 = 0 then (w4TreeLate.l0 k a2 bt667.1 bt667.2.1 1 a0_0 a0_1 a0_2 a0_3 a0_4 l0_5) else ((r4Members.f k t664).bind fun t672=>(some ((t672.length : Int) == 32))))) = some r:=H
  have A6:=Az.mk A60
  clear A60
  replace H:=Option.bind_eq_some_iff.mp H
  obtain ⟨⟨t667,t670,t671⟩,A70,H⟩:=H
  replace H : (if t671 = 0 then (w4TreeLate.l0 k a2 t667 t670 1 a0_0 a0_1 a0_2 a0_3 a0_4 l0_5) else ((r4Members.f k t664).bind fun t672=>(some ((t672.length : Int) == 32)))) = some r:=H
  have A7:=Az.mk A70
  clear A70
  by_cases c8 : t671 = 0
  ·
   rw [if_pos c8] at H
   have c8b0 : (t671 == 0) = true:=beq_iff_eq.mpr c8
   have c8b1 : (t671 != 0) = false:=bne_eq_false_iff_eq.mpr c8
   clear c8
   have H':=Az.mk H
   clear H
   go_enter Tryd.func7,Tryd.ntmps7
   go_wp2_with (first | ((with_reducible refine gate_dst (N:=3) rfl ?_);refine box_event ?hg (N:=3) ?hd (cs:=#[.bool a0_0,.int .i64 a0_1,.int .i64 a0_2,.int .i64 a0_3,.int .i64 a0_4,.slice A0_5 l0_5.length c0_5]) (t:=29) ?hr ?_;(case hd=>rfl);(case hg=>rfl);(case hr=>first | (go_simp;done) | (go_simp;rfl));intro gb662 hg w9 hbox hb;have n0_:=Az.mk (bwT (bmv HB.out) hb);have n1_:=Az.mk (hbox);have n2_:=Az.mk ((by rw [hg];exact (bwZ (bmv HB.out)) : w.heap.size≤gb662));have n3_:=Az.mk ((by rw [hg];exact (bwZ (bmv HB.out)) : w.heap.size≤gb662));clear HB;have HB:=n0_;have BK662:=n1_;have GW662:=n2_;have GE662:=n3_;clear n0_ n1_ n2_ n3_;clear hb hbox hg) | ((with_reducible refine gate_callee (f:=13) rfl ?_);refine goesL_ (some 24) rfl rfl Tryd.func13 (by kernel_rfl) rfl #[] rfl (by (try simp only [List.map_toArray,List.map_cons,List.map_nil]);first | done | rfl | (simp only [List.length_drop,List.length_take];rfl)) ?_;(with_reducible refine (w4anchor.calls (hrG:=?sideG) k  true _ A4.out).mono ?_);(case sideG=>(first | (with_reducible exact HRG.out) |exact TabG.below HRG.out (by repeat (first | (with_reducible first |exact HB.out |apply bwA |apply bwN |apply bw1 |refine bwS ?_ GE662.out) | (with_reducible exact Below.refl _ _)))));rintro e w10 ⟨rfl,hb⟩;refine ⟨_,rfl,?_⟩;have n0_:=Az.mk (kB (g:=gb662) (o:=.cells #[.bool a0_0,.int .i64 a0_1,.int .i64 a0_2,.int .i64 a0_3,.int .i64 a0_4,.slice A0_5 l0_5.length c0_5] 29 (0,0)) (blk_mv BK662.out) hb);have n1_:=Az.mk (bwT (by repeat (with_reducible first |exact bmv HB.out |refine bwS ?_ GE662.out)) hb);clear BK662;clear HB;have BK662:=n0_;have HB:=n1_;clear n0_ n1_;(try clear hb);(try clear hb2);(try clear hk);(try clear hi);obtain ⟨⟨hcz11_0,hcz11_1,hcz11_2,hcz11_3,hcz11_4,hcz11_5⟩,hfz11_0,hfz11_1,hfz11_2,hfz11_3,hfz11_4,hfz11_5⟩:=cells6 BK662.out) | ((with_reducible refine gate_callee (f:=18) rfl ?_);refine goesL_ (some 28) rfl rfl Tryd.func18 (by kernel_rfl) rfl #[.agg #[.bool a0_0,.int .i64 a0_1,.int .i64 a0_2,.int .i64 a0_3,.int .i64 a0_4,.slice A0_5 l0_5.length c0_5],.slice A1 l1.length c1] rfl (by (try simp only [List.map_toArray,List.map_cons,List.map_nil]);first | done | rfl | (simp only [List.length_drop,List.length_take];rfl)) ?_;(with_reducible refine (w4grown.calls k a0_0 a0_1 a0_2 a0_3 a0_4 _ _ l0_5 (fun k_=>k_ < w.heap.size) _ _ l1 t664 _ ?side1 ?side2 ?side3 A6.out).mono ?_);(case side1=>exact C_mv ((Kd.C_below HR0_5.out HB.out)));(case side2=>exact HC0_5.out);(case side3=>exact Kd.V_mk HC1.out (Kd.F_below (Kd.C_F k32_heap HR1.out) (by repeat (with_reducible first |exact bmv HB.out |refine bwS ?_ GE662.out))));rintro e w12 ⟨v665,rfl,ho0,hb⟩;refine ⟨_,rfl,?_⟩;have n0_:=Az.mk (Kd.N_lower (Kd.N_mono (ok':=fun k_=>k_≠gb662) ho0 (fun k_ hk_=>Or.elim hk_ (fun hs_=>fun e_=>Nat.not_le.2 hs_ (by rw [e_];exact GW662.out)) (fun hn_=>(Kd.freshB (g:=gb662) (o:=.cells #[.bool a0_0,.int .i64 a0_1,.int .i64 a0_2,.int .i64 a0_3,.int .i64 a0_4,.slice A0_5 l0_5.length c0_5] 29 (0,0)) (blk_mv BK662.out) k_ hn_)))) (bwZ (by repeat (with_reducible first |exact bmv HB.out |refine bwS ?_ GE662.out))));have n1_:=Az.mk (kB (g:=gb662) (o:=.cells #[.bool a0_0,.int .i64 a0_1,.int .i64 a0_2,.int .i64 a0_3,.int .i64 a0_4,.slice A0_5 l0_5.length c0_5] 29 (0,0)) (blk_mv BK662.out) hb);have n2_:=Az.mk (bwT (by repeat (with_reducible first |exact bmv HB.out |refine bwS ?_ GE662.out)) hb);clear BK662;clear HB;have HO666:=n0_;have BK662:=n1_;have HB:=n2_;clear n0_ n1_ n2_;(try clear hb);(try clear hb2);(try clear hk);(try clear hi);(try clear ho0);obtain ⟨⟨hcz13_0,hcz13_1,hcz13_2,hcz13_3,hcz13_4,hcz13_5⟩,hfz13_0,hfz13_1,hfz13_2,hfz13_3,hfz13_4,hfz13_5⟩:=cells6 BK662.out;obtain ⟨Ao14,co14,eo14⟩:=Kd.N_slice HO666.out;subst eo14) | ((with_reducible refine gate_callee (f:=19) rfl ?_);refine goesL_ (some 32) rfl rfl Tryd.func19 (by kernel_rfl) rfl #[.slice Ao14 t664.length co14,.agg #[.bool a0_0,.int .i64 a0_1,.int .i64 a0_2,.int .i64 a0_3,.int .i64 a0_4,.slice A0_5 l0_5.length c0_5]] rfl (by (try simp only [List.map_toArray,List.map_cons,List.map_nil]);first | done | rfl | (simp only [List.length_drop,List.length_take];rfl)) ?_;(with_reducible refine (tree_Add.calls (hrG:=?sideG) k _ _ t664 a0_0 a0_1 a0_2 a0_3 a0_4 (fun k_=>k_ < w.heap.size) _ _ l0_5 t667 t670 t671 _ ?side1 ?side2 ?side3 A7.out).mono ?_);(case sideG=>(first | (with_reducible exact HRG.out) |exact TabG.below HRG.out (by repeat (first | (with_reducible first |exact HB.out |apply bwA |apply bwN |apply bw1 |refine bwS ?_ GE662.out) | (with_reducible exact Below.refl _ _)))));(case side1=>exact C_mv ((Kd.N_reads' HO666.out).2.2));(case side2=>exact (Kd.N_reads' HO666.out).2.1);(case side3=>exact Kd.V_mk HC0_5.out (Kd.F_below (Kd.C_F (Kd.heap_int .i64) HR0_5.out) (by repeat (with_reducible first |exact bmv HB.out |refine bwS ?_ GE662.out))));rintro e w15 ⟨v668,rfl,ho0,hb⟩;refine ⟨_,rfl,?_⟩;have ho0:=Kd.S_N (Kd.S_mono (ok':=fun k_=>(fun k_=>k_ < w.heap.size) k_∨_) ho0 (fun k_ h_=>Or.inr h_));have n0_:=Az.mk (Kd.N_elder' (N_mv HO666.out) (Kd.N_base ho0) hb);have n1_:=Az.mk (Kd.N_lower (Kd.N_mono (ok':=fun k_=>some k_≠(.slice Ao14 t664.length co14 : Value).ownBlock∧k_≠gb662) ho0 (fun k_ hk_=>⟨Or.elim hk_ (fun hs_=>fun e_=>Nat.not_le.2 hs_ (Kd.N_base HO666.out k_ e_.symm)) (fun hn_=>(Kd.fresh' (Kd.N_lt (N_mv HO666.out)) k_ hn_)),Or.elim hk_ (fun hs_=>fun e_=>Nat.not_le.2 hs_ (by rw [e_];exact GW662.out)) (fun hn_=>(Kd.freshB (g:=gb662) (o:=.cells #[.bool a0_0,.int .i64 a0_1,.int .i64 a0_2,.int .i64 a0_3,.int .i64 a0_4,.slice A0_5 l0_5.length c0_5] 29 (0,0)) (blk_mv BK662.out) k_ hn_))⟩)) (bwZ (by repeat (with_reducible first |exact bmv HB.out |refine bwS ?_ GE662.out))));have n2_:=Az.mk (kB (g:=gb662) (o:=.cells #[.bool a0_0,.int .i64 a0_1,.int .i64 a0_2,.int .i64 a0_3,.int .i64 a0_4,.slice A0_5 l0_5.length c0_5] 29 (0,0)) (blk_mv BK662.out) hb);have n3_:=Az.mk (bwT (by repeat (with_reducible first |exact bmv HB.out |refine bwS ?_ GE662.out)) hb);clear HO666;clear BK662;clear HB;have HO666:=n0_;have HO669:=n1_;have BK662:=n2_;have HB:=n3_;clear n0_ n1_ n2_ n3_;(try clear hb);(try clear hb2);(try clear hk);(try clear hi);(try clear ho0)))
   go_loopg [11] k (fun kq v11 w'=>∃ (x11_1 : Int),v11 = .int .i64 x11_1∧Az (w4TreeLate.l0 kq a2 t667 t670 x11_1 a0_0 a0_1 a0_2 a0_3 a0_4 l0_5 = some r)∧Az (kq≤k)∧Az (Kd.N k29 29 w' w.heap.size (fun k_=>k_≠gb662) v668 t667)∧Az (w'.heap[gb662]? = some (.cells #[.bool a0_0,.int .i64 a0_1,.int .i64 a0_2,.int .i64 a0_3,.int .i64 a0_4,(.slice A0_5 l0_5.length c0_5)] 29 (0,0)))∧Az (Below w.heap.size w w'))
   case atStart=>exact ⟨(1),(by first | rfl | (simp;done) | (simp [*];done)),H',⟨Nat.le_refl _⟩,⟨N_mv (Kd.N_mono HO669.out (fun _ hk=>hk.2))⟩,⟨blk_mv BK662.out⟩,⟨by repeat (with_reducible first | exact bmv HB.out | refine bwS ?_ GE662.out)⟩⟩
   case round=>
    clear H'
    try clear c1
    try clear c5
    try clear c8
    try clear c8b0
    try clear c8b1
    try clear hcz11_0
    try clear hcz11_1
    try clear hcz11_2
    try clear hcz11_3
    try clear hcz11_4
    try clear hcz11_5
    try clear hcz13_0
    try clear hcz13_1
    try clear hcz13_2
    try clear hcz13_3
    try clear hcz13_4
    try clear hcz13_5
    try clear hfz11_0
    try clear hfz11_1
    try clear hfz11_2
    try clear hfz11_3
    try clear hfz11_4
    try clear hfz11_5
    try clear hfz13_0
    try clear hfz13_1
    try clear hfz13_2
    try clear hfz13_3
    try clear hfz13_4
    try clear hfz13_5
    obtain ⟨x11_1,rfl,HA,HK1,HO_8,BK662,HB⟩:=hrel
    cases gk with
    | zero=>exact absurd HA.out (by simp [w4TreeLate.l0])
    | succ k1=>
     have H:=HA.out
     clear HA
     simp only [w4TreeLate.l0] at H
     by_cases c16 : x11_1 < (t667.length : Int)
     ·
      rw [if_pos c16] at H
      have c16b0 : decide (x11_1 < (t667.length : Int)) = true:=decide_eq_true c16
      clear c16
      by_cases c17 : 0≤x11_1
      ·
       rw [if_pos c17] at H
       have c17b0 : decide (0≤x11_1) = true:=decide_eq_true c17
       clear c17
       have H':=Az.mk H
       clear H
       obtain ⟨Ao18,co18,eo18⟩:=Kd.N_slice HO_8.out
       subst eo18
       have p675 : 0≤(x11_1 : Int):=of_decide_eq_true (by first | (with_reducible assumption) | assumption)
       have q675 : x11_1 < (t667.length : Int):=of_decide_eq_true (by first | (with_reducible assumption) | assumption)
       obtain ⟨ad675,A675_5,c675_5,e675,hx675_0,hx675_1,hx675_2,hx675_3,hx675_4,hx675_5,hl675_5,hi675_5⟩:=at_T29 (Kd.N_reads' HO_8.out).2.2 x11_1 p675 q675
       cases e675
       obtain ⟨ce675,hce675,hMe675,hcc675⟩:=Kd.N_get HO_8.out z29 x11_1 p675 (by first | exact q675 | exact of_decide_eq_true (by first | (with_reducible assumption) | assumption) | (have e_:=(Kd.N_reads' HO_8.out).1;omega))
       obtain ⟨ua675_5,uc675_5,rfl,ul675_5,ge675_5⟩:=k29_openF hMe675
       have hv675_5:=hcc675 5 _ rfl
       rw [add_field _ _ 5 (by omega)] at hv675_5
       replace hv675_5:=Option.some.inj (hv675_5.symm.trans hx675_5)
       injection hv675_5 with hva_ hvn_ hvc_
       rw [hva_] at ge675_5
       rw [hvc_] at ul675_5
       have HL675_5:=Az.mk (show Kd.V (Kd.int .i64) 3 _ w.heap.size _ _ ((rd_T29 t667 x11_1).f5) from Kd.V_mk ul675_5 ge675_5)
       clear hva_ hvn_ hvc_ ge675_5 ul675_5
       clear hcc675 hce675
       have HR675_5:=Az.mk hi675_5
       have HC675_5:=Az.mk hl675_5
       clear hi675_5 hl675_5
       replace p675:=eq_true p675
       replace q675:=eq_true q675
       go_wp2
       go_loopg [12,54] k1 (fun kq v12 v54 w'=>∃ (x12_2 : Bool) (x54_2 : Int),v12 = .bool x12_2∧v54 = .int .i64 x54_2∧Az (w4TreeLate.l1 kq a2 t667 t670 x11_1 x12_2 ((rd_T29 t667 x11_1).f5) (((rd_T29 t667 x11_1).f5).length : Int) x54_2 a0_0 a0_1 a0_2 a0_3 a0_4 l0_5 = some r)∧Az (kq≤k1)∧Az (Kd.N k29 29 w' w.heap.size (fun k_=>k_≠gb662) (.slice (some ad675) t667.length co18) t667)∧Az (w'.heap[gb662]? = some (.cells #[.bool a0_0,.int .i64 a0_1,.int .i64 a0_2,.int .i64 a0_3,.int .i64 a0_4,(.slice A0_5 l0_5.length c0_5)] 29 (0,0)))∧Az (Kd.C (Kd.int .i64) w' A675_5 ((rd_T29 t667 x11_1).f5).length ((rd_T29 t667 x11_1).f5))∧Az (Below w.heap.size w w'))
       case atStart=>exact ⟨(false),(0),(by first | rfl | (simp;done) | (simp [*];done)),(by first | rfl | (simp;done) | (simp [*];done)),H',⟨Nat.le_refl _⟩,⟨N_mv HO_8.out⟩,⟨blk_mv BK662.out⟩,⟨by repeat (first | (with_reducible exact HR675_5.out) | (with_reducible refine Kd.C_alloc ?_ _) | (with_reducible refine Kd.C_drewN ?_ _) | (with_reducible refine Kd.C_drew ?_) | exact HR675_5.out)⟩,⟨by repeat (with_reducible first | exact bmv HB.out | refine bwS ?_ GE662.out)⟩⟩
       case round=>
        clear H'
        try clear c1
        try clear c5
        try clear c8
        try clear c8b0
        try clear c8b1
        try clear c16
        try clear c16b0
        try clear c17
        try clear c17b0
        try clear hcz11_0
        try clear hcz11_1
        try clear hcz11_2
        try clear hcz11_3
        try clear hcz11_4
        try clear hcz11_5
        try clear hcz13_0
        try clear hcz13_1
        try clear hcz13_2
        try clear hcz13_3
        try clear hcz13_4
        try clear hcz13_5
        try clear hfz11_0
        try clear hfz11_1
        try clear hfz11_2
        try clear hfz11_3
        try clear hfz11_4
        try clear hfz11_5
        try clear hfz13_0
        try clear hfz13_1
        try clear hfz13_2
        try clear hfz13_3
        try clear hfz13_4
        try clear hfz13_5
        try clear hx675_0
        try clear hx675_1
        try clear hx675_2
        try clear hx675_3
        try clear hx675_4
        try clear hx675_5
        try clear p675
        try clear q675
        obtain ⟨x12_2,x54_2,rfl,rfl,HA,HK2,HO_8,BK662,HR675_5,HB⟩:=hrel
        cases gk with
        | zero=>exact absurd HA.out (by simp [w4TreeLate.l1])
        | succ k2=>
         have H:=HA.out
         clear HA
         simp only [w4TreeLate.l1] at H
         by_cases c19 : x54_2 < (((rd_T29 t667 x11_1).f5).length : Int)
         ·
          rw [if_pos c19] at H
          have c19b0 : decide (x54_2 < (((rd_T29 t667 x11_1).f5).length : Int)) = true:=decide_eq_true c19
          clear c19
          by_cases c20 : 0≤x54_2
          ·
           rw [if_pos c20] at H
           have c20b0 : decide (0≤x54_2) = true:=decide_eq_true c20
           clear c20
           by_cases c21 : x54_2 < (((rd_T29 t667 x11_1).f5).length : Int)
           ·
            rw [if_pos c21] at H
            have c21b0 : decide (x54_2 < (((rd_T29 t667 x11_1).f5).length : Int)) = true:=decide_eq_true c21
            clear c21
            by_cases c22 : x12_2 = true
            ·
             subst c22
             have H1 : (w4TreeLate.l1 k2 a2 t667 t670 x11_1 true ((rd_T29 t667 x11_1).f5) (((rd_T29 t667 x11_1).f5).length : Int) (wrap64 (x54_2 + 1)) a0_0 a0_1 a0_2 a0_3 a0_4 l0_5) = some r:=by rw [if_pos rfl] at H;exact H
             clear H
             have H:=H1
             clear H1
             have H':=Az.mk H
             clear H
             have p676 : 0≤(x54_2 : Int):=of_decide_eq_true (by first | (with_reducible assumption) | assumption)
             have q676 : x54_2 < (((rd_T29 t667 x11_1).f5).length : Int):=of_decide_eq_true (by first | (with_reducible assumption) | assumption)
             obtain ⟨ad676,e676,hx676_0⟩:=Kd.at_int HR675_5.out x54_2 p676 q676
             cases e676
             try replace hx676_0:=(HB.out.cell (World.block_lt_of_cell? w _ hx676_0)).trans hx676_0
             replace p676:=eq_true p676
             replace q676:=eq_true q676
             go_wp2
             go_roundg k2
             case measure=>have:=HK1.out;have:=HK2.out;omega
             case rel=>exact ⟨(true),(wrap64 (x54_2 + 1)),(by first | rfl | (simp;done) | (simp [*];done)),(by first | rfl | (simp;done) | (simp [*];done)),H',⟨by have:=HK1.out;have:=HK2.out;omega⟩,⟨N_mv HO_8.out⟩,⟨blk_mv BK662.out⟩,⟨by repeat (first | (with_reducible exact HR675_5.out) | (with_reducible refine Kd.C_alloc ?_ _) | (with_reducible refine Kd.C_drewN ?_ _) | (with_reducible refine Kd.C_drew ?_) | exact HR675_5.out)⟩,⟨by repeat (with_reducible first | exact bmv HB.out | refine bwS ?_ GE662.out)⟩⟩
            ·
             replace c22:=Bool.eq_false_iff.mpr c22
             subst c22
             have H1 : (w4TreeLate.l1 k2 a2 t667 t670 x11_1 ((rd ((rd_T29 t667 x11_1).f5) x54_2) == t670) ((rd_T29 t667 x11_1).f5) (((rd_T29 t667 x11_1).f5).length : Int) (wrap64 (x54_2 + 1)) a0_0 a0_1 a0_2 a0_3 a0_4 l0_5) = some r:=by rw [if_neg (show ¬ (false = true) by decide)] at H;exact H
             clear H
             have H:=H1
             clear H1
             have H':=Az.mk H
             clear H
             have p676 : 0≤(x54_2 : Int):=of_decide_eq_true (by first | (with_reducible assumption) | assumption)
             have q676 : x54_2 < (((rd_T29 t667 x11_1).f5).length : Int):=of_decide_eq_true (by first | (with_reducible assumption) | assumption)
             obtain ⟨ad676,e676,hx676_0⟩:=Kd.at_int HR675_5.out x54_2 p676 q676
             cases e676
             try replace hx676_0:=(HB.out.cell (World.block_lt_of_cell? w _ hx676_0)).trans hx676_0
             replace p676:=eq_true p676
             replace q676:=eq_true q676
             go_wp2
             go_roundg k2
             case measure=>have:=HK1.out;have:=HK2.out;omega
             case rel=>exact ⟨(((rd ((rd_T29 t667 x11_1).f5) x54_2) == t670)),(wrap64 (x54_2 + 1)),(by first | rfl | (simp;done) | (simp [*];done)),(by first | rfl | (simp;done) | (simp [*];done)),H',⟨by have:=HK1.out;have:=HK2.out;omega⟩,⟨N_mv HO_8.out⟩,⟨blk_mv BK662.out⟩,⟨by repeat (first | (with_reducible exact HR675_5.out) | (with_reducible refine Kd.C_alloc ?_ _) | (with_reducible refine Kd.C_drewN ?_ _) | (with_reducible refine Kd.C_drew ?_) | exact HR675_5.out)⟩,⟨by repeat (with_reducible first | exact bmv HB.out | refine bwS ?_ GE662.out)⟩⟩
           ·
            rw [if_neg c21] at H
            exact absurd H (by simp)
          ·
           rw [if_neg c20] at H
           exact absurd H (by simp)
         ·
          rw [if_neg c19] at H
          have c19b0 : decide (x54_2 < (((rd_T29 t667 x11_1).f5).length : Int)) = false:=decide_eq_false c19
          clear c19
          replace H:=Option.bind_eq_some_iff.mp H
          obtain ⟨t677,A230,H⟩:=H
          replace H : ((w4upward.f k2 (wrap64 (2 * t670)) t677).bind fun t678=>(w4TreeLate.l2 k2 a2 t667 t670 x11_1 x12_2 false t678 (t678.length : Int) 0 a0_0 a0_1 a0_2 a0_3 a0_4 l0_5)) = some r:=H
          have A23:=Az.mk A230
          clear A230
          replace H:=Option.bind_eq_some_iff.mp H
          obtain ⟨t678,A240,H⟩:=H
          replace H : (w4TreeLate.l2 k2 a2 t667 t670 x11_1 x12_2 false t678 (t678.length : Int) 0 a0_0 a0_1 a0_2 a0_3 a0_4 l0_5) = some r:=H
          have A24:=Az.mk A240
          clear A240
          have H':=Az.mk H
          clear H
          go_wp2_with (first | ((with_reducible refine gate_callee (f:=21) rfl ?_);refine goesL_ (some 68) rfl rfl Tryd.func21 (by kernel_rfl) rfl #[.slice (some ad675) t667.length co18] rfl (by (try simp only [List.map_toArray,List.map_cons,List.map_nil]);first | done | rfl | (simp only [List.length_drop,List.length_take];rfl)) ?_;(with_reducible refine (r4Leaves.calls _ _ t667 t677 _ ?side1 ?side2 A23.out).mono ?_);(case side1=>exact C_mv ((Kd.N_reads' HO_8.out).2.2));(case side2=>exact (Kd.N_reads' HO_8.out).2.1);rintro e w' ⟨rfl,⟨nd,rfl⟩⟩;refine ⟨_,rfl,?_⟩) | ((with_reducible refine gate_callee (f:=30) rfl ?_);refine goesL_ (some 69) rfl rfl Tryd.func30 (by kernel_rfl) rfl #[.int .i64 (wrap64 (2 * t670)),.int .i64 t677] rfl (by (try simp only [List.map_toArray,List.map_cons,List.map_nil]);first | done | rfl | (simp only [List.length_drop,List.length_take];rfl)) ?_;(with_reducible refine (w4upward.calls k2 (wrap64 (2 * t670)) t677 t678 _ A24.out).mono ?_);rintro e w25 ⟨v679,rfl,ho0,hb⟩;refine ⟨_,rfl,?_⟩;have n0_:=Az.mk (Kd.N_elder' (N_mv HO_8.out) (Kd.R_base ho0) hb);have n1_:=Az.mk (Kd.R_lower ho0 (bwZ (by repeat (with_reducible first |exact bmv HB.out |refine bwS ?_ GE662.out))));have n2_:=Az.mk (kB (g:=gb662) (o:=.cells #[.bool a0_0,.int .i64 a0_1,.int .i64 a0_2,.int .i64 a0_3,.int .i64 a0_4,.slice A0_5 l0_5.length c0_5] 29 (0,0)) (blk_mv BK662.out) hb);have n3_:=Az.mk (Kd.C_below (by repeat (first | (with_reducible exact HR675_5.out) | (with_reducible refine Kd.C_alloc ?_ _) | (with_reducible refine Kd.C_drewN ?_ _) | (with_reducible refine Kd.C_drew ?_) |exact HR675_5.out)) hb);have n4_:=Az.mk (bwT (by repeat (with_reducible first |exact bmv HB.out |refine bwS ?_ GE662.out)) hb);clear HO_8;clear BK662;clear HR675_5;clear HB;have HO_8:=n0_;have HO680:=n1_;have BK662:=n2_;have HR675_5:=n3_;have HB:=n4_;clear n0_ n1_ n2_ n3_ n4_;(try clear hb);(try clear hb2);(try clear hk);(try clear hi);(try clear ho0);obtain ⟨Ao26,co26,eo26⟩:=Kd.R_slice HO680.out;subst eo26))
          go_loopg [15,71] k2 (fun kq v15 v71 w'=>∃ (x15_3 : Bool) (x71_3 : Int),v15 = .bool x15_3∧v71 = .int .i64 x71_3∧Az (w4TreeLate.l2 kq a2 t667 t670 x11_1 x12_2 x15_3 t678 (t678.length : Int) x71_3 a0_0 a0_1 a0_2 a0_3 a0_4 l0_5 = some r)∧Az (kq≤k2)∧Az (Kd.N k29 29 w' w.heap.size (fun k_=>some k_≠((.slice Ao26 t678.length co26) : Value).ownBlock∧k_≠gb662) (.slice (some ad675) t667.length co18) t667)∧Az (Kd.R (Kd.int .i64) 3 w' w.heap.size (fun _=>True) (.slice Ao26 t678.length co26) t678)∧Az (w'.heap[gb662]? = some (.cells #[.bool a0_0,.int .i64 a0_1,.int .i64 a0_2,.int .i64 a0_3,.int .i64 a0_4,(.slice A0_5 l0_5.length c0_5)] 29 (0,0)))∧Az (Kd.C (Kd.int .i64) w' A675_5 ((rd_T29 t667 x11_1).f5).length ((rd_T29 t667 x11_1).f5))∧Az (Below w.heap.size w w'))
          case atStart=>exact ⟨(false),(0),(by first | rfl | (simp;done) | (simp [*];done)),(by first | rfl | (simp;done) | (simp [*];done)),H',⟨Nat.le_refl _⟩,⟨N_mv (Kd.N_mono HO_8.out (fun _ hk=>⟨hk.2,hk.1⟩))⟩,⟨R_mv HO680.out⟩,⟨blk_mv BK662.out⟩,⟨by repeat (first | (with_reducible exact HR675_5.out) | (with_reducible refine Kd.C_alloc ?_ _) | (with_reducible refine Kd.C_drewN ?_ _) | (with_reducible refine Kd.C_drew ?_) | exact HR675_5.out)⟩,⟨by repeat (with_reducible first | exact bmv HB.out | refine bwS ?_ GE662.out)⟩⟩
          case round=>
           clear H'
           try clear c1
           try clear c5
           try clear c8
           try clear c8b0
           try clear c8b1
           try clear c16
           try clear c16b0
           try clear c17
           try clear c17b0
           try clear c19
           try clear c19b0
           try clear c20
           try clear c20b0
           try clear c21
           try clear c21b0
           try clear c22
           try clear hcz11_0
           try clear hcz11_1
           try clear hcz11_2
           try clear hcz11_3
           try clear hcz11_4
           try clear hcz11_5
           try clear hcz13_0
           try clear hcz13_1
           try clear hcz13_2
           try clear hcz13_3
           try clear hcz13_4
           try clear hcz13_5
           try clear hfz11_0
           try clear hfz11_1
           try clear hfz11_2
           try clear hfz11_3
           try clear hfz11_4
           try clear hfz11_5
           try clear hfz13_0
           try clear hfz13_1
           try clear hfz13_2
           try clear hfz13_3
           try clear hfz13_4
           try clear hfz13_5
           try clear hx675_0
           try clear hx675_1
           try clear hx675_2
           try clear hx675_3
           try clear hx675_4
           try clear hx675_5
           try clear hx676_0
           try clear p675
           try clear p676
           try clear q675
           try clear q676
           obtain ⟨x15_3,x71_3,rfl,rfl,HA,HK3,HO_8,HO_69,BK662,HR675_5,HB⟩:=hrel
           cases gk with
           | zero=>exact absurd HA.out (by simp [w4TreeLate.l2])
           | succ k3=>
            have H:=HA.out
            clear HA
            simp only [w4TreeLate.l2] at H
            by_cases c27 : x71_3 < (t678.length : Int)
            ·
             rw [if_pos c27] at H
             have c27b0 : decide (x71_3 < (t678.length : Int)) = true:=decide_eq_true c27
             clear c27
             by_cases c28 : 0≤x71_3
             ·
              rw [if_pos c28] at H
              have c28b0 : decide (0≤x71_3) = true:=decide_eq_true c28
              clear c28
              by_cases c29 : x71_3 < (t678.length : Int)
              ·
               rw [if_pos c29] at H
               have c29b0 : decide (x71_3 < (t678.length : Int)) = true:=decide_eq_true c29
               clear c29
               by_cases c30 : x15_3 = true
               ·
                subst c30
                have H1 : (w4TreeLate.l2 k3 a2 t667 t670 x11_1 x12_2 true t678 (t678.length : Int) (wrap64 (x71_3 + 1)) a0_0 a0_1 a0_2 a0_3 a0_4 l0_5) = some r:=by rw [if_pos rfl] at H;exact H
                clear H
                have H:=H1
                clear H1
                have H':=Az.mk H
                clear H
                have p681 : 0≤(x71_3 : Int):=of_decide_eq_true (by first | (with_reducible assumption) | assumption)
                have q681 : x71_3 < (t678.length : Int):=of_decide_eq_true (by first | (with_reducible assumption) | assumption)
                obtain ⟨ad681,e681,hx681_0⟩:=Kd.at_int (Kd.R_reads' HO_69.out).2.2 x71_3 p681 q681
                cases e681
                replace p681:=eq_true p681
                replace q681:=eq_true q681
                go_wp2
                go_roundg k3
                case measure=>have:=HK1.out;have:=HK2.out;have:=HK3.out;omega
                case rel=>exact ⟨(true),(wrap64 (x71_3 + 1)),(by first | rfl | (simp;done) | (simp [*];done)),(by first | rfl | (simp;done) | (simp [*];done)),H',⟨by have:=HK1.out;have:=HK2.out;have:=HK3.out;omega⟩,⟨N_mv HO_8.out⟩,⟨R_mv HO_69.out⟩,⟨blk_mv BK662.out⟩,⟨by repeat (first | (with_reducible exact HR675_5.out) | (with_reducible refine Kd.C_alloc ?_ _) | (with_reducible refine Kd.C_drewN ?_ _) | (with_reducible refine Kd.C_drew ?_) | exact HR675_5.out)⟩,⟨by repeat (with_reducible first | exact bmv HB.out | refine bwS ?_ GE662.out)⟩⟩
               ·
                replace c30:=Bool.eq_false_iff.mpr c30
                subst c30
                have H1 : (w4TreeLate.l2 k3 a2 t667 t670 x11_1 x12_2 ((rd t678 x71_3) == x11_1) t678 (t678.length : Int) (wrap64 (x71_3 + 1)) a0_0 a0_1 a0_2 a0_3 a0_4 l0_5) = some r:=by rw [if_neg (show ¬ (false = true) by decide)] at H;exact H
                clear H
                have H:=H1
                clear H1
                have H':=Az.mk H
                clear H
                have p681 : 0≤(x71_3 : Int):=of_decide_eq_true (by first | (with_reducible assumption) | assumption)
                have q681 : x71_3 < (t678.length : Int):=of_decide_eq_true (by first | (with_reducible assumption) | assumption)
                obtain ⟨ad681,e681,hx681_0⟩:=Kd.at_int (Kd.R_reads' HO_69.out).2.2 x71_3 p681 q681
                cases e681
                replace p681:=eq_true p681
                replace q681:=eq_true q681
                go_wp2
                go_roundg k3
                case measure=>have:=HK1.out;have:=HK2.out;have:=HK3.out;omega
                case rel=>exact ⟨(((rd t678 x71_3) == x11_1)),(wrap64 (x71_3 + 1)),(by first | rfl | (simp;done) | (simp [*];done)),(by first | rfl | (simp;done) | (simp [*];done)),H',⟨by have:=HK1.out;have:=HK2.out;have:=HK3.out;omega⟩,⟨N_mv HO_8.out⟩,⟨R_mv HO_69.out⟩,⟨blk_mv BK662.out⟩,⟨by repeat (first | (with_reducible exact HR675_5.out) | (with_reducible refine Kd.C_alloc ?_ _) | (with_reducible refine Kd.C_drewN ?_ _) | (with_reducible refine Kd.C_drew ?_) | exact HR675_5.out)⟩,⟨by repeat (with_reducible first | exact bmv HB.out | refine bwS ?_ GE662.out)⟩⟩
              ·
               rw [if_neg c29] at H
               exact absurd H (by simp)
             ·
              rw [if_neg c28] at H
              exact absurd H (by simp)
            ·
             rw [if_neg c27] at H
             have c27b0 : decide (x71_3 < (t678.length : Int)) = false:=decide_eq_false c27
             clear c27
             by_cases c31 : x15_3 = true
             ·
              subst c31
              have H1 : (if 0≤x11_1 then (if x11_1 < (t667.length : Int) then (if (x12_2 != ((rd_T29 t667 x11_1).f0)) = true then (some false) else (w4TreeLate.l0 k3 a2 t667 t670 (wrap64 (x11_1 + 2)) a0_0 a0_1 a0_2 a0_3 a0_4 l0_5)) else (none)) else (none)) = some r:=by rw [if_pos rfl] at H;exact H
              clear H
              have H:=H1
              clear H1
              by_cases c32 : 0≤x11_1
              ·
               rw [if_pos c32] at H
               have c32b0 : decide (0≤x11_1) = true:=decide_eq_true c32
               clear c32
               by_cases c33 : x11_1 < (t667.length : Int)
               ·
                rw [if_pos c33] at H
                have c33b0 : decide (x11_1 < (t667.length : Int)) = true:=decide_eq_true c33
                clear c33
                by_cases c34 : (x12_2 != ((rd_T29 t667 x11_1).f0)) = true
                ·
                 rw [if_pos c34] at H
                 have c34b0 : (x12_2 != ((rd_T29 t667 x11_1).f0)) = true:=c34
                 (try (have c34b1 : decide (x12_2 = ((rd_T29 t667 x11_1).f0)) = false:=by simpa using c34))
                 (try (have c34b2 : (x12_2 == ((rd_T29 t667 x11_1).f0)) = false:=by simpa using c34))
                 (try (have c34b3 : ¬ (x12_2 = ((rd_T29 t667 x11_1).f0)):=by simpa using c34))
                 clear c34
                 obtain rfl:=Option.some.inj H
                 try exact absurd hr Bool.false_ne_true
                 all_goals
                  have p682 : 0≤(x11_1 : Int):=of_decide_eq_true (by first | (with_reducible assumption) | assumption)
                  have q682 : x11_1 < (t667.length : Int):=of_decide_eq_true (by first | (with_reducible assumption) | assumption)
                  obtain ⟨ad682,A682_5,c682_5,e682,hx682_0,hx682_1,hx682_2,hx682_3,hx682_4,hx682_5,hl682_5,hi682_5⟩:=at_T29 (Kd.N_reads' HO_8.out).2.2 x11_1 p682 q682
                  obtain rfl : ad675 = ad682:=(by injection e682)
                  obtain ⟨ce682,hce682,hMe682,hcc682⟩:=Kd.N_get HO_8.out z29 x11_1 p682 (by first | exact q682 | exact of_decide_eq_true (by first | (with_reducible assumption) | assumption) | (have e_:=(Kd.N_reads' HO_8.out).1;omega))
                  obtain ⟨ua682_5,uc682_5,rfl,ul682_5,ge682_5⟩:=k29_openF hMe682
                  have hv682_5:=hcc682 5 _ rfl
                  rw [add_field _ _ 5 (by omega)] at hv682_5
                  replace hv682_5:=Option.some.inj (hv682_5.symm.trans hx682_5)
                  injection hv682_5 with hva_ hvn_ hvc_
                  rw [hva_] at ge682_5
                  rw [hvc_] at ul682_5
                  have HL682_5:=Az.mk (show Kd.V (Kd.int .i64) 3 _ w.heap.size _ _ ((rd_T29 t667 x11_1).f5) from Kd.V_mk ul682_5 ge682_5)
                  clear hva_ hvn_ hvc_ ge682_5 ul682_5
                  clear hcc682 hce682
                  have HR682_5:=Az.mk hi682_5
                  have HC682_5:=Az.mk hl682_5
                  clear hi682_5 hl682_5
                  replace p682:=eq_true p682
                  replace q682:=eq_true q682
                  go_wp2
                  go_ret
                  exact ⟨by first | rfl | (simp [errW_none,errW_some] <;> rfl) | (simp [*,errW_none,errW_some] <;> rfl),by repeat (with_reducible first | exact bmv HB.out | refine bwS ?_ GE662.out)⟩
                ·
                 rw [if_neg c34] at H
                 have c34b0 : (x12_2 != ((rd_T29 t667 x11_1).f0)) = false:=by simpa using c34
                 (try (have c34b1 : decide (x12_2 = ((rd_T29 t667 x11_1).f0)) = true:=by simpa using c34))
                 (try (have c34b2 : (x12_2 == ((rd_T29 t667 x11_1).f0)) = true:=by simpa using c34))
                 clear c34
                 have H':=Az.mk H
                 clear H
                 have p682 : 0≤(x11_1 : Int):=of_decide_eq_true (by first | (with_reducible assumption) | assumption)
                 have q682 : x11_1 < (t667.length : Int):=of_decide_eq_true (by first | (with_reducible assumption) | assumption)
                 obtain ⟨ad682,A682_5,c682_5,e682,hx682_0,hx682_1,hx682_2,hx682_3,hx682_4,hx682_5,hl682_5,hi682_5⟩:=at_T29 (Kd.N_reads' HO_8.out).2.2 x11_1 p682 q682
                 obtain rfl : ad675 = ad682:=(by injection e682)
                 obtain ⟨ce682,hce682,hMe682,hcc682⟩:=Kd.N_get HO_8.out z29 x11_1 p682 (by first | exact q682 | exact of_decide_eq_true (by first | (with_reducible assumption) | assumption) | (have e_:=(Kd.N_reads' HO_8.out).1;omega))
                 obtain ⟨ua682_5,uc682_5,rfl,ul682_5,ge682_5⟩:=k29_openF hMe682
                 have hv682_5:=hcc682 5 _ rfl
                 rw [add_field _ _ 5 (by omega)] at hv682_5
                 replace hv682_5:=Option.some.inj (hv682_5.symm.trans hx682_5)
                 injection hv682_5 with hva_ hvn_ hvc_
                 rw [hva_] at ge682_5
                 rw [hvc_] at ul682_5
                 have HL682_5:=Az.mk (show Kd.V (Kd.int .i64) 3 _ w.heap.size _ _ ((rd_T29 t667 x11_1).f5) from Kd.V_mk ul682_5 ge682_5)
                 clear hva_ hvn_ hvc_ ge682_5 ul682_5
                 clear hcc682 hce682
                 have HR682_5:=Az.mk hi682_5
                 have HC682_5:=Az.mk hl682_5
                 clear hi682_5 hl682_5
                 replace p682:=eq_true p682
                 replace q682:=eq_true q682
                 go_wp2
                 go_roundg k3
                 case measure=>have:=HK1.out;have:=HK2.out;have:=HK3.out;omega
                 case rel=>exact ⟨(wrap64 (x11_1 + 2)),(by first | rfl | (simp;done) | (simp [*];done)),H',⟨by have:=HK1.out;have:=HK2.out;have:=HK3.out;omega⟩,⟨N_mv (Kd.N_mono HO_8.out (fun _ hk=>hk.2))⟩,⟨blk_mv BK662.out⟩,⟨by repeat (with_reducible first | exact bmv HB.out | refine bwS ?_ GE662.out)⟩⟩
               ·
                rw [if_neg c33] at H
                exact absurd H (by simp)
              ·
               rw [if_neg c32] at H
               exact absurd H (by simp)
             ·
              replace c31:=Bool.eq_false_iff.mpr c31
              subst c31
              have H1 : (if (x12_2 != false) = true then (some false) else (w4TreeLate.l0 k3 a2 t667 t670 (wrap64 (x11_1 + 2)) a0_0 a0_1 a0_2 a0_3 a0_4 l0_5)) = some r:=by rw [if_neg (show ¬ (false = true) by decide)] at H;exact H
              clear H
              have H:=H1
              clear H1
              by_cases c35 : (x12_2 != false) = true
              ·
               rw [if_pos c35] at H
               have c35b0 : (x12_2 != false) = true:=c35
               (try (have c35b1 : decide (x12_2 = false) = false:=by simpa using c35))
               (try (have c35b2 : (x12_2 == false) = false:=by simpa using c35))
               (try (have c35b3 : ¬ (x12_2 = false):=by simpa using c35))
               clear c35
               obtain rfl:=Option.some.inj H
               try exact absurd hr Bool.false_ne_true
               all_goals
                go_wp2
                go_ret
                exact ⟨by first | rfl | (simp [errW_none,errW_some] <;> rfl) | (simp [*,errW_none,errW_some] <;> rfl),by repeat (with_reducible first | exact bmv HB.out | refine bwS ?_ GE662.out)⟩
              ·
               rw [if_neg c35] at H
               have c35b0 : (x12_2 != false) = false:=by simpa using c35
               (try (have c35b1 : decide (x12_2 = false) = true:=by simpa using c35))
               (try (have c35b2 : (x12_2 == false) = true:=by simpa using c35))
               clear c35
               have H':=Az.mk H
               clear H
               go_wp2
               go_roundg k3
               case measure=>have:=HK1.out;have:=HK2.out;have:=HK3.out;omega
               case rel=>exact ⟨(wrap64 (x11_1 + 2)),(by first | rfl | (simp;done) | (simp [*];done)),H',⟨by have:=HK1.out;have:=HK2.out;have:=HK3.out;omega⟩,⟨N_mv (Kd.N_mono HO_8.out (fun _ hk=>hk.2))⟩,⟨blk_mv BK662.out⟩,⟨by repeat (with_reducible first | exact bmv HB.out | refine bwS ?_ GE662.out)⟩⟩
      ·
       rw [if_neg c17] at H
       exact absurd H (by simp)
     ·
      rw [if_neg c16] at H
      have c16b0 : decide (x11_1 < (t667.length : Int)) = false:=decide_eq_false c16
      clear c16
      replace H:=Option.bind_eq_some_iff.mp H
      obtain ⟨t683,A360,H⟩:=H
      replace H : (if t683 = true then ((tree_Filtered.f k1 t667 a2).bind fun bt684=>(if 0≤(bt684.1.length : Int) then (if ((bt684.1.length : Int) : Int).toNat≤35184372088832 then ((tree_Merge.f k1 t667 a2 a0_0 a0_1 a0_2 a0_3 a0_4 l0_5 (List.replicate ((bt684.1.length : Int) : Int).toNat 0) (List.replicate ((bt684.1.length : Int) : Int).toNat 0)).bind fun bt696=>(if bt696.2 = 0 then ((r4Leaves.f bt696.1).bind fun t700=>((w4upward.f k1 (wrap64 (2 * a2)) t700).bind fun t701=>(w4TreeLate.l3 k1 bt696.1 t701 (t701.length : Int) 0))) else (some false))) else (none)) else (none))) else (some true)) = some r:=H
      have A36:=Az.mk A360
      clear A360
      by_cases c37 : t683 = true
      ·
       subst c37
       have H1 : ((tree_Filtered.f k1 t667 a2).bind fun bt684=>(if 0≤(bt684.1.length : Int) then (if ((bt684.1.length : Int) : Int).toNat≤35184372088832 then ((tree_Merge.f k1 t667 a2 a0_0 a0_1 a0_2 a0_3 a0_4 l0_5 (List.replicate ((bt684.1.length : Int) : Int).toNat 0) (List.replicate ((bt684.1.length : Int) : Int).toNat 0)).bind fun bt696=>(if bt696.2 = 0 then ((r4Leaves.f bt696.1).bind fun t700=>((w4upward.f k1 (wrap64 (2 * a2)) t700).bind fun t701=>(w4TreeLate.l3 k1 bt696.1 t701 (t701.length : Int) 0))) else (some false))) else (none)) else (none))) = some r:=by rw [if_pos rfl] at H;exact H
       clear H
       have H:=H1
       clear H1
       replace H:=Option.bind_eq_some_iff.mp H
       obtain ⟨⟨t684,t685⟩,A380,H⟩:=H
       replace H : (if 0≤(t684.length : Int) then (if ((t684.length : Int) : Int).toNat≤35184372088832 then ((tree_Merge.f k1 t667 a2 a0_0 a0_1 a0_2 a0_3 a0_4 l0_5 (List.replicate ((t684.length : Int) : Int).toNat 0) (List.replicate ((t684.length : Int) : Int).toNat 0)).bind fun bt696=>(if bt696.2 = 0 then ((r4Leaves.f bt696.1).bind fun t700=>((w4upward.f k1 (wrap64 (2 * a2)) t700).bind fun t701=>(w4TreeLate.l3 k1 bt696.1 t701 (t701.length : Int) 0))) else (some false))) else (none)) else (none)) = some r:=H
       have A38:=Az.mk A380
       clear A380
       by_cases c39 : 0≤(t684.length : Int)
       ·
        rw [if_pos c39] at H
        have c39b0:=eq_true c39
        have c39b1 : decide (0≤(t684.length : Int)) = true:=decide_eq_true c39
        clear c39
        by_cases c40 : ((t684.length : Int) : Int).toNat≤35184372088832
        ·
         rw [if_pos c40] at H
         have c40b0:=eq_true c40
         have c40b1 : decide (((t684.length : Int) : Int).toNat≤35184372088832) = true:=decide_eq_true c40
         clear c40
         obtain ⟨y690,hy690⟩ : ∃ y_ : List Int,y_ = (List.replicate ((t684.length : Int) : Int).toNat 0):=⟨_,rfl⟩
         replace H : ((tree_Merge.f k1 t667 a2 a0_0 a0_1 a0_2 a0_3 a0_4 l0_5 y690 (List.replicate ((t684.length : Int) : Int).toNat 0)).bind fun bt696=>(if bt696.2 = 0 then ((r4Leaves.f bt696.1).bind fun t700=>((w4upward.f k1 (wrap64 (2 * a2)) t700).bind fun t701=>(w4TreeLate.l3 k1 bt696.1 t701 (t701.length : Int) 0))) else (some false))) = some r:=by first | (rw [hy690];with_reducible exact H) | (have H2_:=(Option.bind_some _ _).symm.trans H;rw [hy690];with_reducible exact H2_) | (have H2_:=(Option.bind_some _ _).symm.trans H;with_reducible exact H2_) | with_reducible exact H | (rw [hy690];exact H) | exact H
         have Ny690:=Az.mk hy690
         clear hy690
         obtain ⟨y693,hy693⟩ : ∃ y_ : List Int,y_ = (List.replicate ((t684.length : Int) : Int).toNat 0):=⟨_,rfl⟩
         replace H : ((tree_Merge.f k1 t667 a2 a0_0 a0_1 a0_2 a0_3 a0_4 l0_5 y690 y693).bind fun bt696=>(if bt696.2 = 0 then ((r4Leaves.f bt696.1).bind fun t700=>((w4upward.f k1 (wrap64 (2 * a2)) t700).bind fun t701=>(w4TreeLate.l3 k1 bt696.1 t701 (t701.length : Int) 0))) else (some false))) = some r:=by first | (rw [hy693];with_reducible exact H) | (have H2_:=(Option.bind_some _ _).symm.trans H;rw [hy693];with_reducible exact H2_) | (have H2_:=(Option.bind_some _ _).symm.trans H;with_reducible exact H2_) | with_reducible exact H | (rw [hy693];exact H) | exact H
         have Ny693:=Az.mk hy693
         clear hy693
         replace H:=Option.bind_eq_some_iff.mp H
         obtain ⟨⟨t696,t699⟩,A410,H⟩:=H
         replace H : (if t699 = 0 then ((r4Leaves.f t696).bind fun t700=>((w4upward.f k1 (wrap64 (2 * a2)) t700).bind fun t701=>(w4TreeLate.l3 k1 t696 t701 (t701.length : Int) 0))) else (some false)) = some r:=H
         have A41:=Az.mk A410
         clear A410
         by_cases c42 : t699 = 0
         ·
          rw [if_pos c42] at H
          have c42b0 : (t699 == 0) = true:=beq_iff_eq.mpr c42
          have c42b1 : (t699 != 0) = false:=bne_eq_false_iff_eq.mpr c42
          clear c42
          replace H:=Option.bind_eq_some_iff.mp H
          obtain ⟨t700,A430,H⟩:=H
          replace H : ((w4upward.f k1 (wrap64 (2 * a2)) t700).bind fun t701=>(w4TreeLate.l3 k1 t696 t701 (t701.length : Int) 0)) = some r:=H
          have A43:=Az.mk A430
          clear A430
          replace H:=Option.bind_eq_some_iff.mp H
          obtain ⟨t701,A440,H⟩:=H
          replace H : (w4TreeLate.l3 k1 t696 t701 (t701.length : Int) 0) = some r:=H
          have A44:=Az.mk A440
          clear A440
          have H':=Az.mk H
          clear H
          obtain ⟨Ao45,co45,eo45⟩:=Kd.N_slice HO_8.out
          subst eo45
          try go_wp2_with (first | ((with_reducible refine gate_callee (f:=22) rfl ?_);refine goesL_ (some 94) rfl rfl Tryd.func22 (by kernel_rfl) rfl #[.slice Ao45 t667.length co45,.int .i64 a2] rfl (by (try simp only [List.map_toArray,List.map_cons,List.map_nil]);first | done | rfl | (simp only [List.length_drop,List.length_take];rfl)) ?_;(with_reducible refine (r4Full.calls _ _ t667 a2 true _ ?side1 ?side2 A36.out).mono ?_);(case side1=>exact C_mv ((Kd.N_reads' HO_8.out).2.2));(case side2=>exact (Kd.N_reads' HO_8.out).2.1);rintro e w' ⟨rfl,⟨nd,rfl⟩⟩;refine ⟨_,rfl,?_⟩) | ((with_reducible refine gate_callee (f:=23) rfl ?_);refine goesL_ (some 99) rfl rfl Tryd.func23 (by kernel_rfl) rfl #[.slice Ao45 t667.length co45,.int .i64 a2] rfl (by (try simp only [List.map_toArray,List.map_cons,List.map_nil]);first | done | rfl | (simp only [List.length_drop,List.length_take];rfl)) ?_;(with_reducible refine (tree_Filtered.calls (hrG:=?sideG) k1 _ _ t667 a2 t684 t685 _ ?side1 ?side2 A38.out).mono ?_);(case sideG=>(first | (with_reducible exact HRG.out) |exact TabG.below HRG.out (by repeat (first | (with_reducible first |exact HB.out |apply bwA |apply bwN |apply bw1 |refine bwS ?_ GE662.out) | (with_reducible exact Below.refl _ _)))));(case side1=>exact C_mv ((Kd.N_reads' HO_8.out).2.2));(case side2=>exact (Kd.N_reads' HO_8.out).2.1);rintro e w46 ⟨v686,v688,rfl,ho0,ho1,hb⟩;refine ⟨_,rfl,?_⟩;have n0_:=Az.mk (Kd.N_mono (Kd.N_told (Kd.N_told (Kd.N_old (N_mv HO_8.out) hb) (Kd.R_base ho0)) (Kd.R_base ho1)) (fun _ h_=>h_.1));have n1_:=Az.mk (Kd.R_lower ho0 (bwZ (by repeat (with_reducible first |exact bmv HB.out |refine bwS ?_ GE662.out))));have n2_:=Az.mk (Kd.R_lower ho1 (bwZ (by repeat (with_reducible first |exact bmv HB.out |refine bwS ?_ GE662.out))));have n3_:=Az.mk (kB (g:=gb662) (o:=.cells #[.bool a0_0,.int .i64 a0_1,.int .i64 a0_2,.int .i64 a0_3,.int .i64 a0_4,.slice A0_5 l0_5.length c0_5] 29 (0,0)) (blk_mv BK662.out) hb);have n4_:=Az.mk (bwT (by repeat (with_reducible first |exact bmv HB.out |refine bwS ?_ GE662.out)) hb);clear HO_8;clear BK662;clear HB;have HO_8:=n0_;have HO687:=n1_;have HO689:=n2_;have BK662:=n3_;have HB:=n4_;clear n0_ n1_ n2_ n3_ n4_;(try clear hb);(try clear hb2);(try clear hk);(try clear hi);(try clear ho0);(try clear ho1)))
          have n0_:=Az.mk (Kd.N_drew HO_8.out)
          have n1_:=Az.mk (Kd.R_drew HO687.out)
          have n2_:=Az.mk (Kd.R_drew HO689.out)
          have n3_:=Az.mk (kD BK662.out)
          have n4_:=Az.mk (bw1 HB.out)
          clear HO_8
          clear HO687
          clear HO689
          clear BK662
          clear HB
          have HO_8:=n0_
          have HO687:=n1_
          have HO689:=n2_
          have BK662:=n3_
          have HB:=n4_
          clear n0_ n1_ n2_ n3_ n4_
          obtain ⟨Ao48,co48,eo48⟩:=Kd.R_slice HO687.out
          (first | subst eo48 | (injection eo48 with f1_ f2_ f3_;have f4_:=f1_.symm;have f5_:=f3_.symm;clear f1_ f2_ f3_;subst f4_;subst f5_))
          refine start_ (n:=15) (S:=fun w'=>w'.cell? ⟨gb662,0,none⟩ = some (.bool a0_0)∧w'.cell? ⟨gb662,1,none⟩ = some (.int .i64 a0_1)∧w'.cell? ⟨gb662,2,none⟩ = some (.int .i64 a0_2)∧w'.cell? ⟨gb662,3,none⟩ = some (.int .i64 a0_3)∧w'.cell? ⟨gb662,4,none⟩ = some (.int .i64 a0_4)∧w'.cell? ⟨gb662,5,none⟩ = some (.slice A0_5 l0_5.length c0_5)) (ds:=[]) #[false,false,false,false,false,false,false,false,false,false,false,false,false,false,false] (by kernel_rfl) rfl rfl ⟨(kC BK662.out 0).trans rfl,(kC BK662.out 1).trans rfl,(kC BK662.out 2).trans rfl,(kC BK662.out 3).trans rfl,(kC BK662.out 4).trans rfl,(kC BK662.out 5).trans rfl⟩ (fun hHeld=>?_);refine with_tabW w4TreeLate.tab27 w4TreeLate.bits27 (fun HT_ HW_=>?_)
          generalize w46.drew = w47 at HO_8 HO687 HO689 BK662 HB hHeld ⊢
          refine pure_ (i:=0) (N:=some 103) (v:=?_) (a':=?_) #[true,false,false,false,false,false,false,false,false,false,false,false,false,false,false] rfl rfl (any_of HT_.out (by kernel_rfl)) (fun _ _ _ h=>h) (Or.inl ⟨by rfl,?_⟩) ?_ ?_
          rotate_left;(intro w';go_simp;with_reducible rfl);rotate_left;(simp only [Act.put,List.setIfInBounds_toArray,List.set_cons_zero,List.set_cons_succ,i64_w,i32_w];rfl)
          refine pure_ (i:=1) (N:=some 104) (v:=?_) (a':=?_) #[true,true,false,false,false,false,false,false,false,false,false,false,false,false,false] rfl rfl (any_of HT_.out (by kernel_rfl)) (fun _ _ _ h=>h) (Or.inl ⟨by rfl,?_⟩) ?_ ?_
          rotate_left;(intro w';go_simp;with_reducible rfl);rotate_left;(simp only [Act.put,List.setIfInBounds_toArray,List.set_cons_zero,List.set_cons_succ,i64_w,i32_w];rfl)
          refine pure_ (i:=3) (N:=some 106) (v:=?_) (a':=?_) #[true,true,false,true,false,false,false,false,false,false,false,false,false,false,false] rfl rfl (any_of HT_.out (by kernel_rfl)) (fun _ _ _ h=>h) (Or.inl ⟨by rfl,?_⟩) ?_ ?_
          rotate_left;(intro w';go_simp;with_reducible rfl);rotate_left;(simp only [Act.put,List.setIfInBounds_toArray,List.set_cons_zero,List.set_cons_succ,i64_w,i32_w];rfl)
          refine pure_ (i:=4) (N:=some 107) (v:=?_) (a':=?_) #[true,true,false,true,true,false,false,false,false,false,false,false,false,false,false] rfl rfl (any_of HT_.out (by kernel_rfl)) (fun _ _ _ h=>h) (Or.inl ⟨by rfl,?_⟩) ?_ ?_
          rotate_left;(intro w';go_simp;with_reducible rfl);rotate_left;(simp only [Act.put,List.setIfInBounds_toArray,List.set_cons_zero,List.set_cons_succ,i64_w,i32_w];rfl)
          refine pure_ (i:=6) (N:=some 109) (v:=?_) (a':=?_) #[true,true,false,true,true,false,true,false,false,false,false,false,false,false,false] rfl rfl (any_of HT_.out (by kernel_rfl)) (fun _ _ _ h=>h) (Or.inl ⟨by rfl,?_⟩) ?_ ?_
          rotate_left;(intro w';go_simp;with_reducible rfl);rotate_left;(simp only [Act.put,List.setIfInBounds_toArray,List.set_cons_zero,List.set_cons_succ,i64_w,i32_w];rfl)
          refine pure_ (i:=7) (N:=some 110) (v:=?_) (a':=?_) #[true,true,false,true,true,false,true,true,false,false,false,false,false,false,false] rfl rfl (any_of HT_.out (by kernel_rfl)) (fun _ _ _ h=>h) (Or.inl ⟨by rfl,?_⟩) ?_ ?_
          rotate_left;(intro w';go_simp;with_reducible rfl);rotate_left;(simp only [Act.put,List.setIfInBounds_toArray,List.set_cons_zero,List.set_cons_succ,i64_w,i32_w];rfl)
          refine take_ (i:=2) (N:=some 105) (v:=?_) (a':=?_) #[true,true,true,true,true,false,true,true,false,false,false,false,false,false,false] rfl rfl (take_ofW HT_.out HW_.out (by kernel_rfl)) (fun _ _ _ h=>h) (Or.inl ⟨by rfl,?_⟩) hHeld ?_ ?_
          rotate_left
          ·
           rintro w' ⟨s0,s1,s2,s3,s4,s5⟩
           go_simp
           with_reducible rfl
          rotate_left
          ·
           simp only [Act.put,List.setIfInBounds_toArray,List.set_cons_zero,List.set_cons_succ,i64_w,i32_w]
           rfl
          refine join_ (σ:=Value × Value) 6 #[true,true,true,true,true,true,true,true,true,false,false,false,false,false,false] (fun s_=>[(108,s_.1),(111,s_.2)]) (fun s_ w'=>(w'.cell? ⟨gb662,0,none⟩ = some (.bool a0_0)∧w'.cell? ⟨gb662,1,none⟩ = some (.int .i64 a0_1)∧w'.cell? ⟨gb662,2,none⟩ = some (.int .i64 a0_2)∧w'.cell? ⟨gb662,3,none⟩ = some (.int .i64 a0_3)∧w'.cell? ⟨gb662,4,none⟩ = some (.int .i64 a0_4)∧w'.cell? ⟨gb662,5,none⟩ = some (.slice A0_5 l0_5.length c0_5))∧(Kd.R (Kd.int .i64) 3 w' w.heap.size (fun k_=>some k_≠(v688 : Value).ownBlock∧some k_≠(s_.1 : Value).ownBlock∧some k_≠(s_.2 : Value).ownBlock) (.slice Ao48 t684.length co48) t684)∧(Kd.R (Kd.int .i64) 3 w' w.heap.size (fun k_=>some k_≠(.slice Ao48 t684.length co48 : Value).ownBlock∧some k_≠(s_.1 : Value).ownBlock∧some k_≠(s_.2 : Value).ownBlock) v688 t685)∧(Kd.R (Kd.int .i64) 3 w' w.heap.size (fun k_=>some k_≠(.slice Ao48 t684.length co48 : Value).ownBlock∧some k_≠(v688 : Value).ownBlock∧some k_≠(s_.2 : Value).ownBlock) s_.1 y690)∧(Kd.R (Kd.int .i64) 3 w' w.heap.size (fun k_=>some k_≠(.slice Ao48 t684.length co48 : Value).ownBlock∧some k_≠(v688 : Value).ownBlock∧some k_≠(s_.1 : Value).ownBlock) s_.2 y693)∧(Kd.N k29 29 w' w.heap.size (fun k_=>some k_≠(.slice Ao48 t684.length co48 : Value).ownBlock∧some k_≠(v688 : Value).ownBlock∧some k_≠(s_.1 : Value).ownBlock∧some k_≠(s_.2 : Value).ownBlock∧k_≠gb662) (.slice Ao45 t667.length co45) t667)∧(w'.heap[gb662]? = some (.cells #[.bool a0_0,.int .i64 a0_1,.int .i64 a0_2,.int .i64 a0_3,.int .i64 a0_4,.slice A0_5 l0_5.length c0_5] 29 (0,0)))∧(Below w.heap.size w w')) ?_ ?_
          rotate_left
          ·
           intro hCont
           refine two_ (i:=5) (j:=8) (Ni:=some 108) (Nj:=some 111) #[true,true,true,true,true,true,true,true,false,false,false,false,false,false,false] #[true,true,true,true,true,false,true,true,true,false,false,false,false,false,false] rfl rfl rfl rfl (two_of HT_.out (by kernel_rfl)) (by decide) (by decide) (fun K hK=>?_) (fun K hK=>?_)
           ·
            skip
            refine Kd.R_make_step (Kd.int .i64) _ 3 (by rfl) (N:=108) rfl 27 _ _ rfl (t684.length : Int) rfl rfl Tryd.underlying27 (.int .i64 0) 8 info3 rfl (by decide) (by omega) 0 (ok:=fun _=>True) (okp:=fun _=>True) rfl (fun _ hk=>hk) trivial (of_decide_eq_true (by first | (with_reducible assumption) | assumption)) (Nat.le_trans (Nat.mul_le_mul_right _ (of_decide_eq_true (by first | (with_reducible assumption) | assumption) : (t684.length : Int).toNat≤35184372088832)) (by omega)) (Below.refl _ _) (Nat.le_refl _) ?_
            intro v691 w49 ho50 hb hg_ hnew_
            clear hg_ hnew_
            (first | rw [← Ny690.out] at ho50 | (simp only [Int.reduceToNat] at ho50;rw [← Ny690.out] at ho50))
            have n0_:=Az.mk (Kd.N_elder' (N_mv HO_8.out) (Kd.R_base ho50) hb)
            have n1_:=Az.mk (Kd.R_elder' (R_mv HO687.out) (Kd.R_base ho50) hb)
            have n2_:=Az.mk (Kd.R_elder' (R_mv HO689.out) (Kd.R_base ho50) hb)
            have n3_:=Az.mk (Kd.R_lower (Kd.R_new' (Kd.R_new' ho50 (Kd.R_lt (R_mv HO687.out))) (Kd.R_lt (R_mv HO689.out))) (bwZ (by repeat (with_reducible first | exact bmv HB.out | refine bwS ?_ GE662.out))))
            have n4_:=Az.mk (kB (g:=gb662) (o:=.cells #[.bool a0_0,.int .i64 a0_1,.int .i64 a0_2,.int .i64 a0_3,.int .i64 a0_4,.slice A0_5 l0_5.length c0_5] 29 (0,0)) (blk_mv BK662.out) hb)
            have n5_:=Az.mk (bwT (by repeat (with_reducible first | exact bmv HB.out | refine bwS ?_ GE662.out)) hb)
            clear HO_8
            clear HO687
            clear HO689
            clear BK662
            clear HB
            have HO_8:=n0_
            have HO687:=n1_
            have HO689:=n2_
            have HO692:=n3_
            have BK662:=n4_
            have HB:=n5_
            clear n0_ n1_ n2_ n3_ n4_ n5_
            clear hb ho50
            refine hK.out _ _ ⟨(kC BK662.out 0).trans rfl,(kC BK662.out 1).trans rfl,(kC BK662.out 2).trans rfl,(kC BK662.out 3).trans rfl,(kC BK662.out 4).trans rfl,(kC BK662.out 5).trans rfl⟩ (fun hHeld=>?_)
            clear hK K
            refine norm_ (a':=?_) ?_ ?_
            rotate_left
            ·
             show Act.put _ (some 108) _ = _
             simp only [Act.put,List.setIfInBounds_toArray,List.set_cons_zero,List.set_cons_succ,i64_w,i32_w]
             rfl
            refine one_ (i:=8) (N:=some 111) #[true,true,true,true,true,true,true,true,true,false,false,false,false,false,false] rfl rfl (one_of HT_.out (by kernel_rfl)) (by decide) (fun K hK=>?_)
            refine Kd.R_make_step (Kd.int .i64) _ 3 (by rfl) (N:=111) rfl 27 _ _ rfl (t684.length : Int) rfl rfl Tryd.underlying27 (.int .i64 0) 8 info3 rfl (by decide) (by omega) 0 (ok:=fun _=>True) (okp:=fun _=>True) rfl (fun _ hk=>hk) trivial (of_decide_eq_true (by first | (with_reducible assumption) | assumption)) (Nat.le_trans (Nat.mul_le_mul_right _ (of_decide_eq_true (by first | (with_reducible assumption) | assumption) : (t684.length : Int).toNat≤35184372088832)) (by omega)) (Below.refl _ _) (Nat.le_refl _) ?_
            intro v694 w51 ho52 hb hg_ hnew_
            clear hg_ hnew_
            (first | rw [← Ny693.out] at ho52 | (simp only [Int.reduceToNat] at ho52;rw [← Ny693.out] at ho52))
            have n0_:=Az.mk (Kd.N_elder' (N_mv HO_8.out) (Kd.R_base ho52) hb)
            have n1_:=Az.mk (Kd.R_elder' (R_mv HO687.out) (Kd.R_base ho52) hb)
            have n2_:=Az.mk (Kd.R_elder' (R_mv HO689.out) (Kd.R_base ho52) hb)
            have n3_:=Az.mk (Kd.R_elder' (R_mv HO692.out) (Kd.R_base ho52) hb)
            have n4_:=Az.mk (Kd.R_lower (Kd.R_new' (Kd.R_new' (Kd.R_new' ho52 (Kd.R_lt (R_mv HO687.out))) (Kd.R_lt (R_mv HO689.out))) (Kd.R_lt (R_mv HO692.out))) (bwZ (by repeat (with_reducible first | exact bmv HB.out | refine bwS ?_ GE662.out))))
            have n5_:=Az.mk (kB (g:=gb662) (o:=.cells #[.bool a0_0,.int .i64 a0_1,.int .i64 a0_2,.int .i64 a0_3,.int .i64 a0_4,.slice A0_5 l0_5.length c0_5] 29 (0,0)) (blk_mv BK662.out) hb)
            have n6_:=Az.mk (bwT (by repeat (with_reducible first | exact bmv HB.out | refine bwS ?_ GE662.out)) hb)
            clear HO_8
            clear HO687
            clear HO689
            clear HO692
            clear BK662
            clear HB
            have HO_8:=n0_
            have HO687:=n1_
            have HO689:=n2_
            have HO692:=n3_
            have HO695:=n4_
            have BK662:=n5_
            have HB:=n6_
            clear n0_ n1_ n2_ n3_ n4_ n5_ n6_
            clear hb ho52
            refine hK.out _ _ ⟨(kC BK662.out 0).trans rfl,(kC BK662.out 1).trans rfl,(kC BK662.out 2).trans rfl,(kC BK662.out 3).trans rfl,(kC BK662.out 4).trans rfl,(kC BK662.out 5).trans rfl⟩ (fun hHeld=>?_)
            clear hK K
            refine norm_ (a':=?_) ?_ ?_
            rotate_left
            ·
             show Act.put _ (some 111) _ = _
             simp only [Act.put,List.setIfInBounds_toArray,List.set_cons_zero,List.set_cons_succ,i64_w,i32_w]
             rfl
            exact norm_ (by simp only [putAll,Act.put,List.setIfInBounds_toArray,List.set_cons_zero,List.set_cons_succ]) (hCont (v691,v694) _ ⟨hHeld,(R_mv (Kd.R_mono HO687.out (fun _ hk=>⟨hk.1.1,⟨hk.1.2,hk.2⟩⟩))),(R_mv (Kd.R_mono HO689.out (fun _ hk=>⟨hk.1.1,⟨hk.1.2,hk.2⟩⟩))),(R_mv (Kd.R_mono HO692.out (fun _ hk=>⟨hk.1.1.2,⟨hk.1.2,hk.2⟩⟩))),(R_mv (Kd.R_mono HO695.out (fun _ hk=>⟨hk.1.1.2,⟨hk.1.2,hk.2⟩⟩))),(N_mv (Kd.N_mono HO_8.out (fun _ hk=>⟨hk.1.1.1.2,⟨hk.1.1.2,⟨hk.1.2,⟨hk.2,hk.1.1.1.1⟩⟩⟩⟩))),(blk_mv BK662.out),(by repeat (with_reducible first | exact bmv HB.out | refine bwS ?_ GE662.out))⟩)
           ·
            skip
            refine Kd.R_make_step (Kd.int .i64) _ 3 (by rfl) (N:=111) rfl 27 _ _ rfl (t684.length : Int) rfl rfl Tryd.underlying27 (.int .i64 0) 8 info3 rfl (by decide) (by omega) 0 (ok:=fun _=>True) (okp:=fun _=>True) rfl (fun _ hk=>hk) trivial (of_decide_eq_true (by first | (with_reducible assumption) | assumption)) (Nat.le_trans (Nat.mul_le_mul_right _ (of_decide_eq_true (by first | (with_reducible assumption) | assumption) : (t684.length : Int).toNat≤35184372088832)) (by omega)) (Below.refl _ _) (Nat.le_refl _) ?_
            intro v694 w49 ho50 hb hg_ hnew_
            clear hg_ hnew_
            (first | rw [← Ny693.out] at ho50 | (simp only [Int.reduceToNat] at ho50;rw [← Ny693.out] at ho50))
            have n0_:=Az.mk (Kd.N_elder' (N_mv HO_8.out) (Kd.R_base ho50) hb)
            have n1_:=Az.mk (Kd.R_elder' (R_mv HO687.out) (Kd.R_base ho50) hb)
            have n2_:=Az.mk (Kd.R_elder' (R_mv HO689.out) (Kd.R_base ho50) hb)
            have n3_:=Az.mk (Kd.R_lower (Kd.R_new' (Kd.R_new' ho50 (Kd.R_lt (R_mv HO687.out))) (Kd.R_lt (R_mv HO689.out))) (bwZ (by repeat (with_reducible first | exact bmv HB.out | refine bwS ?_ GE662.out))))
            have n4_:=Az.mk (kB (g:=gb662) (o:=.cells #[.bool a0_0,.int .i64 a0_1,.int .i64 a0_2,.int .i64 a0_3,.int .i64 a0_4,.slice A0_5 l0_5.length c0_5] 29 (0,0)) (blk_mv BK662.out) hb)
            have n5_:=Az.mk (bwT (by repeat (with_reducible first | exact bmv HB.out | refine bwS ?_ GE662.out)) hb)
            clear HO_8
            clear HO687
            clear HO689
            clear BK662
            clear HB
            have HO_8:=n0_
            have HO687:=n1_
            have HO689:=n2_
            have HO695:=n3_
            have BK662:=n4_
            have HB:=n5_
            clear n0_ n1_ n2_ n3_ n4_ n5_
            clear hb ho50
            refine hK.out _ _ ⟨(kC BK662.out 0).trans rfl,(kC BK662.out 1).trans rfl,(kC BK662.out 2).trans rfl,(kC BK662.out 3).trans rfl,(kC BK662.out 4).trans rfl,(kC BK662.out 5).trans rfl⟩ (fun hHeld=>?_)
            clear hK K
            refine norm_ (a':=?_) ?_ ?_
            rotate_left
            ·
             show Act.put _ (some 111) _ = _
             simp only [Act.put,List.setIfInBounds_toArray,List.set_cons_zero,List.set_cons_succ,i64_w,i32_w]
             rfl
            refine one_ (i:=5) (N:=some 108) #[true,true,true,true,true,true,true,true,true,false,false,false,false,false,false] rfl rfl (one_of HT_.out (by kernel_rfl)) (by decide) (fun K hK=>?_)
            refine Kd.R_make_step (Kd.int .i64) _ 3 (by rfl) (N:=108) rfl 27 _ _ rfl (t684.length : Int) rfl rfl Tryd.underlying27 (.int .i64 0) 8 info3 rfl (by decide) (by omega) 0 (ok:=fun _=>True) (okp:=fun _=>True) rfl (fun _ hk=>hk) trivial (of_decide_eq_true (by first | (with_reducible assumption) | assumption)) (Nat.le_trans (Nat.mul_le_mul_right _ (of_decide_eq_true (by first | (with_reducible assumption) | assumption) : (t684.length : Int).toNat≤35184372088832)) (by omega)) (Below.refl _ _) (Nat.le_refl _) ?_
            intro v691 w51 ho52 hb hg_ hnew_
            clear hg_ hnew_
            (first | rw [← Ny690.out] at ho52 | (simp only [Int.reduceToNat] at ho52;rw [← Ny690.out] at ho52))
            have n0_:=Az.mk (Kd.N_elder' (N_mv HO_8.out) (Kd.R_base ho52) hb)
            have n1_:=Az.mk (Kd.R_elder' (R_mv HO687.out) (Kd.R_base ho52) hb)
            have n2_:=Az.mk (Kd.R_elder' (R_mv HO689.out) (Kd.R_base ho52) hb)
            have n3_:=Az.mk (Kd.R_elder' (R_mv HO695.out) (Kd.R_base ho52) hb)
            have n4_:=Az.mk (Kd.R_lower (Kd.R_new' (Kd.R_new' (Kd.R_new' ho52 (Kd.R_lt (R_mv HO687.out))) (Kd.R_lt (R_mv HO689.out))) (Kd.R_lt (R_mv HO695.out))) (bwZ (by repeat (with_reducible first | exact bmv HB.out | refine bwS ?_ GE662.out))))
            have n5_:=Az.mk (kB (g:=gb662) (o:=.cells #[.bool a0_0,.int .i64 a0_1,.int .i64 a0_2,.int .i64 a0_3,.int .i64 a0_4,.slice A0_5 l0_5.length c0_5] 29 (0,0)) (blk_mv BK662.out) hb)
            have n6_:=Az.mk (bwT (by repeat (with_reducible first | exact bmv HB.out | refine bwS ?_ GE662.out)) hb)
            clear HO_8
            clear HO687
            clear HO689
            clear HO695
            clear BK662
            clear HB
            have HO_8:=n0_
            have HO687:=n1_
            have HO689:=n2_
            have HO695:=n3_
            have HO692:=n4_
            have BK662:=n5_
            have HB:=n6_
            clear n0_ n1_ n2_ n3_ n4_ n5_ n6_
            clear hb ho52
            refine hK.out _ _ ⟨(kC BK662.out 0).trans rfl,(kC BK662.out 1).trans rfl,(kC BK662.out 2).trans rfl,(kC BK662.out 3).trans rfl,(kC BK662.out 4).trans rfl,(kC BK662.out 5).trans rfl⟩ (fun hHeld=>?_)
            clear hK K
            refine norm_ (a':=?_) ?_ ?_
            rotate_left
            ·
             show Act.put _ (some 108) _ = _
             simp only [Act.put,List.setIfInBounds_toArray,List.set_cons_zero,List.set_cons_succ,i64_w,i32_w]
             rfl
            exact norm_ (by simp only [putAll,Act.put,List.setIfInBounds_toArray,List.set_cons_zero,List.set_cons_succ]) (hCont (v691,v694) _ ⟨hHeld,(R_mv (Kd.R_mono HO687.out (fun _ hk=>⟨hk.1.1,⟨hk.2,hk.1.2⟩⟩))),(R_mv (Kd.R_mono HO689.out (fun _ hk=>⟨hk.1.1,⟨hk.2,hk.1.2⟩⟩))),(R_mv (Kd.R_mono HO692.out (fun _ hk=>⟨hk.1.1.2,⟨hk.1.2,hk.2⟩⟩))),(R_mv (Kd.R_mono HO695.out (fun _ hk=>⟨hk.1.1.2,⟨hk.1.2,hk.2⟩⟩))),(N_mv (Kd.N_mono HO_8.out (fun _ hk=>⟨hk.1.1.1.2,⟨hk.1.1.2,⟨hk.2,⟨hk.1.2,hk.1.1.1.1⟩⟩⟩⟩))),(blk_mv BK662.out),(by repeat (with_reducible first | exact bmv HB.out | refine bwS ?_ GE662.out))⟩)
          rintro ⟨v691,v694⟩ w53 ⟨hS_,h0_,h1_,h2_,h3_,h4_,h5_,h6_⟩
          have n0_ : Az (Kd.R (Kd.int .i64) 3 w53 w.heap.size (fun k_=>some k_≠(v688 : Value).ownBlock∧some k_≠(v691 : Value).ownBlock∧some k_≠(v694 : Value).ownBlock) (.slice Ao48 t684.length co48) t684):=⟨h0_⟩
          have n1_ : Az (Kd.R (Kd.int .i64) 3 w53 w.heap.size (fun k_=>some k_≠(.slice Ao48 t684.length co48 : Value).ownBlock∧some k_≠(v691 : Value).ownBlock∧some k_≠(v694 : Value).ownBlock) v688 t685):=⟨h1_⟩
          have n2_ : Az (Kd.R (Kd.int .i64) 3 w53 w.heap.size (fun k_=>some k_≠(.slice Ao48 t684.length co48 : Value).ownBlock∧some k_≠(v688 : Value).ownBlock∧some k_≠(v694 : Value).ownBlock) v691 y690):=⟨h2_⟩
          have n3_ : Az (Kd.R (Kd.int .i64) 3 w53 w.heap.size (fun k_=>some k_≠(.slice Ao48 t684.length co48 : Value).ownBlock∧some k_≠(v688 : Value).ownBlock∧some k_≠(v691 : Value).ownBlock) v694 y693):=⟨h3_⟩
          have n4_ : Az (Kd.N k29 29 w53 w.heap.size (fun k_=>some k_≠(.slice Ao48 t684.length co48 : Value).ownBlock∧some k_≠(v688 : Value).ownBlock∧some k_≠(v691 : Value).ownBlock∧some k_≠(v694 : Value).ownBlock∧k_≠gb662) (.slice Ao45 t667.length co45) t667):=⟨h4_⟩
          have n5_ : Az (w53.heap[gb662]? = some (.cells #[.bool a0_0,.int .i64 a0_1,.int .i64 a0_2,.int .i64 a0_3,.int .i64 a0_4,.slice A0_5 l0_5.length c0_5] 29 (0,0))):=⟨h5_⟩
          have n6_ : Az (Below w.heap.size w w53):=⟨h6_⟩
          clear HO_8
          clear HO687
          clear HO689
          clear BK662
          clear HB
          clear h0_ h1_ h2_ h3_ h4_ h5_ h6_
          have HO687:=n0_
          have HO689:=n1_
          have HO692:=n2_
          have HO695:=n3_
          have HO_8:=n4_
          have BK662:=n5_
          have HB:=n6_
          clear n0_ n1_ n2_ n3_ n4_ n5_ n6_
          have hHeld : w53.cell? ⟨gb662,0,none⟩ = some (.bool a0_0)∧w53.cell? ⟨gb662,1,none⟩ = some (.int .i64 a0_1)∧w53.cell? ⟨gb662,2,none⟩ = some (.int .i64 a0_2)∧w53.cell? ⟨gb662,3,none⟩ = some (.int .i64 a0_3)∧w53.cell? ⟨gb662,4,none⟩ = some (.int .i64 a0_4)∧w53.cell? ⟨gb662,5,none⟩ = some (.slice A0_5 l0_5.length c0_5):=hS_
          obtain ⟨Ao54,co54,eo54⟩:=Kd.R_slice HO692.out
          (first | subst eo54 | (injection eo54 with f1_ f2_ f3_;have f4_:=f1_.symm;have f5_:=f3_.symm;clear f1_ f2_ f3_;subst f4_;subst f5_))
          obtain ⟨Ao55,co55,eo55⟩:=Kd.R_slice HO695.out
          (first | subst eo55 | (injection eo55 with f1_ f2_ f3_;have f4_:=f1_.symm;have f5_:=f3_.symm;clear f1_ f2_ f3_;subst f4_;subst f5_))
          refine norm_ (a':=?_) ?_ ?_
          rotate_left
          ·
           simp only [putAll,Act.put,List.setIfInBounds_toArray,List.set_cons_zero,List.set_cons_succ]
           rfl
          refine one_ (i:=9) (N:=some 112) #[true,true,true,true,true,true,true,true,true,true,false,false,false,false,false] rfl rfl (one_of HT_.out (by kernel_rfl)) (by decide) (fun K hK=>?_)
          refine goes_ Tryd.func31 (by kernel_rfl) rfl #[.slice Ao45 t667.length co45,.int .i64 a2,.agg #[.bool a0_0,.int .i64 a0_1,.int .i64 a0_2,.int .i64 a0_3,.int .i64 a0_4,.slice A0_5 l0_5.length c0_5],.slice Ao54 y690.length co54,.slice Ao55 y693.length co55] (by rfl) rfl rfl (by (try simp only [List.map_toArray,List.map_cons,List.map_nil]);first | done | rfl | (simp only [List.length_drop,List.length_take];rfl)) ?_
          with_reducible refine (tree_Merge.calls (hrG:=?sideG) k1 _ _ t667 a2 a0_0 a0_1 a0_2 a0_3 a0_4 (fun k_=>k_ < w.heap.size) _ _ l0_5 _ _ y690 _ _ y693 t696 t699 _ ?side1 ?side2 ?side3 ?side4 ?side5 ?side6 ?side7 A41.out).mono ?_
          (case sideG=>(first | (with_reducible exact HRG.out) | exact TabG.below HRG.out (by repeat (first | (with_reducible first | exact HB.out | apply bwA | apply bwN | apply bw1 | refine bwS ?_ GE662.out) | (with_reducible exact Below.refl _ _)))))
          (case side1=>exact C_mv ((Kd.N_reads' HO_8.out).2.2))
          (case side2=>exact (Kd.N_reads' HO_8.out).2.1)
          (case side3=>exact Kd.V_mk HC0_5.out (Kd.F_below (Kd.C_F (Kd.heap_int .i64) HR0_5.out) (by repeat (with_reducible first | exact bmv HB.out | refine bwS ?_ GE662.out))))
          (case side4=>exact C_mv ((Kd.R_reads' HO692.out).2.2))
          (case side5=>exact (Kd.R_reads' HO692.out).2.1)
          (case side6=>exact C_mv ((Kd.R_reads' HO695.out).2.2))
          (case side7=>exact (Kd.R_reads' HO695.out).2.1)
          rintro e w56 ⟨v697,rfl,ho0,hb⟩
          refine ⟨_,rfl,?_⟩
          have ho0:=Kd.S_N (Kd.S_mono (ok':=fun k_=>(fun k_=>k_ < w.heap.size) k_∨_) ho0 (fun k_ h_=>Or.inr h_))
          have n0_:=Az.mk (Kd.N_elder' (N_mv HO_8.out) (Kd.N_base ho0) hb)
          have n1_:=Az.mk (Kd.R_below (R_mv HO687.out) hb)
          have n2_:=Az.mk (Kd.R_below (R_mv HO689.out) hb)
          have n3_:=Az.mk (Kd.R_below (R_mv HO692.out) hb)
          have n4_:=Az.mk (Kd.R_below (R_mv HO695.out) hb)
          have n5_:=Az.mk (Kd.N_lower (Kd.N_mono (ok':=fun k_=>some k_≠(.slice Ao45 t667.length co45 : Value).ownBlock∧some k_≠(.slice Ao48 t684.length co48 : Value).ownBlock∧some k_≠(v688 : Value).ownBlock∧some k_≠(.slice Ao54 y690.length co54 : Value).ownBlock∧some k_≠(.slice Ao55 y693.length co55 : Value).ownBlock∧k_≠gb662) ho0 (fun k_ hk_=>⟨Or.elim hk_ (fun hs_=>fun e_=>Nat.not_le.2 hs_ (Kd.N_base HO_8.out k_ e_.symm)) (fun hn_=>(Kd.fresh' (Kd.N_lt (N_mv HO_8.out)) k_ hn_)),Or.elim hk_ (fun hs_=>fun e_=>Nat.not_le.2 hs_ (Kd.R_base HO687.out k_ e_.symm)) (fun hn_=>(Kd.fresh' (Kd.R_lt (R_mv HO687.out)) k_ hn_)),Or.elim hk_ (fun hs_=>fun e_=>Nat.not_le.2 hs_ (Kd.R_base HO689.out k_ e_.symm)) (fun hn_=>(Kd.fresh' (Kd.R_lt (R_mv HO689.out)) k_ hn_)),Or.elim hk_ (fun hs_=>fun e_=>Nat.not_le.2 hs_ (Kd.R_base HO692.out k_ e_.symm)) (fun hn_=>(Kd.fresh' (Kd.R_lt (R_mv HO692.out)) k_ hn_)),Or.elim hk_ (fun hs_=>fun e_=>Nat.not_le.2 hs_ (Kd.R_base HO695.out k_ e_.symm)) (fun hn_=>(Kd.fresh' (Kd.R_lt (R_mv HO695.out)) k_ hn_)),Or.elim hk_ (fun hs_=>fun e_=>Nat.not_le.2 hs_ (by rw [e_];exact GW662.out)) (fun hn_=>(Kd.freshB (g:=gb662) (o:=.cells #[.bool a0_0,.int .i64 a0_1,.int .i64 a0_2,.int .i64 a0_3,.int .i64 a0_4,.slice A0_5 l0_5.length c0_5] 29 (0,0)) (blk_mv BK662.out) k_ hn_))⟩)) (bwZ (by repeat (with_reducible first | exact bmv HB.out | refine bwS ?_ GE662.out))))
          have n6_:=Az.mk (kB (g:=gb662) (o:=.cells #[.bool a0_0,.int .i64 a0_1,.int .i64 a0_2,.int .i64 a0_3,.int .i64 a0_4,.slice A0_5 l0_5.length c0_5] 29 (0,0)) (blk_mv BK662.out) hb)
          have n7_:=Az.mk (bwT (by repeat (with_reducible first | exact bmv HB.out | refine bwS ?_ GE662.out)) hb)
          clear HO_8
          clear HO687
          clear HO689
          clear HO692
          clear HO695
          clear BK662
          clear HB
          have HO_8:=n0_
          have HO687:=n1_
          have HO689:=n2_
          have HO692:=n3_
          have HO695:=n4_
          have HO698:=n5_
          have BK662:=n6_
          have HB:=n7_
          clear n0_ n1_ n2_ n3_ n4_ n5_ n6_ n7_
          (try clear hb)
          (try clear hb2)
          (try clear hk)
          (try clear hi)
          (try clear ho0)
          refine hK.out _ _ ⟨(kC BK662.out 0).trans rfl,(kC BK662.out 1).trans rfl,(kC BK662.out 2).trans rfl,(kC BK662.out 3).trans rfl,(kC BK662.out 4).trans rfl,(kC BK662.out 5).trans rfl⟩ (fun hHeld=>?_)
          clear hK K
          refine norm_ (a':=?_) ?_ ?_
          rotate_left
          ·
           show Act.put _ (some 112) _ = _
           simp only [Act.put,List.setIfInBounds_toArray,List.set_cons_zero,List.set_cons_succ,i64_w,i32_w]
           rfl
          refine pure_ (i:=10) (N:=some 102) (v:=?_) (a':=?_) #[true,true,true,true,true,true,true,true,true,true,true,false,false,false,false] rfl rfl (any_of HT_.out (by kernel_rfl)) (fun _ _ _ h=>h) (Or.inl ⟨by rfl,?_⟩) ?_ ?_
          rotate_left;(intro w';go_simp;with_reducible rfl);rotate_left;(simp only [Act.put,List.setIfInBounds_toArray,List.set_cons_zero,List.set_cons_succ,i64_w,i32_w];rfl)
          refine pure_ (i:=11) (N:=some 113) (v:=?_) (a':=?_) #[true,true,true,true,true,true,true,true,true,true,true,true,false,false,false] rfl rfl (any_of HT_.out (by kernel_rfl)) (fun _ _ _ h=>h) (Or.inl ⟨by rfl,?_⟩) ?_ ?_
          rotate_left;(intro w';go_simp;with_reducible rfl);rotate_left;(simp only [Act.put,List.setIfInBounds_toArray,List.set_cons_zero,List.set_cons_succ,i64_w,i32_w];rfl)
          refine pure_ (i:=12) (N:=some 114) (v:=?_) (a':=?_) #[true,true,true,true,true,true,true,true,true,true,true,true,true,false,false] rfl rfl (any_of HT_.out (by kernel_rfl)) (fun _ _ _ h=>h) (Or.inl ⟨by rfl,?_⟩) ?_ ?_
          rotate_left;(intro w';go_simp;with_reducible rfl);rotate_left;(simp only [Act.put,List.setIfInBounds_toArray,List.set_cons_zero,List.set_cons_succ,i64_w,i32_w];rfl)
          refine pure_ (i:=13) (N:=some 20) (v:=?_) (a':=?_) #[true,true,true,true,true,true,true,true,true,true,true,true,true,true,false] rfl rfl (any_of HT_.out (by kernel_rfl)) (fun _ _ _ h=>h) (Or.inl ⟨by rfl,?_⟩) ?_ ?_
          rotate_left;(intro w';go_simp;with_reducible rfl);rotate_left;(simp only [Act.put,List.setIfInBounds_toArray,List.set_cons_zero,List.set_cons_succ,i64_w,i32_w];rfl)
          refine pure_ (i:=14) (N:=some 21) (v:=?_) (a':=?_) #[true,true,true,true,true,true,true,true,true,true,true,true,true,true,true] rfl rfl (any_of HT_.out (by kernel_rfl)) (fun _ _ _ h=>h) (Or.inl ⟨by rfl,?_⟩) ?_ ?_
          rotate_left;(intro w';go_simp;with_reducible rfl);rotate_left;(simp only [Act.put,List.setIfInBounds_toArray,List.set_cons_zero,List.set_cons_succ,i64_w,i32_w];rfl)
          refine done_ (done_of HT_.out (by kernel_rfl)) ?_
          obtain ⟨Ao57,co57,eo57⟩:=Kd.N_slice HO698.out
          subst eo57
          try go_wp2_with (first | ((with_reducible refine gate_callee (f:=21) rfl ?_);refine goesL_ (some 120) rfl rfl Tryd.func21 (by kernel_rfl) rfl #[.slice Ao57 t696.length co57] rfl (by (try simp only [List.map_toArray,List.map_cons,List.map_nil]);first | done | rfl | (simp only [List.length_drop,List.length_take];rfl)) ?_;(with_reducible refine (r4Leaves.calls _ _ t696 t700 _ ?side1 ?side2 A43.out).mono ?_);(case side1=>exact C_mv ((Kd.N_reads' HO698.out).2.2));(case side2=>exact (Kd.N_reads' HO698.out).2.1);rintro e w' ⟨rfl,⟨nd,rfl⟩⟩;refine ⟨_,rfl,?_⟩) | ((with_reducible refine gate_callee (f:=30) rfl ?_);refine goesL_ (some 121) rfl rfl Tryd.func30 (by kernel_rfl) rfl #[.int .i64 (wrap64 (2 * a2)),.int .i64 t700] rfl (by (try simp only [List.map_toArray,List.map_cons,List.map_nil]);first | done | rfl | (simp only [List.length_drop,List.length_take];rfl)) ?_;(with_reducible refine (w4upward.calls k1 (wrap64 (2 * a2)) t700 t701 _ A44.out).mono ?_);rintro e w58 ⟨v702,rfl,ho0,hb⟩;refine ⟨_,rfl,?_⟩;have n0_:=Az.mk (Kd.N_elder' (N_mv HO_8.out) (Kd.R_base ho0) hb);have n1_:=Az.mk (Kd.R_elder' (R_mv HO687.out) (Kd.R_base ho0) hb);have n2_:=Az.mk (Kd.R_elder' (R_mv HO689.out) (Kd.R_base ho0) hb);have n3_:=Az.mk (Kd.R_elder' (R_mv HO692.out) (Kd.R_base ho0) hb);have n4_:=Az.mk (Kd.R_elder' (R_mv HO695.out) (Kd.R_base ho0) hb);have n5_:=Az.mk (Kd.N_elder' (N_mv HO698.out) (Kd.R_base ho0) hb);have n6_:=Az.mk (Kd.R_lower (Kd.R_new' (Kd.R_new' (Kd.R_new' (Kd.R_new' ho0 (Kd.R_lt (R_mv HO687.out))) (Kd.R_lt (R_mv HO689.out))) (Kd.R_lt (R_mv HO692.out))) (Kd.R_lt (R_mv HO695.out))) (bwZ (by repeat (with_reducible first |exact bmv HB.out |refine bwS ?_ GE662.out))));have n7_:=Az.mk (kB (g:=gb662) (o:=.cells #[.bool a0_0,.int .i64 a0_1,.int .i64 a0_2,.int .i64 a0_3,.int .i64 a0_4,.slice A0_5 l0_5.length c0_5] 29 (0,0)) (blk_mv BK662.out) hb);have n8_:=Az.mk (bwT (by repeat (with_reducible first |exact bmv HB.out |refine bwS ?_ GE662.out)) hb);clear HO_8;clear HO687;clear HO689;clear HO692;clear HO695;clear HO698;clear BK662;clear HB;have HO_8:=n0_;have HO687:=n1_;have HO689:=n2_;have HO692:=n3_;have HO695:=n4_;have HO698:=n5_;have HO703:=n6_;have BK662:=n7_;have HB:=n8_;clear n0_ n1_ n2_ n3_ n4_ n5_ n6_ n7_ n8_;(try clear hb);(try clear hb2);(try clear hk);(try clear hi);(try clear ho0);obtain ⟨Ao59,co59,eo59⟩:=Kd.R_slice HO703.out;subst eo59))
          go_loopg [123] k1 (fun kq v123 w'=>∃ (x123_2 : Int),v123 = .int .i64 x123_2∧Az (w4TreeLate.l3 kq t696 t701 (t701.length : Int) x123_2 = some r)∧Az (kq≤k1)∧Az (Kd.N k29 29 w' w.heap.size (fun k_=>some k_≠((.slice Ao59 t701.length co59) : Value).ownBlock∧k_≠gb662) (.slice Ao57 t696.length co57) t696)∧Az (Kd.R (Kd.int .i64) 3 w' w.heap.size (fun _=>True) (.slice Ao59 t701.length co59) t701)∧Az (w'.heap[gb662]? = some (.cells #[.bool a0_0,.int .i64 a0_1,.int .i64 a0_2,.int .i64 a0_3,.int .i64 a0_4,(.slice A0_5 l0_5.length c0_5)] 29 (0,0)))∧Az (Below w.heap.size w w'))
          case atStart=>exact ⟨(0),(by first | rfl | (simp;done) | (simp [*];done)),H',⟨Nat.le_refl _⟩,⟨N_mv (Kd.N_mono HO698.out (fun _ hk=>⟨hk.2,hk.1.2.2.2.2.2⟩))⟩,⟨R_mv (Kd.R_mono HO703.out (fun _ hk=>trivial))⟩,⟨blk_mv BK662.out⟩,⟨by repeat (with_reducible first | exact bmv HB.out | refine bwS ?_ GE662.out)⟩⟩
          case round=>
           clear H'
           try clear c1
           try clear c16
           try clear c16b0
           try clear c17
           try clear c21
           try clear c22
           try clear c27
           try clear c27b0
           try clear c28
           try clear c28b0
           try clear c29
           try clear c29b0
           try clear c30
           try clear c31
           try clear c32
           try clear c32b0
           try clear c33
           try clear c33b0
           try clear c34
           try clear c34b0
           try clear c34b1
           try clear c34b2
           try clear c35
           try clear c35b0
           try clear c35b1
           try clear c35b2
           try clear c37
           try clear c39
           try clear c39b0
           try clear c39b1
           try clear c40
           try clear c40b0
           try clear c40b1
           try clear c42
           try clear c42b0
           try clear c42b1
           try clear hcz13_5
           try clear hfz11_0
           try clear hfz11_1
           try clear hfz11_2
           try clear hfz11_3
           try clear hfz11_4
           try clear hfz11_5
           try clear hfz13_0
           try clear hfz13_1
           try clear hfz13_2
           try clear hfz13_3
           try clear hfz13_4
           try clear hfz13_5
           try clear hx675_0
           try clear hx675_1
           try clear hx675_2
           try clear hx675_3
           try clear hx675_4
           try clear hx675_5
           try clear hx676_0
           try clear hx681_0
           try clear hx682_0
           try clear hx682_1
           try clear hx682_2
           try clear hx682_3
           try clear hx682_4
           try clear hx682_5
           try clear p675
           try clear p676
           try clear p681
           try clear p682
           try clear q675
           try clear q676
           try clear q681
           try clear q682
           obtain ⟨x123_2,rfl,HA,HK2,HO_20,HO_121,BK662,HB⟩:=hrel
           cases gk with
           | zero=>exact absurd HA.out (by simp [w4TreeLate.l3])
           | succ k2=>
            have H:=HA.out
            clear HA
            simp only [w4TreeLate.l3] at H
            by_cases c60 : x123_2 < (t701.length : Int)
            ·
             rw [if_pos c60] at H
             have c60b0 : decide (x123_2 < (t701.length : Int)) = true:=decide_eq_true c60
             clear c60
             by_cases c61 : 0≤x123_2
             ·
              rw [if_pos c61] at H
              have c61b0 : decide (0≤x123_2) = true:=decide_eq_true c61
              clear c61
              by_cases c62 : x123_2 < (t701.length : Int)
              ·
               rw [if_pos c62] at H
               have c62b0 : decide (x123_2 < (t701.length : Int)) = true:=decide_eq_true c62
               clear c62
               by_cases c63 : 0≤(rd t701 x123_2)
               ·
                rw [if_pos c63] at H
                have c63b0 : decide (0≤(rd t701 x123_2)) = true:=decide_eq_true c63
                clear c63
                by_cases c64 : (rd t701 x123_2) < (t696.length : Int)
                ·
                 rw [if_pos c64] at H
                 have c64b0 : decide ((rd t701 x123_2) < (t696.length : Int)) = true:=decide_eq_true c64
                 clear c64
                 by_cases c65 : (((rd_T29 t696 (rd t701 x123_2)).f5).length : Int) = 0
                 ·
                  rw [if_pos c65] at H
                  have c65b0 : ((((rd_T29 t696 (rd t701 x123_2)).f5).length : Int) == 0) = true:=beq_iff_eq.mpr c65
                  have c65b1 : ((((rd_T29 t696 (rd t701 x123_2)).f5).length : Int) != 0) = false:=bne_eq_false_iff_eq.mpr c65
                  clear c65
                  have H':=Az.mk H
                  clear H
                  have p704 : 0≤(x123_2 : Int):=of_decide_eq_true (by first | (with_reducible assumption) | assumption)
                  have q704 : x123_2 < (t701.length : Int):=of_decide_eq_true (by first | (with_reducible assumption) | assumption)
                  obtain ⟨ad704,e704,hx704_0⟩:=Kd.at_int (Kd.R_reads' HO_121.out).2.2 x123_2 p704 q704
                  cases e704
                  replace p704:=eq_true p704
                  replace q704:=eq_true q704
                  have p705 : 0≤((rd t701 x123_2) : Int):=of_decide_eq_true (by first | (with_reducible assumption) | assumption)
                  have q705 : (rd t701 x123_2) < (t696.length : Int):=of_decide_eq_true (by first | (with_reducible assumption) | assumption)
                  obtain ⟨ad705,A705_5,c705_5,e705,hx705_0,hx705_1,hx705_2,hx705_3,hx705_4,hx705_5,hl705_5,hi705_5⟩:=at_T29 (Kd.N_reads' HO_20.out).2.2 (rd t701 x123_2) p705 q705
                  cases e705
                  obtain ⟨ce705,hce705,hMe705,hcc705⟩:=Kd.N_get HO_20.out z29 (rd t701 x123_2) p705 (by first | exact q705 | exact of_decide_eq_true (by first | (with_reducible assumption) | assumption) | (have e_:=(Kd.N_reads' HO_20.out).1;omega))
                  obtain ⟨ua705_5,uc705_5,rfl,ul705_5,ge705_5⟩:=k29_openF hMe705
                  have hv705_5:=hcc705 5 _ rfl
                  rw [add_field _ _ 5 (by omega)] at hv705_5
                  replace hv705_5:=Option.some.inj (hv705_5.symm.trans hx705_5)
                  injection hv705_5 with hva_ hvn_ hvc_
                  rw [hva_] at ge705_5
                  rw [hvc_] at ul705_5
                  have HL705_5:=Az.mk (show Kd.V (Kd.int .i64) 3 _ w.heap.size _ _ ((rd_T29 t696 (rd t701 x123_2)).f5) from Kd.V_mk ul705_5 ge705_5)
                  clear hva_ hvn_ hvc_ ge705_5 ul705_5
                  clear hcc705 hce705
                  have HR705_5:=Az.mk hi705_5
                  have HC705_5:=Az.mk hl705_5
                  clear hi705_5 hl705_5
                  replace p705:=eq_true p705
                  replace q705:=eq_true q705
                  go_wp2
                  go_roundg k2
                  case measure=>have:=HK1.out;have:=HK2.out;omega
                  case rel=>exact ⟨(wrap64 (x123_2 + 1)),(by first | rfl | (simp;done) | (simp [*];done)),H',⟨by have:=HK1.out;have:=HK2.out;omega⟩,⟨N_mv HO_20.out⟩,⟨R_mv HO_121.out⟩,⟨blk_mv BK662.out⟩,⟨by repeat (with_reducible first | exact bmv HB.out | refine bwS ?_ GE662.out)⟩⟩
                 ·
                  rw [if_neg c65] at H
                  have c65b0 : ((((rd_T29 t696 (rd t701 x123_2)).f5).length : Int) == 0) = false:=beq_eq_false_iff_ne.mpr c65
                  have c65b1 : ((((rd_T29 t696 (rd t701 x123_2)).f5).length : Int) != 0) = true:=bne_iff_ne.mpr c65
                  have c65b2 : ¬ (((rd_T29 t696 (rd t701 x123_2)).f5) = []):=fun h_=>c65 (by rw [h_];rfl)
                  obtain rfl:=Option.some.inj H
                  try exact absurd hr Bool.false_ne_true
                  all_goals
                   have p704 : 0≤(x123_2 : Int):=of_decide_eq_true (by first | (with_reducible assumption) | assumption)
                   have q704 : x123_2 < (t701.length : Int):=of_decide_eq_true (by first | (with_reducible assumption) | assumption)
                   obtain ⟨ad704,e704,hx704_0⟩:=Kd.at_int (Kd.R_reads' HO_121.out).2.2 x123_2 p704 q704
                   cases e704
                   replace p704:=eq_true p704
                   replace q704:=eq_true q704
                   have p705 : 0≤((rd t701 x123_2) : Int):=of_decide_eq_true (by first | (with_reducible assumption) | assumption)
                   have q705 : (rd t701 x123_2) < (t696.length : Int):=of_decide_eq_true (by first | (with_reducible assumption) | assumption)
                   obtain ⟨ad705,A705_5,c705_5,e705,hx705_0,hx705_1,hx705_2,hx705_3,hx705_4,hx705_5,hl705_5,hi705_5⟩:=at_T29 (Kd.N_reads' HO_20.out).2.2 (rd t701 x123_2) p705 q705
                   cases e705
                   obtain ⟨ce705,hce705,hMe705,hcc705⟩:=Kd.N_get HO_20.out z29 (rd t701 x123_2) p705 (by first | exact q705 | exact of_decide_eq_true (by first | (with_reducible assumption) | assumption) | (have e_:=(Kd.N_reads' HO_20.out).1;omega))
                   obtain ⟨ua705_5,uc705_5,rfl,ul705_5,ge705_5⟩:=k29_openF hMe705
                   have hv705_5:=hcc705 5 _ rfl
                   rw [add_field _ _ 5 (by omega)] at hv705_5
                   replace hv705_5:=Option.some.inj (hv705_5.symm.trans hx705_5)
                   injection hv705_5 with hva_ hvn_ hvc_
                   rw [hva_] at ge705_5
                   rw [hvc_] at ul705_5
                   have HL705_5:=Az.mk (show Kd.V (Kd.int .i64) 3 _ w.heap.size _ _ ((rd_T29 t696 (rd t701 x123_2)).f5) from Kd.V_mk ul705_5 ge705_5)
                   clear hva_ hvn_ hvc_ ge705_5 ul705_5
                   clear hcc705 hce705
                   have HR705_5:=Az.mk hi705_5
                   have HC705_5:=Az.mk hl705_5
                   clear hi705_5 hl705_5
                   replace p705:=eq_true p705
                   replace q705:=eq_true q705
                   go_wp2
                   go_ret
                   exact ⟨by first | rfl | (simp [errW_none,errW_some] <;> rfl) | (simp [*,errW_none,errW_some] <;> rfl),by repeat (with_reducible first | exact bmv HB.out | refine bwS ?_ GE662.out)⟩
                ·
                 rw [if_neg c64] at H
                 exact absurd H (by simp)
               ·
                rw [if_neg c63] at H
                exact absurd H (by simp)
              ·
               rw [if_neg c62] at H
               exact absurd H (by simp)
             ·
              rw [if_neg c61] at H
              exact absurd H (by simp)
            ·
             rw [if_neg c60] at H
             have c60b0 : decide (x123_2 < (t701.length : Int)) = false:=decide_eq_false c60
             clear c60
             obtain rfl:=Option.some.inj H
             try exact absurd hr Bool.false_ne_true
             all_goals
              go_wp2
              go_ret
              exact ⟨by first | rfl | (simp [errW_none,errW_some] <;> rfl) | (simp [*,errW_none,errW_some] <;> rfl),by repeat (with_reducible first | exact bmv HB.out | refine bwS ?_ GE662.out)⟩
         ·
          rw [if_neg c42] at H
          first | exact absurd ((Option.some.inj H).trans hr) Bool.false_ne_true | cases H
        ·
         rw [if_neg c40] at H
         exact absurd H (by simp)
       ·
        rw [if_neg c39] at H
        exact absurd H (by simp)
      ·
       replace c37:=Bool.eq_false_iff.mpr c37
       subst c37
       have H1 : (some true) = some r:=by rw [if_neg (show ¬ (false = true) by decide)] at H;exact H
       clear H
       have H:=H1
       clear H1
       obtain rfl:=Option.some.inj H
       try exact absurd hr Bool.false_ne_true
       all_goals
        obtain ⟨Ao78,co78,eo78⟩:=Kd.N_slice HO_8.out
        subst eo78
        go_wp2_with (first | ((with_reducible refine gate_callee (f:=22) rfl ?_);refine goesL_ (some 94) rfl rfl Tryd.func22 (by kernel_rfl) rfl #[.slice Ao78 t667.length co78,.int .i64 a2] rfl (by (try simp only [List.map_toArray,List.map_cons,List.map_nil]);first | done | rfl | (simp only [List.length_drop,List.length_take];rfl)) ?_;(with_reducible refine (r4Full.calls _ _ t667 a2 false _ ?side1 ?side2 A36.out).mono ?_);(case side1=>exact C_mv ((Kd.N_reads' HO_8.out).2.2));(case side2=>exact (Kd.N_reads' HO_8.out).2.1);rintro e w' ⟨rfl,⟨nd,rfl⟩⟩;refine ⟨_,rfl,?_⟩))
        go_ret
        exact ⟨by first | rfl | (simp [errW_none,errW_some] <;> rfl) | (simp [*,errW_none,errW_some] <;> rfl),by repeat (with_reducible first | exact bmv HB.out | refine bwS ?_ GE662.out)⟩
  ·
   rw [if_neg c8] at H
   have c8b0 : (t671 == 0) = false:=beq_eq_false_iff_ne.mpr c8
   have c8b1 : (t671 != 0) = true:=bne_iff_ne.mpr c8
   replace H:=Option.bind_eq_some_iff.mp H
   obtain ⟨t672,A790,H⟩:=H
   replace H : (some ((t672.length : Int) == 32)) = some r:=H
   have A79:=Az.mk A790
   clear A790
   obtain rfl:=Option.some.inj H
   try exact absurd hr Bool.false_ne_true
   all_goals
    go_enter Tryd.func7,Tryd.ntmps7
    go_wp2_with (first | ((with_reducible refine gate_dst (N:=3) rfl ?_);refine box_event ?hg (N:=3) ?hd (cs:=#[.bool a0_0,.int .i64 a0_1,.int .i64 a0_2,.int .i64 a0_3,.int .i64 a0_4,.slice A0_5 l0_5.length c0_5]) (t:=29) ?hr ?_;(case hd=>rfl);(case hg=>rfl);(case hr=>first | (go_simp;done) | (go_simp;rfl));intro gb662 hg w80 hbox hb;have n0_:=Az.mk (bwT (bmv HB.out) hb);have n1_:=Az.mk (hbox);have n2_:=Az.mk ((by rw [hg];exact (bwZ (bmv HB.out)) : w.heap.size≤gb662));have n3_:=Az.mk ((by rw [hg];exact (bwZ (bmv HB.out)) : w.heap.size≤gb662));clear HB;have HB:=n0_;have BK662:=n1_;have GW662:=n2_;have GE662:=n3_;clear n0_ n1_ n2_ n3_;clear hb hbox hg) | ((with_reducible refine gate_callee (f:=13) rfl ?_);refine goesL_ (some 24) rfl rfl Tryd.func13 (by kernel_rfl) rfl #[] rfl (by (try simp only [List.map_toArray,List.map_cons,List.map_nil]);first | done | rfl | (simp only [List.length_drop,List.length_take];rfl)) ?_;(with_reducible refine (w4anchor.calls (hrG:=?sideG) k  true _ A4.out).mono ?_);(case sideG=>(first | (with_reducible exact HRG.out) |exact TabG.below HRG.out (by repeat (first | (with_reducible first |exact HB.out |apply bwA |apply bwN |apply bw1 |refine bwS ?_ GE662.out) | (with_reducible exact Below.refl _ _)))));rintro e w81 ⟨rfl,hb⟩;refine ⟨_,rfl,?_⟩;have n0_:=Az.mk (kB (g:=gb662) (o:=.cells #[.bool a0_0,.int .i64 a0_1,.int .i64 a0_2,.int .i64 a0_3,.int .i64 a0_4,.slice A0_5 l0_5.length c0_5] 29 (0,0)) (blk_mv BK662.out) hb);have n1_:=Az.mk (bwT (by repeat (with_reducible first |exact bmv HB.out |refine bwS ?_ GE662.out)) hb);clear BK662;clear HB;have BK662:=n0_;have HB:=n1_;clear n0_ n1_;(try clear hb);(try clear hb2);(try clear hk);(try clear hi);obtain ⟨⟨hcz82_0,hcz82_1,hcz82_2,hcz82_3,hcz82_4,hcz82_5⟩,hfz82_0,hfz82_1,hfz82_2,hfz82_3,hfz82_4,hfz82_5⟩:=cells6 BK662.out) | ((with_reducible refine gate_callee (f:=18) rfl ?_);refine goesL_ (some 28) rfl rfl Tryd.func18 (by kernel_rfl) rfl #[.agg #[.bool a0_0,.int .i64 a0_1,.int .i64 a0_2,.int .i64 a0_3,.int .i64 a0_4,.slice A0_5 l0_5.length c0_5],.slice A1 l1.length c1] rfl (by (try simp only [List.map_toArray,List.map_cons,List.map_nil]);first | done | rfl | (simp only [List.length_drop,List.length_take];rfl)) ?_;(with_reducible refine (w4grown.calls k a0_0 a0_1 a0_2 a0_3 a0_4 _ _ l0_5 (fun k_=>k_ < w.heap.size) _ _ l1 t664 _ ?side1 ?side2 ?side3 A6.out).mono ?_);(case side1=>exact C_mv ((Kd.C_below HR0_5.out HB.out)));(case side2=>exact HC0_5.out);(case side3=>exact Kd.V_mk HC1.out (Kd.F_below (Kd.C_F k32_heap HR1.out) (by repeat (with_reducible first |exact bmv HB.out |refine bwS ?_ GE662.out))));rintro e w83 ⟨v665,rfl,ho0,hb⟩;refine ⟨_,rfl,?_⟩;have n0_:=Az.mk (Kd.N_lower (Kd.N_mono (ok':=fun k_=>k_≠gb662) ho0 (fun k_ hk_=>Or.elim hk_ (fun hs_=>fun e_=>Nat.not_le.2 hs_ (by rw [e_];exact GW662.out)) (fun hn_=>(Kd.freshB (g:=gb662) (o:=.cells #[.bool a0_0,.int .i64 a0_1,.int .i64 a0_2,.int .i64 a0_3,.int .i64 a0_4,.slice A0_5 l0_5.length c0_5] 29 (0,0)) (blk_mv BK662.out) k_ hn_)))) (bwZ (by repeat (with_reducible first |exact bmv HB.out |refine bwS ?_ GE662.out))));have n1_:=Az.mk (kB (g:=gb662) (o:=.cells #[.bool a0_0,.int .i64 a0_1,.int .i64 a0_2,.int .i64 a0_3,.int .i64 a0_4,.slice A0_5 l0_5.length c0_5] 29 (0,0)) (blk_mv BK662.out) hb);have n2_:=Az.mk (bwT (by repeat (with_reducible first |exact bmv HB.out |refine bwS ?_ GE662.out)) hb);clear BK662;clear HB;have HO666:=n0_;have BK662:=n1_;have HB:=n2_;clear n0_ n1_ n2_;(try clear hb);(try clear hb2);(try clear hk);(try clear hi);(try clear ho0);obtain ⟨⟨hcz84_0,hcz84_1,hcz84_2,hcz84_3,hcz84_4,hcz84_5⟩,hfz84_0,hfz84_1,hfz84_2,hfz84_3,hfz84_4,hfz84_5⟩:=cells6 BK662.out;obtain ⟨Ao85,co85,eo85⟩:=Kd.N_slice HO666.out;subst eo85) | ((with_reducible refine gate_callee (f:=19) rfl ?_);refine goesL_ (some 32) rfl rfl Tryd.func19 (by kernel_rfl) rfl #[.slice Ao85 t664.length co85,.agg #[.bool a0_0,.int .i64 a0_1,.int .i64 a0_2,.int .i64 a0_3,.int .i64 a0_4,.slice A0_5 l0_5.length c0_5]] rfl (by (try simp only [List.map_toArray,List.map_cons,List.map_nil]);first | done | rfl | (simp only [List.length_drop,List.length_take];rfl)) ?_;(with_reducible refine (tree_Add.calls (hrG:=?sideG) k _ _ t664 a0_0 a0_1 a0_2 a0_3 a0_4 (fun k_=>k_ < w.heap.size) _ _ l0_5 t667 t670 t671 _ ?side1 ?side2 ?side3 A7.out).mono ?_);(case sideG=>(first | (with_reducible exact HRG.out) |exact TabG.below HRG.out (by repeat (first | (with_reducible first |exact HB.out |apply bwA |apply bwN |apply bw1 |refine bwS ?_ GE662.out) | (with_reducible exact Below.refl _ _)))));(case side1=>exact C_mv ((Kd.N_reads' HO666.out).2.2));(case side2=>exact (Kd.N_reads' HO666.out).2.1);(case side3=>exact Kd.V_mk HC0_5.out (Kd.F_below (Kd.C_F (Kd.heap_int .i64) HR0_5.out) (by repeat (with_reducible first |exact bmv HB.out |refine bwS ?_ GE662.out))));rintro e w86 ⟨v668,rfl,ho0,hb⟩;refine ⟨_,rfl,?_⟩;have ho0:=Kd.S_N (Kd.S_mono (ok':=fun k_=>(fun k_=>k_ < w.heap.size) k_∨_) ho0 (fun k_ h_=>Or.inr h_));have n0_:=Az.mk (Kd.N_elder' (N_mv HO666.out) (Kd.N_base ho0) hb);have n1_:=Az.mk (Kd.N_lower (Kd.N_mono (ok':=fun k_=>some k_≠(.slice Ao85 t664.length co85 : Value).ownBlock∧k_≠gb662) ho0 (fun k_ hk_=>⟨Or.elim hk_ (fun hs_=>fun e_=>Nat.not_le.2 hs_ (Kd.N_base HO666.out k_ e_.symm)) (fun hn_=>(Kd.fresh' (Kd.N_lt (N_mv HO666.out)) k_ hn_)),Or.elim hk_ (fun hs_=>fun e_=>Nat.not_le.2 hs_ (by rw [e_];exact GW662.out)) (fun hn_=>(Kd.freshB (g:=gb662) (o:=.cells #[.bool a0_0,.int .i64 a0_1,.int .i64 a0_2,.int .i64 a0_3,.int .i64 a0_4,.slice A0_5 l0_5.length c0_5] 29 (0,0)) (blk_mv BK662.out) k_ hn_))⟩)) (bwZ (by repeat (with_reducible first |exact bmv HB.out |refine bwS ?_ GE662.out))));have n2_:=Az.mk (kB (g:=gb662) (o:=.cells #[.bool a0_0,.int .i64 a0_1,.int .i64 a0_2,.int .i64 a0_3,.int .i64 a0_4,.slice A0_5 l0_5.length c0_5] 29 (0,0)) (blk_mv BK662.out) hb);have n3_:=Az.mk (bwT (by repeat (with_reducible first |exact bmv HB.out |refine bwS ?_ GE662.out)) hb);clear HO666;clear BK662;clear HB;have HO666:=n0_;have HO669:=n1_;have BK662:=n2_;have HB:=n3_;clear n0_ n1_ n2_ n3_;(try clear hb);(try clear hb2);(try clear hk);(try clear hi);(try clear ho0)) | ((with_reducible refine gate_callee (f:=27) rfl ?_);refine goesL_ (some 39) rfl rfl Tryd.func27 (by kernel_rfl) rfl #[.slice Ao85 t664.length co85] rfl (by (try simp only [List.map_toArray,List.map_cons,List.map_nil]);first | done | rfl | (simp only [List.length_drop,List.length_take];rfl)) ?_;(with_reducible refine (r4Members.calls k _ _ t664 t672 _ ?side1 ?side2 A79.out).mono ?_);(case side1=>exact C_mv ((Kd.N_reads' HO666.out).2.2));(case side2=>exact (Kd.N_reads' HO666.out).2.1);rintro e w87 ⟨v673,rfl,ho0,hb⟩;refine ⟨_,rfl,?_⟩;have n0_:=Az.mk (Kd.N_elder' (N_mv HO666.out) (Kd.R_base ho0) hb);have n1_:=Az.mk (Kd.N_elder' (N_mv HO669.out) (Kd.R_base ho0) hb);have n2_:=Az.mk (Kd.R_lower ho0 (bwZ (by repeat (with_reducible first |exact bmv HB.out |refine bwS ?_ GE662.out))));have n3_:=Az.mk (kB (g:=gb662) (o:=.cells #[.bool a0_0,.int .i64 a0_1,.int .i64 a0_2,.int .i64 a0_3,.int .i64 a0_4,.slice A0_5 l0_5.length c0_5] 29 (0,0)) (blk_mv BK662.out) hb);have n4_:=Az.mk (bwT (by repeat (with_reducible first |exact bmv HB.out |refine bwS ?_ GE662.out)) hb);clear HO666;clear HO669;clear BK662;clear HB;have HO666:=n0_;have HO669:=n1_;have HO674:=n2_;have BK662:=n3_;have HB:=n4_;clear n0_ n1_ n2_ n3_ n4_;(try clear hb);(try clear hb2);(try clear hk);(try clear hi);(try clear ho0);obtain ⟨Ao88,co88,eo88⟩:=Kd.R_slice HO674.out;subst eo88))
    go_ret
    exact ⟨by first | rfl | (simp [errW_none,errW_some] <;> rfl) | (simp [*,errW_none,errW_some] <;> rfl),by repeat (with_reducible first | exact bmv HB.out | refine bwS ?_ GE662.out)⟩
 ·
  replace c5:=Bool.eq_false_iff.mpr c5
  subst c5
  have H1 : (some false) = some r:=by rw [if_neg (show ¬ (false = true) by decide)] at H;exact H
  clear H
  have H:=H1
  clear H1
  obtain rfl:=Option.some.inj H
  try exact absurd hr Bool.false_ne_true
  all_goals
   go_enter Tryd.func7,Tryd.ntmps7
   go_wp2_with (first | ((with_reducible refine gate_dst (N:=3) rfl ?_);refine box_event ?hg (N:=3) ?hd (cs:=#[.bool a0_0,.int .i64 a0_1,.int .i64 a0_2,.int .i64 a0_3,.int .i64 a0_4,.slice A0_5 l0_5.length c0_5]) (t:=29) ?hr ?_;(case hd=>rfl);(case hg=>rfl);(case hr=>first | (go_simp;done) | (go_simp;rfl));intro gb662 hg w89 hbox hb;have n0_:=Az.mk (bwT (bmv HB.out) hb);have n1_:=Az.mk (hbox);have n2_:=Az.mk ((by rw [hg];exact (bwZ (bmv HB.out)) : w.heap.size≤gb662));have n3_:=Az.mk ((by rw [hg];exact (bwZ (bmv HB.out)) : w.heap.size≤gb662));clear HB;have HB:=n0_;have BK662:=n1_;have GW662:=n2_;have GE662:=n3_;clear n0_ n1_ n2_ n3_;clear hb hbox hg) | ((with_reducible refine gate_callee (f:=13) rfl ?_);refine goesL_ (some 24) rfl rfl Tryd.func13 (by kernel_rfl) rfl #[] rfl (by (try simp only [List.map_toArray,List.map_cons,List.map_nil]);first | done | rfl | (simp only [List.length_drop,List.length_take];rfl)) ?_;(with_reducible refine (w4anchor.calls (hrG:=?sideG) k  false _ A4.out).mono ?_);(case sideG=>(first | (with_reducible exact HRG.out) | exact TabG.below HRG.out (by repeat (first | (with_reducible first | exact HB.out | apply bwA | apply bwN | apply bw1 | refine bwS ?_ GE662.out) | (with_reducible exact Below.refl _ _)))));rintro e w90 ⟨rfl,hb⟩;refine ⟨_,rfl,?_⟩;have n0_:=Az.mk (kB (g:=gb662) (o:=.cells #[.bool a0_0,.int .i64 a0_1,.int .i64 a0_2,.int .i64 a0_3,.int .i64 a0_4,.slice A0_5 l0_5.length c0_5] 29 (0,0)) (blk_mv BK662.out) hb);have n1_:=Az.mk (bwT (by repeat (with_reducible first | exact bmv HB.out | refine bwS ?_ GE662.out)) hb);clear BK662;clear HB;have BK662:=n0_;have HB:=n1_;clear n0_ n1_;(try clear hb);(try clear hb2);(try clear hk);(try clear hi)))
   go_ret
   exact ⟨by first | rfl | (simp [errW_none,errW_some] <;> rfl) | (simp [*,errW_none,errW_some] <;> rfl),by repeat (with_reducible first | exact bmv HB.out | refine bwS ?_ GE662.out)⟩
def w4TreeLate.Pure : Prop:=∀ (a0_0 : Bool) (a0_1 : Int) (a0_2 : Int) (a0_3 : Int) (a0_4 : Int) (l0_5 : List Int) (l1 : List S32) (a2 : Int),(Lit.int .i64 a0_1).wf = true→(Lit.int .i64 a0_2).wf = true→(Lit.int .i64 a0_3).wf = true→(Lit.int .i64 a0_4).wf = true→(l0_5.length≤maxLen∧∀ x ∈ l0_5,(Lit.int .i64 x).wf = true)→(∀ o ∈ l1,WfOp o)→(Lit.int .i64 a2).wf = true→∃ k,w4TreeLate.f k a0_0 a0_1 a0_2 a0_3 a0_4 l0_5 l1 a2 = some true
theorem w4TreeLate.walk (P : w4TreeLate.Pure) (a0_0 : Bool) (a0_1 : Int) (a0_2 : Int) (a0_3 : Int) (a0_4 : Int) (A0_5 : Option Addr) (c0_5 : Nat) (l0_5 : List Int) (A1 : Option Addr) (c1 : Nat) (l1 : List S32) (a2 : Int) (w : World) (hrG : TabG w) (hr0_5 : Kd.C (Kd.int .i64) w A0_5 l0_5.length l0_5) (hc0_5 : l0_5.length≤c0_5) (hr1 : Kd.C k32 w A1 l1.length l1) (hc1 : l1.length≤c1) (h1 : (Lit.int .i64 a0_1).wf = true) (h2 : (Lit.int .i64 a0_2).wf = true) (h3 : (Lit.int .i64 a0_3).wf = true) (h4 : (Lit.int .i64 a0_4).wf = true) (h5 : l0_5.length≤maxLen∧∀ x ∈ l0_5,(Lit.int .i64 x).wf = true) (h6 : ∀ o ∈ l1,WfOp o) (h7 : (Lit.int .i64 a2).wf = true) :
 Calls Tryd.prog 7 #[.agg #[.bool a0_0,.int .i64 a0_1,.int .i64 a0_2,.int .i64 a0_3,.int .i64 a0_4,.slice A0_5 l0_5.length c0_5],.slice A1 l1.length c1,.int .i64 a2] w fun e w'=>e = .returned (.bool true)∧Below w.heap.size w w':=by
 obtain ⟨k,h⟩:=P a0_0 a0_1 a0_2 a0_3 a0_4 l0_5 l1 a2 h1 h2 h3 h4 h5 h6 h7
 refine (w4TreeLate.calls (hrG:=hrG) k a0_0 a0_1 a0_2 a0_3 a0_4 A0_5 c0_5 l0_5 A1 c1 l1 a2 true w hr0_5 hc0_5 hr1 hc1 h rfl).mono ?_
 rintro e w' ⟨rfl,hd⟩
 exact ⟨rfl,hd⟩
end Go.Proofs.YtbblomnhobodkaaDoor.PTw
set_option linter.unusedVariables false
set_option linter.unusedSimpArgs false
namespace Go.Proofs.YtbblomnhobodkaaDoor
open Go.ChangeShapes Go.WideShapes Go.Deep Go.RowKit Go.Proofs.YtbblomnhobodkaaDoorW.PW Go.Proofs.YtbblomnhobodkaaDoor.PTw
section
variable {H : Type} {enc : TypeId × Value→H} {P : Program} {w : World} {base b0 : Nat} {r : Reach} {spare : Nat→Bool} {held : Bool}
theorem open_agg_fields {t : TypeId} {fs : Array Field} {v : Value} {d : DataW H} {p : List MemPlace} (hs : P.underlying t = some (.struct fs)) (hone : oneCellFields P fs = true) (hC : P.cellsOf t = fs.size)
 (hv : Value.okWide P w r b0 t v) (h : DataW.Trod enc P w base spare held t v d p) :
 ∃ cs : Array Value,v = .agg cs∧cs.size = fs.size∧∀ (j : Nat) (f : Field),fs[j]? = some f→∃ (u : Value) (y : DataW H × List MemPlace) (n : Nat),cs[j]? = some u∧DataW.trod enc P w base spare held n f.type [u] = some y:=by
 obtain ⟨cs,rfl,hsz⟩:=okWide_struct hs hv
 obtain ⟨fuel,hf⟩:=h
 obtain ⟨ys,n',hn',hy,hlen,hyl,hfl⟩:=DataW.trod_struct hs hf
 refine ⟨cs,rfl,hsz.trans hC,fun j f hj=>?_⟩
 obtain ⟨ho,hk⟩:=hone_of hone j f hj
 have hjl : j < fs.size:=(Array.getElem?_eq_some_iff.1 hj).1
 have hcl : cs.size = fs.size:=hsz.trans hC
 have h1:=hfl j f hj
 rw [ho,hk] at h1
 have e : ((Value.agg cs).cells.toList.drop j).take 1 = [cs[j]'(by omega)]:=by
  simp only [Value.cells]
  rw [List.drop_eq_getElem_cons (by simp;omega)]
  simp
 rw [e] at h1
 exact ⟨cs[j]'(by omega),_,n',Array.getElem?_eq_getElem (by omega),h1.trans (List.getElem?_eq_getElem (by omega))⟩
end
section
variable {H : Type} {enc : TypeId × Value→H} {W : World}
theorem inner_ints {n : Nat} {v : Value} {y : DataW H × List MemPlace} (h : DataW.trod enc Tryd.prog W 0 (fun _=>true) true n 27 [v] = some y) :
 ∃ (A : Option Addr) (c : Nat) (l : List Int),v = .slice A l.length c∧l.length≤c∧(Kd.int .i64).C W A l.length l∧l.length≤maxLen∧∀ x ∈ l,(Lit.int .i64 x).wf = true:=by
 obtain ⟨A,L,c,zs,rfl,hw⟩ : ∃ A L c zs,v = .slice A L c∧((A = none∧L = 0∧c = 0∧zs = [])∨∃ x,A = some x∧L≤c∧c≤maxLen∧zs.length = c∧(∀ i,i < zs.length→W.cell? (x.add i) = some (.int .i64 (zs.getD i 0)))∧∀ n ∈ zs,(Lit.int .i64 n).wf = true):=by
  rcases open_ints Tryd.underlying27 Tryd.underlying3 (by kernel_rfl) h with ⟨hcs,_⟩ | ⟨x,l,c,zs,hcs,_,hl,hm,hz,_,hcell,hwz⟩
  · simp at hcs
    exact ⟨none,0,0,[],hcs,.inl ⟨rfl,rfl,rfl,rfl⟩⟩
  · simp at hcs
    exact ⟨some x,l,c,zs,hcs,.inr ⟨_,rfl,hl,hm,by simpa using hz,hcell,hwz⟩⟩
 obtain ⟨l,rfl,h1,h2,h3,h4⟩:=ReadsInt.ofRowC hw
 exact ⟨A,c,l,rfl,h4,Kd.C_of_reads (d:=(0 : Int)) (h1:=fun _=>rfl) h1,h2,h3⟩
end
end Go.Proofs.YtbblomnhobodkaaDoor
