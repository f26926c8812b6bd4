/- What this claim reaches of longer texts of this session. -/
import Derived.Test.YtbblomnhobodkaaDoorBase
import Derived.Test.YtbblomnhobodkaaDoorPTwx1
import Derived.Test.YtbblomnhobodkaaDoorPTwx6
import Derived.Test.YtbblomnhobodkaaDoorPTwx8
import Derived.Test.YtbblomnhobodkaaDoorPTwx14
import Derived.Test.YtbblomnhobodkaaDoorPTwx24
import Derived.Deep.Slices
import Derived.Deep.Fields
import Derived.ChangeSame
import Derived.ChangeShapes
import Derived.WideShapes
import Derived.DataShut
import Derived.OpenShut
namespace Go.Proofs.YtbblomnhobodkaaDoor.PTw
open Go.RowKit Go.Proofs.YtbblomnhobodkaaDoorW.PW Go.Proofs.YtbblomnhobodkaaDoorW.PL Go.Proofs.YtbblomnhobodkaaDoorW.PM
attribute [local go_sem] max2_int min2_int max_two min_two max_three min_three max_four min_four   -- for this text's walks alone
set_option linter.unusedVariables false
set_option linter.unusedSimpArgs false
set_option maxHeartbeats 8000000 in
set_option maxRecDepth 100000 in
theorem w4TreeReaches.calls (k : Nat) (a0_0 : Bool) (a0_1 : Int) (a0_2 : Int) (a0_3 : Int) (a0_4 : Int) (A0_5 : Option Addr) (c0_5 : Nat) (l0_5 : List Int) (A1 : Option Addr) (c1 : Nat) (l1 : List (S32)) (a2 : Int) (r : Bool) (w : World) (hrG : TabG w) (hr0_5 : Kd.C (Kd.int .i64) w A0_5 l0_5.length l0_5) (hc0_5 : l0_5.length≤c0_5) (hr1 : Kd.C k32 w A1 l1.length l1) (hc1 : l1.length≤c1) (h : w4TreeReaches.f k a0_0 a0_1 a0_2 a0_3 a0_4 l0_5 l1 a2 = some r) (hr : r = true) :
 Calls Tryd.prog 5 #[.agg #[.bool a0_0,.int .i64 a0_1,.int .i64 a0_2,.int .i64 a0_3,.int .i64 a0_4,.slice A0_5 l0_5.length c0_5],.slice A1 l1.length c1,.int .i64 a2] w fun e w'=>e = .returned (.bool r)∧Below w.heap.size w w':=by
 have HRG:=Az.mk hrG
 clear hrG
 have hu29:=Tryd.underlying29
 have HR0_5:=Az.mk hr0_5
 have HC0_5:=Az.mk hc0_5
 clear hr0_5 hc0_5
 have HR1:=Az.mk hr1
 have HC1:=Az.mk hc1
 clear hr1 hc1
 have HB:=Az.mk (Below.refl w.heap.size w)
 have H : ((w4anchor.f k).bind fun t577=>(if t577 = true then ((w4grown.f k a0_0 a0_1 a0_2 a0_3 a0_4 l0_5 l1).bind fun t578=>((r4Leaves.f t578).bind fun t581=>((r4Full.f t578 a2).bind fun t582=>(if t582 = true then ((tree_Filtered.f k t578 a2).bind fun bt583=>((tree_Members.f k t578).bind fun t589=>(w4TreeReaches.l0 k a2 t578 t581 bt583.2 t589 (t589.length : Int) 0))) else (some true))))) else (some false))) = some r:=h
 clear h
 replace H:=Option.bind_eq_some_iff.mp H
 obtain ⟨t577,A40,H⟩:=H
 replace H : (if t577 = true then ((w4grown.f k a0_0 a0_1 a0_2 a0_3 a0_4 l0_5 l1).bind fun t578=>((r4Leaves.f t578).bind fun t581=>((r4Full.f t578 a2).bind fun t582=>(if t582 = true then ((tree_Filtered.f k t578 a2).bind fun bt583=>((tree_Members.f k t578).bind fun t589=>(w4TreeReaches.l0 k a2 t578 t581 bt583.2 t589 (t589.length : Int) 0))) else (some true))))) else (some false)) = some r:=H
 have A4:=Az.mk A40
 clear A40
 by_cases c5 : t577 = true
 ·
  subst c5
  have H1 : ((w4grown.f k a0_0 a0_1 a0_2 a0_3 a0_4 l0_5 l1).bind fun t578=>((r4Leaves.f t578).bind fun t581=>((r4Full.f t578 a2).bind fun t582=>(if t582 = true then ((tree_Filtered.f k t578 a2).bind fun bt583=>((tree_Members.f k t578).bind fun t589=>(w4TreeReaches.l0 k a2 t578 t581 bt583.2 t589 (t589.length : Int) 0))) else (some true))))) = some r:=by rw [if_pos rfl] at H;exact H
  clear H
  have H:=H1
  clear H1
  replace H:=Option.bind_eq_some_iff.mp H
  obtain ⟨t578,A60,H⟩:=H
  replace H : ((r4Leaves.f t578).bind fun t581=>((r4Full.f t578 a2).bind fun t582=>(if t582 = true then ((tree_Filtered.f k t578 a2).bind fun bt583=>((tree_Members.f k t578).bind fun t589=>(w4TreeReaches.l0 k a2 t578 t581 bt583.2 t589 (t589.length : Int) 0))) else (some true)))) = some r:=H
  have A6:=Az.mk A60
  clear A60
  replace H:=Option.bind_eq_some_iff.mp H
  obtain ⟨t581,A70,H⟩:=H
  replace H : ((r4Full.f t578 a2).bind fun t582=>(if t582 = true then ((tree_Filtered.f k t578 a2).bind fun bt583=>((tree_Members.f k t578).bind fun t589=>(w4TreeReaches.l0 k a2 t578 t581 bt583.2 t589 (t589.length : Int) 0))) else (some true))) = some r:=H
  have A7:=Az.mk A70
  clear A70
  replace H:=Option.bind_eq_some_iff.mp H
  obtain ⟨t582,A80,H⟩:=H
  replace H : (if t582 = true then ((tree_Filtered.f k t578 a2).bind fun bt583=>((tree_Members.f k t578).bind fun t589=>(w4TreeReaches.l0 k a2 t578 t581 bt583.2 t589 (t589.length : Int) 0))) else (some true)) = some r:=H
  have A8:=Az.mk A80
  clear A80
  by_cases c9 : t582 = true
  ·
   subst c9
   have H1 : ((tree_Filtered.f k t578 a2).bind fun bt583=>((tree_Members.f k t578).bind fun t589=>(w4TreeReaches.l0 k a2 t578 t581 bt583.2 t589 (t589.length : Int) 0))) = some r:=by rw [if_pos rfl] at H;exact H
   clear H
   have H:=H1
   clear H1
   replace H:=Option.bind_eq_some_iff.mp H
   obtain ⟨⟨t583,t584⟩,A100,H⟩:=H
   replace H : ((tree_Members.f k t578).bind fun t589=>(w4TreeReaches.l0 k a2 t578 t581 t584 t589 (t589.length : Int) 0)) = some r:=H
   have A10:=Az.mk A100
   clear A100
   replace H:=Option.bind_eq_some_iff.mp H
   obtain ⟨t589,A110,H⟩:=H
   replace H : (w4TreeReaches.l0 k a2 t578 t581 t584 t589 (t589.length : Int) 0) = some r:=H
   have A11:=Az.mk A110
   clear A110
   have H':=Az.mk H
   clear H
   go_enter Tryd.func5,Tryd.ntmps5
   go_wp2_with (first | ((with_reducible refine gate_dst (N:=3) rfl ?_);(try (refine gate_guard (by rfl) ?_;dsimp only));refine box_event ?hg (N:=3) ?hd (cs:=#[.bool a0_0,.int .i64 a0_1,.int .i64 a0_2,.int .i64 a0_3,.int .i64 a0_4,.slice A0_5 l0_5.length c0_5]) (t:=29) ?hr ?_;(case hd=>rfl);(case hg=>rfl);(case hr=>first | (go_simp;done) | (go_simp;rfl));intro gb576 hg w12 hbox hb;have n0_:=Az.mk (bwT (bmv HB.out) hb);have n1_:=Az.mk (hbox);have n2_:=Az.mk ((by rw [hg];exact (bwZ (bmv HB.out)) : w.heap.size≤gb576));have n3_:=Az.mk ((by rw [hg];exact (bwZ (bmv HB.out)) : w.heap.size≤gb576));clear HB;have HB:=n0_;have BK576:=n1_;have GW576:=n2_;have GE576:=n3_;clear n0_ n1_ n2_ n3_;clear hb hbox hg) | ((with_reducible refine gate_callee (f:=13) rfl ?_);refine goesL_ (some 21) rfl rfl Tryd.func13 (by kernel_rfl) rfl #[] rfl (by (try simp only [List.map_toArray,List.map_cons,List.map_nil]);first | done | rfl | (simp only [List.length_drop,List.length_take];rfl)) ?_;(with_reducible refine (w4anchor.calls (hrG:=?sideG) k  true _ A4.out).mono ?_);(case sideG=>(first | (with_reducible exact HRG.out) |exact TabG.below HRG.out (by repeat (first | (with_reducible first |exact HB.out |apply bwA |apply bwN |apply bw1 |refine bwS ?_ GE576.out) | (with_reducible exact Below.refl _ _)))));rintro e w13 ⟨rfl,hb⟩;refine ⟨_,rfl,?_⟩;have n0_:=Az.mk (kB (g:=gb576) (o:=.cells #[.bool a0_0,.int .i64 a0_1,.int .i64 a0_2,.int .i64 a0_3,.int .i64 a0_4,.slice A0_5 l0_5.length c0_5] 29 (0,0)) (blk_mv BK576.out) hb);have n1_:=Az.mk (bwT (by repeat (with_reducible first |exact bmv HB.out |refine bwS ?_ GE576.out)) hb);clear BK576;clear HB;have BK576:=n0_;have HB:=n1_;clear n0_ n1_;(try clear hb);(try clear hb2);(try clear hk);(try clear hi);obtain ⟨⟨hcz14_0,hcz14_1,hcz14_2,hcz14_3,hcz14_4,hcz14_5⟩,hfz14_0,hfz14_1,hfz14_2,hfz14_3,hfz14_4,hfz14_5⟩:=cells6 BK576.out) | ((with_reducible refine gate_callee (f:=18) rfl ?_);refine goesL_ (some 25) rfl rfl Tryd.func18 (by kernel_rfl) rfl #[.agg #[.bool a0_0,.int .i64 a0_1,.int .i64 a0_2,.int .i64 a0_3,.int .i64 a0_4,.slice A0_5 l0_5.length c0_5],.slice A1 l1.length c1] rfl (by (try simp only [List.map_toArray,List.map_cons,List.map_nil]);first | done | rfl | (simp only [List.length_drop,List.length_take];rfl)) ?_;(with_reducible refine (w4grown.calls k a0_0 a0_1 a0_2 a0_3 a0_4 _ _ l0_5 (fun k_=>k_ < w.heap.size) _ _ l1 t578 _ ?side1 ?side2 ?side3 A6.out).mono ?_);(case side1=>exact C_mv ((Kd.C_below HR0_5.out HB.out)));(case side2=>exact HC0_5.out);(case side3=>exact Kd.V_mk HC1.out (Kd.F_below (Kd.C_F k32_heap HR1.out) (by repeat (with_reducible first |exact bmv HB.out |refine bwS ?_ GE576.out))));rintro e w15 ⟨v579,rfl,ho0,hb⟩;refine ⟨_,rfl,?_⟩;have n0_:=Az.mk (Kd.N_lower (Kd.N_mono (ok':=fun k_=>k_≠gb576) ho0 (fun k_ hk_=>Or.elim hk_ (fun hs_=>fun e_=>Nat.not_le.2 hs_ (by rw [e_];exact GW576.out)) (fun hn_=>(Kd.freshB (g:=gb576) (o:=.cells #[.bool a0_0,.int .i64 a0_1,.int .i64 a0_2,.int .i64 a0_3,.int .i64 a0_4,.slice A0_5 l0_5.length c0_5] 29 (0,0)) (blk_mv BK576.out) k_ hn_)))) (bwZ (by repeat (with_reducible first |exact bmv HB.out |refine bwS ?_ GE576.out))));have n1_:=Az.mk (kB (g:=gb576) (o:=.cells #[.bool a0_0,.int .i64 a0_1,.int .i64 a0_2,.int .i64 a0_3,.int .i64 a0_4,.slice A0_5 l0_5.length c0_5] 29 (0,0)) (blk_mv BK576.out) hb);have n2_:=Az.mk (bwT (by repeat (with_reducible first |exact bmv HB.out |refine bwS ?_ GE576.out)) hb);clear BK576;clear HB;have HO580:=n0_;have BK576:=n1_;have HB:=n2_;clear n0_ n1_ n2_;(try clear hb);(try clear hb2);(try clear hk);(try clear hi);(try clear ho0);obtain ⟨Ao16,co16,eo16⟩:=Kd.N_slice HO580.out;subst eo16) | ((with_reducible refine gate_callee (f:=21) rfl ?_);refine goesL_ (some 27) rfl rfl Tryd.func21 (by kernel_rfl) rfl #[.slice Ao16 t578.length co16] rfl (by (try simp only [List.map_toArray,List.map_cons,List.map_nil]);first | done | rfl | (simp only [List.length_drop,List.length_take];rfl)) ?_;(with_reducible refine (r4Leaves.calls _ _ t578 t581 _ ?side1 ?side2 A7.out).mono ?_);(case side1=>exact C_mv ((Kd.N_reads' HO580.out).2.2));(case side2=>exact (Kd.N_reads' HO580.out).2.1);rintro e w' ⟨rfl,⟨nd,rfl⟩⟩;refine ⟨_,rfl,?_⟩) | ((with_reducible refine gate_callee (f:=22) rfl ?_);refine goesL_ (some 30) rfl rfl Tryd.func22 (by kernel_rfl) rfl #[.slice Ao16 t578.length co16,.int .i64 a2] rfl (by (try simp only [List.map_toArray,List.map_cons,List.map_nil]);first | done | rfl | (simp only [List.length_drop,List.length_take];rfl)) ?_;(with_reducible refine (r4Full.calls _ _ t578 a2 true _ ?side1 ?side2 A8.out).mono ?_);(case side1=>exact C_mv ((Kd.N_reads' HO580.out).2.2));(case side2=>exact (Kd.N_reads' HO580.out).2.1);rintro e w' ⟨rfl,⟨nd,rfl⟩⟩;refine ⟨_,rfl,?_⟩) | ((with_reducible refine gate_callee (f:=23) rfl ?_);refine goesL_ (some 35) rfl rfl Tryd.func23 (by kernel_rfl) rfl #[.slice Ao16 t578.length co16,.int .i64 a2] rfl (by (try simp only [List.map_toArray,List.map_cons,List.map_nil]);first | done | rfl | (simp only [List.length_drop,List.length_take];rfl)) ?_;(with_reducible refine (tree_Filtered.calls (hrG:=?sideG) k _ _ t578 a2 t583 t584 _ ?side1 ?side2 A10.out).mono ?_);(case sideG=>(first | (with_reducible exact HRG.out) |exact TabG.below HRG.out (by repeat (first | (with_reducible first |exact HB.out |apply bwA |apply bwN |apply bw1 |refine bwS ?_ GE576.out) | (with_reducible exact Below.refl _ _)))));(case side1=>exact C_mv ((Kd.N_reads' HO580.out).2.2));(case side2=>exact (Kd.N_reads' HO580.out).2.1);rintro e w17 ⟨v585,v587,rfl,ho0,ho1,hb⟩;refine ⟨_,rfl,?_⟩;have n0_:=Az.mk (Kd.N_mono (Kd.N_told (Kd.N_told (Kd.N_old (N_mv HO580.out) hb) (Kd.R_base ho0)) (Kd.R_base ho1)) (fun _ h_=>h_.1));have n1_:=Az.mk (Kd.R_lower ho0 (bwZ (by repeat (with_reducible first |exact bmv HB.out |refine bwS ?_ GE576.out))));have n2_:=Az.mk (Kd.R_lower ho1 (bwZ (by repeat (with_reducible first |exact bmv HB.out |refine bwS ?_ GE576.out))));have n3_:=Az.mk (kB (g:=gb576) (o:=.cells #[.bool a0_0,.int .i64 a0_1,.int .i64 a0_2,.int .i64 a0_3,.int .i64 a0_4,.slice A0_5 l0_5.length c0_5] 29 (0,0)) (blk_mv BK576.out) hb);have n4_:=Az.mk (bwT (by repeat (with_reducible first |exact bmv HB.out |refine bwS ?_ GE576.out)) hb);clear HO580;clear BK576;clear HB;have HO580:=n0_;have HO586:=n1_;have HO588:=n2_;have BK576:=n3_;have HB:=n4_;clear n0_ n1_ n2_ n3_ n4_;(try clear hb);(try clear hb2);(try clear hk);(try clear hi);(try clear ho0);(try clear ho1)) | ((with_reducible refine gate_callee (f:=24) rfl ?_);refine goesL_ (some 39) rfl rfl Tryd.func24 (by kernel_rfl) rfl #[.slice Ao16 t578.length co16] rfl (by (try simp only [List.map_toArray,List.map_cons,List.map_nil]);first | done | rfl | (simp only [List.length_drop,List.length_take];rfl)) ?_;(with_reducible refine (tree_Members.calls k _ _ t578 t589 _ ?side1 ?side2 A11.out).mono ?_);(case side1=>exact C_mv ((Kd.N_reads' HO580.out).2.2));(case side2=>exact (Kd.N_reads' HO580.out).2.1);rintro e w18 ⟨v590,rfl,ho0,hb⟩;refine ⟨_,rfl,?_⟩;have n0_:=Az.mk (Kd.N_elder' (N_mv HO580.out) (Kd.R_base ho0) hb);have n1_:=Az.mk (Kd.R_elder' (R_mv HO586.out) (Kd.R_base ho0) hb);have n2_:=Az.mk (Kd.R_elder' (R_mv HO588.out) (Kd.R_base ho0) hb);have n3_:=Az.mk (Kd.R_lower (Kd.R_new' (Kd.R_new' ho0 (Kd.R_lt (R_mv HO586.out))) (Kd.R_lt (R_mv HO588.out))) (bwZ (by repeat (with_reducible first |exact bmv HB.out |refine bwS ?_ GE576.out))));have n4_:=Az.mk (kB (g:=gb576) (o:=.cells #[.bool a0_0,.int .i64 a0_1,.int .i64 a0_2,.int .i64 a0_3,.int .i64 a0_4,.slice A0_5 l0_5.length c0_5] 29 (0,0)) (blk_mv BK576.out) hb);have n5_:=Az.mk (bwT (by repeat (with_reducible first |exact bmv HB.out |refine bwS ?_ GE576.out)) hb);clear HO580;clear HO586;clear HO588;clear BK576;clear HB;have HO580:=n0_;have HO586:=n1_;have HO588:=n2_;have HO591:=n3_;have BK576:=n4_;have HB:=n5_;clear n0_ n1_ n2_ n3_ n4_ n5_;(try clear hb);(try clear hb2);(try clear hk);(try clear hi);(try clear ho0);obtain ⟨Ao19,co19,eo19⟩:=Kd.R_slice HO591.out;subst eo19))
   go_loopg [41] k (fun kq v41 w'=>∃ (x41_1 : Int),v41 = .int .i64 x41_1∧Az (w4TreeReaches.l0 kq a2 t578 t581 t584 t589 (t589.length : Int) x41_1 = some r)∧Az (kq≤k)∧Az (Kd.N k29 29 w' w.heap.size (fun k_=>some k_≠(v587 : Value).ownBlock∧some k_≠((.slice Ao19 t589.length co19) : Value).ownBlock∧k_≠gb576) (.slice Ao16 t578.length co16) t578)∧Az (Kd.R (Kd.int .i64) 3 w' w.heap.size (fun k_=>some k_≠((.slice Ao19 t589.length co19) : Value).ownBlock) v587 t584)∧Az (Kd.R (Kd.int .i64) 3 w' w.heap.size (fun k_=>some k_≠(v587 : Value).ownBlock) (.slice Ao19 t589.length co19) t589)∧Az (w'.heap[gb576]? = some (.cells #[.bool a0_0,.int .i64 a0_1,.int .i64 a0_2,.int .i64 a0_3,.int .i64 a0_4,(.slice A0_5 l0_5.length c0_5)] 29 (0,0)))∧Az (Below w.heap.size w w'))
   case atStart=>exact ⟨(0),(by first | rfl | (simp;done) | (simp [*];done)),H',⟨Nat.le_refl _⟩,⟨N_mv (Kd.N_mono HO580.out (fun _ hk=>⟨hk.1.2,⟨hk.2,hk.1.1.1⟩⟩))⟩,⟨R_mv (Kd.R_mono HO588.out (fun _ hk=>hk.2))⟩,⟨R_mv (Kd.R_mono HO591.out (fun _ hk=>hk.2))⟩,⟨blk_mv BK576.out⟩,⟨by repeat (with_reducible first | exact bmv HB.out | refine bwS ?_ GE576.out)⟩⟩
   case round=>
    clear H'
    try clear c1
    try clear c5
    try clear c9
    try clear hcz14_0
    try clear hcz14_1
    try clear hcz14_2
    try clear hcz14_3
    try clear hcz14_4
    try clear hcz14_5
    try clear hfz14_0
    try clear hfz14_1
    try clear hfz14_2
    try clear hfz14_3
    try clear hfz14_4
    try clear hfz14_5
    obtain ⟨x41_1,rfl,HA,HK1,HO_7,HO_10,HO_39,BK576,HB⟩:=hrel
    cases gk with
    | zero=>exact absurd HA.out (by simp [w4TreeReaches.l0])
    | succ k1=>
     have H:=HA.out
     clear HA
     simp only [w4TreeReaches.l0] at H
     by_cases c20 : x41_1 < (t589.length : Int)
     ·
      rw [if_pos c20] at H
      have c20b0 : decide (x41_1 < (t589.length : Int)) = true:=decide_eq_true c20
      clear c20
      by_cases c21 : 0≤x41_1
      ·
       rw [if_pos c21] at H
       have c21b0 : decide (0≤x41_1) = true:=decide_eq_true c21
       clear c21
       by_cases c22 : x41_1 < (t589.length : Int)
       ·
        rw [if_pos c22] at H
        have c22b0 : decide (x41_1 < (t589.length : Int)) = true:=decide_eq_true c22
        clear c22
        have HC23:=Az.mk H
        clear H
        have p598 : 0≤(x41_1 : Int):=of_decide_eq_true (by first | (with_reducible assumption) | assumption)
        have q598 : x41_1 < (t589.length : Int):=of_decide_eq_true (by first | (with_reducible assumption) | assumption)
        obtain ⟨ad598,e598,hx598_0⟩:=Kd.at_int (Kd.R_reads' HO_39.out).2.2 x41_1 p598 q598
        cases e598
        replace p598:=eq_true p598
        replace q598:=eq_true q598
        go_upto_region 11 with (fail)
        go_cut [51] (fun v51 wc=>∃ (kq : Nat) (x51_22 : Bool),v51 = .bool x51_22∧Az (w4TreeReaches.j1 kq a2 t578 t581 t584 (rd t589 x41_1) t589 (t589.length : Int) x41_1 x51_22 = some r)∧Az (kq≤k1)∧Az (Kd.N k29 29 wc w.heap.size (fun k_=>some k_≠(v587 : Value).ownBlock∧some k_≠((.slice (some ad598) t589.length co19) : Value).ownBlock∧k_≠gb576) (.slice Ao16 t578.length co16) t578)∧Az (Kd.R (Kd.int .i64) 3 wc w.heap.size (fun k_=>some k_≠((.slice (some ad598) t589.length co19) : Value).ownBlock) v587 t584)∧Az (Kd.R (Kd.int .i64) 3 wc w.heap.size (fun k_=>some k_≠(v587 : Value).ownBlock) (.slice (some ad598) t589.length co19) t589)∧Az (wc.heap[gb576]? = some (.cells #[.bool a0_0,.int .i64 a0_1,.int .i64 a0_2,.int .i64 a0_3,.int .i64 a0_4,(.slice A0_5 l0_5.length c0_5)] 29 (0,0)))∧Az (Below w.heap.size w wc))
        case first=>
         have H:=HC23.out
         clear HC23
         by_cases c24 : (rd t589 x41_1) < 0
         ·
          rw [if_pos c24] at H
          have c24b0 : decide ((rd t589 x41_1) < 0) = true:=decide_eq_true c24
          clear c24
          (first | rw [c24b0] | (simp only [i64_w,i32_w];rw [c24b0]) | skip)
          have H':=Az.mk H
          clear H
          go_wp2
          go_meet
          case rel=>exact ⟨_,(true),(by first | rfl | (simp;done) | (simp [*];done)),H',⟨by have:=HK1.out;first | omega | exact Nat.le_refl _⟩,⟨N_mv HO_7.out⟩,⟨R_mv HO_10.out⟩,⟨R_mv HO_39.out⟩,⟨blk_mv BK576.out⟩,⟨by repeat (with_reducible first | exact bmv HB.out | refine bwS ?_ GE576.out)⟩⟩
         ·
          rw [if_neg c24] at H
          have c24b0 : decide ((rd t589 x41_1) < 0) = false:=decide_eq_false c24
          clear c24
          (first | rw [c24b0] | (simp only [i64_w,i32_w];rw [c24b0]) | skip)
          have H':=Az.mk H
          clear H
          go_wp2
          go_meet
          case rel=>exact ⟨_,(decide ((rd t589 x41_1)≥t581)),(by first | rfl | (simp;done) | (simp [*];done)),H',⟨by have:=HK1.out;first | omega | exact Nat.le_refl _⟩,⟨N_mv HO_7.out⟩,⟨R_mv HO_10.out⟩,⟨R_mv HO_39.out⟩,⟨blk_mv BK576.out⟩,⟨by repeat (with_reducible first | exact bmv HB.out | refine bwS ?_ GE576.out)⟩⟩
        case rest=>
         clear HC23
         try clear c1
         try clear c5
         try clear c9
         try clear c20
         try clear c20b0
         try clear c21
         try clear c21b0
         try clear c22
         try clear c22b0
         try clear c24
         try clear c24b0
         try clear hcz14_0
         try clear hcz14_1
         try clear hcz14_2
         try clear hcz14_3
         try clear hcz14_4
         try clear hcz14_5
         try clear hfz14_0
         try clear hfz14_1
         try clear hfz14_2
         try clear hfz14_3
         try clear hfz14_4
         try clear hfz14_5
         try clear hx598_0
         try clear p598
         try clear q598
         obtain ⟨kq,x51_22,rfl,HA,HJ22,HO_7,HO_10,HO_39,BK576,HB⟩:=hcut
         cases kq with
         | zero=>exact absurd HA.out (by simp [w4TreeReaches.j1])
         | succ kj22=>
          have H:=HA.out
          clear HA
          simp only [w4TreeReaches.j1] at H
          by_cases c25 : x51_22 = true
          ·
           subst c25
           have H1 : (some false) = some r:=by rw [if_pos rfl] at H;exact H
           clear H
           have H:=H1
           clear H1
           obtain rfl:=Option.some.inj H
           try exact absurd hr Bool.false_ne_true
           all_goals
            go_wp2
            go_ret
            exact ⟨by first | rfl | (simp [errW_none,errW_some] <;> rfl) | (simp [*,errW_none,errW_some] <;> rfl),by repeat (with_reducible first | exact bmv HB.out | refine bwS ?_ GE576.out)⟩
          ·
           replace c25:=Bool.eq_false_iff.mpr c25
           subst c25
           have H1 : (w4TreeReaches.l1 kj22 a2 t578 t581 t584 (rd t589 x41_1) 0 t589 (t589.length : Int) x41_1 t584 (t584.length : Int) 0) = some r:=by rw [if_neg (show ¬ (false = true) by decide)] at H;exact H
           clear H
           have H:=H1
           clear H1
           have H':=Az.mk H
           clear H
           obtain ⟨Ao26,co26,eo26⟩:=Kd.R_slice HO_10.out
           subst eo26
           go_wp2
           go_loopg [13,54] kj22 (fun kq v13 v54 w'=>∃ (x13_3 : Int) (x54_3 : Int),v13 = .int .i64 x13_3∧v54 = .int .i64 x54_3∧Az (w4TreeReaches.l1 kq a2 t578 t581 t584 (rd t589 x41_1) x13_3 t589 (t589.length : Int) x41_1 t584 (t584.length : Int) x54_3 = some r)∧Az (kq≤kj22)∧Az (Kd.N k29 29 w' w.heap.size (fun k_=>some k_≠((.slice Ao26 t584.length co26) : Value).ownBlock∧some k_≠((.slice (some ad598) t589.length co19) : Value).ownBlock∧some k_≠((.slice Ao26 t584.length co26) : Value).ownBlock∧k_≠gb576) (.slice Ao16 t578.length co16) t578)∧Az (Kd.R (Kd.int .i64) 3 w' w.heap.size (fun k_=>some k_≠((.slice (some ad598) t589.length co19) : Value).ownBlock) (.slice Ao26 t584.length co26) t584)∧Az (Kd.R (Kd.int .i64) 3 w' w.heap.size (fun k_=>some k_≠((.slice Ao26 t584.length co26) : Value).ownBlock∧some k_≠((.slice Ao26 t584.length co26) : Value).ownBlock) (.slice (some ad598) t589.length co19) t589)∧Az (Kd.R (Kd.int .i64) 3 w' w.heap.size (fun k_=>some k_≠((.slice (some ad598) t589.length co19) : Value).ownBlock) (.slice Ao26 t584.length co26) t584)∧Az (w'.heap[gb576]? = some (.cells #[.bool a0_0,.int .i64 a0_1,.int .i64 a0_2,.int .i64 a0_3,.int .i64 a0_4,(.slice A0_5 l0_5.length c0_5)] 29 (0,0)))∧Az (Below w.heap.size w w'))
           case atStart=>exact ⟨(0),(0),(by first | rfl | (simp;done) | (simp [*];done)),(by first | rfl | (simp;done) | (simp [*];done)),H',⟨Nat.le_refl _⟩,⟨N_mv (Kd.N_mono HO_7.out (fun _ hk=>⟨hk.1,⟨hk.2.1,⟨hk.1,hk.2.2⟩⟩⟩))⟩,⟨R_mv HO_10.out⟩,⟨R_mv (Kd.R_mono HO_39.out (fun _ hk=>⟨hk,hk⟩))⟩,⟨R_mv HO_10.out⟩,⟨blk_mv BK576.out⟩,⟨by repeat (with_reducible first | exact bmv HB.out | refine bwS ?_ GE576.out)⟩⟩
           case round=>
            clear H'
            try clear c1
            try clear c5
            try clear c9
            try clear c20
            try clear c20b0
            try clear c21
            try clear c21b0
            try clear c22
            try clear c22b0
            try clear c24
            try clear c24b0
            try clear c25
            try clear hcz14_0
            try clear hcz14_1
            try clear hcz14_2
            try clear hcz14_3
            try clear hcz14_4
            try clear hcz14_5
            try clear hfz14_0
            try clear hfz14_1
            try clear hfz14_2
            try clear hfz14_3
            try clear hfz14_4
            try clear hfz14_5
            try clear hx598_0
            try clear p598
            try clear q598
            obtain ⟨x13_3,x54_3,rfl,rfl,HA,HK3,HO_7,HO_10,HO_39,HO_52,BK576,HB⟩:=hrel
            cases gk with
            | zero=>exact absurd HA.out (by simp [w4TreeReaches.l1])
            | succ k3=>
             have H:=HA.out
             clear HA
             simp only [w4TreeReaches.l1] at H
             by_cases c27 : x54_3 < (t584.length : Int)
             ·
              rw [if_pos c27] at H
              have c27b0 : decide (x54_3 < (t584.length : Int)) = true:=decide_eq_true c27
              clear c27
              by_cases c28 : 0≤x54_3
              ·
               rw [if_pos c28] at H
               have c28b0 : decide (0≤x54_3) = true:=decide_eq_true c28
               clear c28
               by_cases c29 : x54_3 < (t584.length : Int)
               ·
                rw [if_pos c29] at H
                have c29b0 : decide (x54_3 < (t584.length : Int)) = true:=decide_eq_true c29
                clear c29
                replace H:=Option.bind_eq_some_iff.mp H
                obtain ⟨t600,A300,H⟩:=H
                replace H : (w4TreeReaches.l2 k3 a2 t578 t581 t584 (rd t589 x41_1) x13_3 t589 (t589.length : Int) x41_1 t584 (t584.length : Int) x54_3 t600 (t600.length : Int) 0) = some r:=H
                have A30:=Az.mk A300
                clear A300
                have H':=Az.mk H
                clear H
                have p599 : 0≤(x54_3 : Int):=of_decide_eq_true (by first | (with_reducible assumption) | assumption)
                have q599 : x54_3 < (t584.length : Int):=of_decide_eq_true (by first | (with_reducible assumption) | assumption)
                obtain ⟨ad599,e599,hx599_0⟩:=Kd.at_int (Kd.R_reads' HO_52.out).2.2 x54_3 p599 q599
                cases e599
                replace p599:=eq_true p599
                replace q599:=eq_true q599
                go_wp2_with (first | ((with_reducible refine gate_callee (f:=25) rfl ?_);refine goesL_ (some 60) rfl rfl Tryd.func25 (by kernel_rfl) rfl #[.slice Ao16 t578.length co16,.int .i64 (rd t584 x54_3)] rfl (by (try simp only [List.map_toArray,List.map_cons,List.map_nil]);first | done | rfl | (simp only [List.length_drop,List.length_take];rfl)) ?_;(with_reducible refine (tree_Resolution.calls (hrG:=?sideG) k3 _ _ t578 (rd t584 x54_3) t600 _ ?side1 ?side2 A30.out).mono ?_);(case sideG=>(first | (with_reducible exact HRG.out) |exact TabG.below HRG.out (by repeat (first | (with_reducible first |exact HB.out |apply bwA |apply bwN |apply bw1 |refine bwS ?_ GE576.out) | (with_reducible exact Below.refl _ _)))));(case side1=>exact C_mv ((Kd.N_reads' HO_7.out).2.2));(case side2=>exact (Kd.N_reads' HO_7.out).2.1);rintro e w31 ⟨v601,rfl,ho0,hb⟩;refine ⟨_,rfl,?_⟩;have n0_:=Az.mk (Kd.N_elder' (N_mv HO_7.out) (Kd.R_base ho0) hb);have n1_:=Az.mk (Kd.R_elder' (R_mv HO_10.out) (Kd.R_base ho0) hb);have n2_:=Az.mk (Kd.R_elder' (R_mv HO_39.out) (Kd.R_base ho0) hb);have n3_:=Az.mk (Kd.R_elder' (R_mv HO_52.out) (Kd.R_base ho0) hb);have n4_:=Az.mk (Kd.R_lower (Kd.R_new' (Kd.R_new' (Kd.R_new' ho0 (Kd.R_lt (R_mv HO_10.out))) (Kd.R_lt (R_mv HO_39.out))) (Kd.R_lt (R_mv HO_52.out))) (bwZ (by repeat (with_reducible first |exact bmv HB.out |refine bwS ?_ GE576.out))));have n5_:=Az.mk (kB (g:=gb576) (o:=.cells #[.bool a0_0,.int .i64 a0_1,.int .i64 a0_2,.int .i64 a0_3,.int .i64 a0_4,.slice A0_5 l0_5.length c0_5] 29 (0,0)) (blk_mv BK576.out) hb);have n6_:=Az.mk (bwT (by repeat (with_reducible first |exact bmv HB.out |refine bwS ?_ GE576.out)) hb);clear HO_7;clear HO_10;clear HO_39;clear HO_52;clear BK576;clear HB;have HO_7:=n0_;have HO_10:=n1_;have HO_39:=n2_;have HO_52:=n3_;have HO602:=n4_;have BK576:=n5_;have HB:=n6_;clear n0_ n1_ n2_ n3_ n4_ n5_ n6_;(try clear hb);(try clear hb2);(try clear hk);(try clear hi);(try clear ho0);obtain ⟨Ao32,co32,eo32⟩:=Kd.R_slice HO602.out;subst eo32))
                go_loopg [13,62] k3 (fun kq v13 v62 w'=>∃ (x13_4 : Int) (x62_4 : Int),v13 = .int .i64 x13_4∧v62 = .int .i64 x62_4∧Az (w4TreeReaches.l2 kq a2 t578 t581 t584 (rd t589 x41_1) x13_4 t589 (t589.length : Int) x41_1 t584 (t584.length : Int) x54_3 t600 (t600.length : Int) x62_4 = some r)∧Az (kq≤k3)∧Az (Kd.N k29 29 w' w.heap.size (fun k_=>some k_≠((.slice (some ad599) t584.length co26) : Value).ownBlock∧some k_≠((.slice (some ad598) t589.length co19) : Value).ownBlock∧some k_≠((.slice (some ad599) t584.length co26) : Value).ownBlock∧some k_≠((.slice Ao32 t600.length co32) : Value).ownBlock∧k_≠gb576) (.slice Ao16 t578.length co16) t578)∧Az (Kd.R (Kd.int .i64) 3 w' w.heap.size (fun k_=>some k_≠((.slice (some ad598) t589.length co19) : Value).ownBlock∧some k_≠((.slice Ao32 t600.length co32) : Value).ownBlock) (.slice (some ad599) t584.length co26) t584)∧Az (Kd.R (Kd.int .i64) 3 w' w.heap.size (fun k_=>some k_≠((.slice (some ad599) t584.length co26) : Value).ownBlock∧some k_≠((.slice (some ad599) t584.length co26) : Value).ownBlock∧some k_≠((.slice Ao32 t600.length co32) : Value).ownBlock) (.slice (some ad598) t589.length co19) t589)∧Az (Kd.R (Kd.int .i64) 3 w' w.heap.size (fun k_=>some k_≠((.slice (some ad598) t589.length co19) : Value).ownBlock∧some k_≠((.slice Ao32 t600.length co32) : Value).ownBlock) (.slice (some ad599) t584.length co26) t584)∧Az (Kd.R (Kd.int .i64) 3 w' w.heap.size (fun k_=>some k_≠((.slice (some ad599) t584.length co26) : Value).ownBlock∧some k_≠((.slice (some ad598) t589.length co19) : Value).ownBlock∧some k_≠((.slice (some ad599) t584.length co26) : Value).ownBlock) (.slice Ao32 t600.length co32) t600)∧Az (w'.heap[gb576]? = some (.cells #[.bool a0_0,.int .i64 a0_1,.int .i64 a0_2,.int .i64 a0_3,.int .i64 a0_4,(.slice A0_5 l0_5.length c0_5)] 29 (0,0)))∧Az (Below w.heap.size w w'))
                case atStart=>exact ⟨(x13_3),(0),(by first | rfl | (simp;done) | (simp [*];done)),(by first | rfl | (simp;done) | (simp [*];done)),H',⟨Nat.le_refl _⟩,⟨N_mv (Kd.N_mono HO_7.out (fun _ hk=>⟨hk.1.1,⟨hk.1.2.1,⟨hk.1.2.2.1,⟨hk.2,hk.1.2.2.2⟩⟩⟩⟩))⟩,⟨R_mv HO_10.out⟩,⟨R_mv (Kd.R_mono HO_39.out (fun _ hk=>⟨hk.1.1,⟨hk.1.2,hk.2⟩⟩))⟩,⟨R_mv HO_52.out⟩,⟨R_mv (Kd.R_mono HO602.out (fun _ hk=>⟨hk.1.1.2,⟨hk.1.2,hk.2⟩⟩))⟩,⟨blk_mv BK576.out⟩,⟨by repeat (with_reducible first | exact bmv HB.out | refine bwS ?_ GE576.out)⟩⟩
                case round=>
                 clear H'
                 try clear c1
                 try clear c5
                 try clear c9
                 try clear c20
                 try clear c20b0
                 try clear c21
                 try clear c21b0
                 try clear c22
                 try clear c22b0
                 try clear c24
                 try clear c24b0
                 try clear c25
                 try clear c27
                 try clear c27b0
                 try clear c28
                 try clear c28b0
                 try clear c29
                 try clear c29b0
                 try clear hcz14_0
                 try clear hcz14_1
                 try clear hcz14_2
                 try clear hcz14_3
                 try clear hcz14_4
                 try clear hcz14_5
                 try clear hfz14_0
                 try clear hfz14_1
                 try clear hfz14_2
                 try clear hfz14_3
                 try clear hfz14_4
                 try clear hfz14_5
                 try clear hx598_0
                 try clear hx599_0
                 try clear p598
                 try clear p599
                 try clear q598
                 try clear q599
                 obtain ⟨x13_4,x62_4,rfl,rfl,HA,HK4,HO_7,HO_10,HO_39,HO_52,HO_60,BK576,HB⟩:=hrel
                 cases gk with
                 | zero=>exact absurd HA.out (by simp [w4TreeReaches.l2])
                 | succ k4=>
                  have H:=HA.out
                  clear HA
                  simp only [w4TreeReaches.l2] at H
                  by_cases c33 : x62_4 < (t600.length : Int)
                  ·
                   rw [if_pos c33] at H
                   have c33b0 : decide (x62_4 < (t600.length : Int)) = true:=decide_eq_true c33
                   clear c33
                   by_cases c34 : 0≤x62_4
                   ·
                    rw [if_pos c34] at H
                    have c34b0 : decide (0≤x62_4) = true:=decide_eq_true c34
                    clear c34
                    by_cases c35 : x62_4 < (t600.length : Int)
                    ·
                     rw [if_pos c35] at H
                     have c35b0 : decide (x62_4 < (t600.length : Int)) = true:=decide_eq_true c35
                     clear c35
                     have HC36:=Az.mk H
                     clear H
                     have p603 : 0≤(x62_4 : Int):=of_decide_eq_true (by first | (with_reducible assumption) | assumption)
                     have q603 : x62_4 < (t600.length : Int):=of_decide_eq_true (by first | (with_reducible assumption) | assumption)
                     obtain ⟨ad603,e603,hx603_0⟩:=Kd.at_int (Kd.R_reads' HO_60.out).2.2 x62_4 p603 q603
                     cases e603
                     replace p603:=eq_true p603
                     replace q603:=eq_true q603
                     go_upto_region 20 with (fail)
                     go_cut [81] (fun v81 wc=>∃ (kq : Nat) (x81_35 : Bool),v81 = .bool x81_35∧Az (w4TreeReaches.j4 kq a2 t578 t581 t584 (rd t589 x41_1) x13_4 (rd t600 x62_4) t589 (t589.length : Int) x41_1 t584 (t584.length : Int) x54_3 t600 (t600.length : Int) x62_4 x81_35 = some r)∧Az (kq≤k4)∧Az (Kd.N k29 29 wc w.heap.size (fun k_=>some k_≠((.slice (some ad599) t584.length co26) : Value).ownBlock∧some k_≠((.slice (some ad598) t589.length co19) : Value).ownBlock∧some k_≠((.slice (some ad599) t584.length co26) : Value).ownBlock∧some k_≠((.slice (some ad603) t600.length co32) : Value).ownBlock∧k_≠gb576) (.slice Ao16 t578.length co16) t578)∧Az (Kd.R (Kd.int .i64) 3 wc w.heap.size (fun k_=>some k_≠((.slice (some ad598) t589.length co19) : Value).ownBlock∧some k_≠((.slice (some ad603) t600.length co32) : Value).ownBlock) (.slice (some ad599) t584.length co26) t584)∧Az (Kd.R (Kd.int .i64) 3 wc w.heap.size (fun k_=>some k_≠((.slice (some ad599) t584.length co26) : Value).ownBlock∧some k_≠((.slice (some ad599) t584.length co26) : Value).ownBlock∧some k_≠((.slice (some ad603) t600.length co32) : Value).ownBlock) (.slice (some ad598) t589.length co19) t589)∧Az (Kd.R (Kd.int .i64) 3 wc w.heap.size (fun k_=>some k_≠((.slice (some ad598) t589.length co19) : Value).ownBlock∧some k_≠((.slice (some ad603) t600.length co32) : Value).ownBlock) (.slice (some ad599) t584.length co26) t584)∧Az (Kd.R (Kd.int .i64) 3 wc w.heap.size (fun k_=>some k_≠((.slice (some ad599) t584.length co26) : Value).ownBlock∧some k_≠((.slice (some ad598) t589.length co19) : Value).ownBlock∧some k_≠((.slice (some ad599) t584.length co26) : Value).ownBlock) (.slice (some ad603) t600.length co32) t600)∧Az (wc.heap[gb576]? = some (.cells #[.bool a0_0,.int .i64 a0_1,.int .i64 a0_2,.int .i64 a0_3,.int .i64 a0_4,(.slice A0_5 l0_5.length c0_5)] 29 (0,0)))∧Az (Below w.heap.size w wc))
                     case first=>
                      have H:=HC36.out
                      clear HC36
                      by_cases c37 : (rd t600 x62_4) < 0
                      ·
                       rw [if_pos c37] at H
                       have c37b0 : decide ((rd t600 x62_4) < 0) = true:=decide_eq_true c37
                       clear c37
                       (first | rw [c37b0] | (simp only [i64_w,i32_w];rw [c37b0]) | skip)
                       have H':=Az.mk H
                       clear H
                       go_wp2
                       go_meet
                       case rel=>exact ⟨_,(true),(by first | rfl | (simp;done) | (simp [*];done)),H',⟨by have:=HK1.out;have:=HJ22.out;have:=HK3.out;have:=HK4.out;first | omega | exact Nat.le_refl _⟩,⟨N_mv HO_7.out⟩,⟨R_mv HO_10.out⟩,⟨R_mv HO_39.out⟩,⟨R_mv HO_52.out⟩,⟨R_mv HO_60.out⟩,⟨blk_mv BK576.out⟩,⟨by repeat (with_reducible first | exact bmv HB.out | refine bwS ?_ GE576.out)⟩⟩
                      ·
                       rw [if_neg c37] at H
                       have c37b0 : decide ((rd t600 x62_4) < 0) = false:=decide_eq_false c37
                       clear c37
                       (first | rw [c37b0] | (simp only [i64_w,i32_w];rw [c37b0]) | skip)
                       by_cases c38 : (rd t600 x62_4)≥(t578.length : Int)
                       ·
                        rw [if_pos c38] at H
                        have c38b0 : decide ((t578.length : Int)≤(rd t600 x62_4)) = true:=decide_eq_true c38
                        clear c38
                        have H':=Az.mk H
                        clear H
                        go_wp2
                        go_meet
                        case rel=>exact ⟨_,(true),(by first | rfl | (simp;done) | (simp [*];done)),H',⟨by have:=HK1.out;have:=HJ22.out;have:=HK3.out;have:=HK4.out;first | omega | exact Nat.le_refl _⟩,⟨N_mv HO_7.out⟩,⟨R_mv HO_10.out⟩,⟨R_mv HO_39.out⟩,⟨R_mv HO_52.out⟩,⟨R_mv HO_60.out⟩,⟨blk_mv BK576.out⟩,⟨by repeat (with_reducible first | exact bmv HB.out | refine bwS ?_ GE576.out)⟩⟩
                       ·
                        rw [if_neg c38] at H
                        have c38b0 : decide ((t578.length : Int)≤(rd t600 x62_4)) = false:=decide_eq_false c38
                        clear c38
                        by_cases c39 : 0≤(rd t600 x62_4)
                        ·
                         rw [if_pos c39] at H
                         have c39b0 : decide (0≤(rd t600 x62_4)) = true:=decide_eq_true c39
                         clear c39
                         by_cases c40 : (rd t600 x62_4) < (t578.length : Int)
                         ·
                          rw [if_pos c40] at H
                          have c40b0 : decide ((rd t600 x62_4) < (t578.length : Int)) = true:=decide_eq_true c40
                          clear c40
                          have H':=Az.mk H
                          clear H
                          have p604 : 0≤((rd t600 x62_4) : Int):=of_decide_eq_true (by first | (with_reducible assumption) | assumption)
                          have q604 : (rd t600 x62_4) < (t578.length : Int):=of_decide_eq_true (by first | (with_reducible assumption) | assumption)
                          obtain ⟨ad604,A604_5,c604_5,e604,hx604_0,hx604_1,hx604_2,hx604_3,hx604_4,hx604_5,hl604_5,hi604_5⟩:=at_T29 (Kd.N_reads' HO_7.out).2.2 (rd t600 x62_4) p604 q604
                          cases e604
                          obtain ⟨ce604,hce604,hMe604,hcc604⟩:=Kd.N_get HO_7.out z29 (rd t600 x62_4) p604 (by first | exact q604 | exact of_decide_eq_true (by first | (with_reducible assumption) | assumption) | (have e_:=(Kd.N_reads' HO_7.out).1;omega))
                          obtain ⟨ua604_5,uc604_5,rfl,ul604_5,ge604_5⟩:=k29_openF hMe604
                          have hv604_5:=hcc604 5 _ rfl
                          rw [add_field _ _ 5 (by omega)] at hv604_5
                          replace hv604_5:=Option.some.inj (hv604_5.symm.trans hx604_5)
                          injection hv604_5 with hva_ hvn_ hvc_
                          rw [hva_] at ge604_5
                          rw [hvc_] at ul604_5
                          have HL604_5:=Az.mk (show Kd.V (Kd.int .i64) 3 _ w.heap.size _ _ ((rd_T29 t578 (rd t600 x62_4)).f5) from Kd.V_mk ul604_5 ge604_5)
                          clear hva_ hvn_ hvc_ ge604_5 ul604_5
                          clear hcc604 hce604
                          have HR604_5:=Az.mk hi604_5
                          have HC604_5:=Az.mk hl604_5
                          clear hi604_5 hl604_5
                          replace p604:=eq_true p604
                          replace q604:=eq_true q604
                          go_wp2
                          go_meet
                          case rel=>exact ⟨_,(!((rd_T29 t578 (rd t600 x62_4)).f0)),(by first | rfl | (simp;done) | (simp [*];done)),H',⟨by have:=HK1.out;have:=HJ22.out;have:=HK3.out;have:=HK4.out;first | omega | exact Nat.le_refl _⟩,⟨N_mv HO_7.out⟩,⟨R_mv HO_10.out⟩,⟨R_mv HO_39.out⟩,⟨R_mv HO_52.out⟩,⟨R_mv HO_60.out⟩,⟨blk_mv BK576.out⟩,⟨by repeat (with_reducible first | exact bmv HB.out | refine bwS ?_ GE576.out)⟩⟩
                         ·
                          rw [if_neg c40] at H
                          exact absurd H (by simp)
                        ·
                         rw [if_neg c39] at H
                         exact absurd H (by simp)
                     case rest=>
                      clear HC36
                      try clear c1
                      try clear c5
                      try clear c9
                      try clear c20
                      try clear c20b0
                      try clear c21
                      try clear c21b0
                      try clear c22
                      try clear c22b0
                      try clear c24
                      try clear c24b0
                      try clear c25
                      try clear c27
                      try clear c27b0
                      try clear c28
                      try clear c28b0
                      try clear c29
                      try clear c29b0
                      try clear c33
                      try clear c33b0
                      try clear c34
                      try clear c34b0
                      try clear c35
                      try clear c35b0
                      try clear c37
                      try clear c37b0
                      try clear c38
                      try clear c38b0
                      try clear c39
                      try clear c39b0
                      try clear c40
                      try clear c40b0
                      try clear hcz14_0
                      try clear hcz14_1
                      try clear hcz14_2
                      try clear hcz14_3
                      try clear hcz14_4
                      try clear hcz14_5
                      try clear hfz14_0
                      try clear hfz14_1
                      try clear hfz14_2
                      try clear hfz14_3
                      try clear hfz14_4
                      try clear hfz14_5
                      try clear hx598_0
                      try clear hx599_0
                      try clear hx603_0
                      try clear hx604_0
                      try clear hx604_1
                      try clear hx604_2
                      try clear hx604_3
                      try clear hx604_4
                      try clear hx604_5
                      try clear p598
                      try clear p599
                      try clear p603
                      try clear p604
                      try clear q598
                      try clear q599
                      try clear q603
                      try clear q604
                      obtain ⟨kq,x81_35,rfl,HA,HJ35,HO_7,HO_10,HO_39,HO_52,HO_60,BK576,HB⟩:=hcut
                      cases kq with
                      | zero=>exact absurd HA.out (by simp [w4TreeReaches.j4])
                      | succ kj35=>
                       have H:=HA.out
                       clear HA
                       simp only [w4TreeReaches.j4] at H
                       by_cases c41 : x81_35 = true
                       ·
                        subst c41
                        have H1 : (some false) = some r:=by rw [if_pos rfl] at H;exact H
                        clear H
                        have H:=H1
                        clear H1
                        obtain rfl:=Option.some.inj H
                        try exact absurd hr Bool.false_ne_true
                        all_goals
                         go_wp2
                         go_ret
                         exact ⟨by first | rfl | (simp [errW_none,errW_some] <;> rfl) | (simp [*,errW_none,errW_some] <;> rfl),by repeat (with_reducible first | exact bmv HB.out | refine bwS ?_ GE576.out)⟩
                       ·
                        replace c41:=Bool.eq_false_iff.mpr c41
                        subst c41
                        have H1 : (if 0≤(rd t600 x62_4) then (if (rd t600 x62_4) < (t578.length : Int) then (w4TreeReaches.l3 kj35 a2 t578 t581 t584 (rd t589 x41_1) x13_4 (rd t600 x62_4) false t589 (t589.length : Int) x41_1 t584 (t584.length : Int) x54_3 t600 (t600.length : Int) x62_4 ((rd_T29 t578 (rd t600 x62_4)).f5) (((rd_T29 t578 (rd t600 x62_4)).f5).length : Int) 0) else (none)) else (none)) = some r:=by rw [if_neg (show ¬ (false = true) by decide)] at H;exact H
                        clear H
                        have H:=H1
                        clear H1
                        by_cases c42 : 0≤(rd t600 x62_4)
                        ·
                         rw [if_pos c42] at H
                         have c42b0 : decide (0≤(rd t600 x62_4)) = true:=decide_eq_true c42
                         clear c42
                         by_cases c43 : (rd t600 x62_4) < (t578.length : Int)
                         ·
                          rw [if_pos c43] at H
                          have c43b0 : decide ((rd t600 x62_4) < (t578.length : Int)) = true:=decide_eq_true c43
                          clear c43
                          have H':=Az.mk H
                          clear H
                          have p605 : 0≤((rd t600 x62_4) : Int):=of_decide_eq_true (by first | (with_reducible assumption) | assumption)
                          have q605 : (rd t600 x62_4) < (t578.length : Int):=of_decide_eq_true (by first | (with_reducible assumption) | assumption)
                          obtain ⟨ad605,A605_5,c605_5,e605,hx605_0,hx605_1,hx605_2,hx605_3,hx605_4,hx605_5,hl605_5,hi605_5⟩:=at_T29 (Kd.N_reads' HO_7.out).2.2 (rd t600 x62_4) p605 q605
                          cases e605
                          obtain ⟨ce605,hce605,hMe605,hcc605⟩:=Kd.N_get HO_7.out z29 (rd t600 x62_4) p605 (by first | exact q605 | exact of_decide_eq_true (by first | (with_reducible assumption) | assumption) | (have e_:=(Kd.N_reads' HO_7.out).1;omega))
                          obtain ⟨ua605_5,uc605_5,rfl,ul605_5,ge605_5⟩:=k29_openF hMe605
                          have hv605_5:=hcc605 5 _ rfl
                          rw [add_field _ _ 5 (by omega)] at hv605_5
                          replace hv605_5:=Option.some.inj (hv605_5.symm.trans hx605_5)
                          injection hv605_5 with hva_ hvn_ hvc_
                          rw [hva_] at ge605_5
                          rw [hvc_] at ul605_5
                          have HL605_5:=Az.mk (show Kd.V (Kd.int .i64) 3 _ w.heap.size _ _ ((rd_T29 t578 (rd t600 x62_4)).f5) from Kd.V_mk ul605_5 ge605_5)
                          clear hva_ hvn_ hvc_ ge605_5 ul605_5
                          clear hcc605 hce605
                          have HR605_5:=Az.mk hi605_5
                          have HC605_5:=Az.mk hl605_5
                          clear hi605_5 hl605_5
                          replace p605:=eq_true p605
                          replace q605:=eq_true q605
                          go_wp2
                          go_loopg [18,88] kj35 (fun kq v18 v88 w'=>∃ (x18_6 : Bool) (x88_6 : Int),v18 = .bool x18_6∧v88 = .int .i64 x88_6∧Az (w4TreeReaches.l3 kq a2 t578 t581 t584 (rd t589 x41_1) x13_4 (rd t600 x62_4) x18_6 t589 (t589.length : Int) x41_1 t584 (t584.length : Int) x54_3 t600 (t600.length : Int) x62_4 ((rd_T29 t578 (rd t600 x62_4)).f5) (((rd_T29 t578 (rd t600 x62_4)).f5).length : Int) x88_6 = some r)∧Az (kq≤kj35)∧Az (Kd.N k29 29 w' w.heap.size (fun k_=>some k_≠((.slice (some ad599) t584.length co26) : Value).ownBlock∧some k_≠((.slice (some ad598) t589.length co19) : Value).ownBlock∧some k_≠((.slice (some ad599) t584.length co26) : Value).ownBlock∧some k_≠((.slice (some ad603) t600.length co32) : Value).ownBlock∧k_≠gb576) (.slice (some ad605) t578.length co16) t578)∧Az (Kd.R (Kd.int .i64) 3 w' w.heap.size (fun k_=>some k_≠((.slice (some ad598) t589.length co19) : Value).ownBlock∧some k_≠((.slice (some ad603) t600.length co32) : Value).ownBlock) (.slice (some ad599) t584.length co26) t584)∧Az (Kd.R (Kd.int .i64) 3 w' w.heap.size (fun k_=>some k_≠((.slice (some ad599) t584.length co26) : Value).ownBlock∧some k_≠((.slice (some ad599) t584.length co26) : Value).ownBlock∧some k_≠((.slice (some ad603) t600.length co32) : Value).ownBlock) (.slice (some ad598) t589.length co19) t589)∧Az (Kd.R (Kd.int .i64) 3 w' w.heap.size (fun k_=>some k_≠((.slice (some ad598) t589.length co19) : Value).ownBlock∧some k_≠((.slice (some ad603) t600.length co32) : Value).ownBlock) (.slice (some ad599) t584.length co26) t584)∧Az (Kd.R (Kd.int .i64) 3 w' w.heap.size (fun k_=>some k_≠((.slice (some ad599) t584.length co26) : Value).ownBlock∧some k_≠((.slice (some ad598) t589.length co19) : Value).ownBlock∧some k_≠((.slice (some ad599) t584.length co26) : Value).ownBlock) (.slice (some ad603) t600.length co32) t600)∧Az (w'.heap[gb576]? = some (.cells #[.bool a0_0,.int .i64 a0_1,.int .i64 a0_2,.int .i64 a0_3,.int .i64 a0_4,(.slice A0_5 l0_5.length c0_5)] 29 (0,0)))∧Az (Kd.C (Kd.int .i64) w' A605_5 ((rd_T29 t578 (rd t600 x62_4)).f5).length ((rd_T29 t578 (rd t600 x62_4)).f5))∧Az (Below w.heap.size w w'))
                          case atStart=>exact ⟨(false),(0),(by first | rfl | (simp;done) | (simp [*];done)),(by first | rfl | (simp;done) | (simp [*];done)),H',⟨Nat.le_refl _⟩,⟨N_mv HO_7.out⟩,⟨R_mv HO_10.out⟩,⟨R_mv HO_39.out⟩,⟨R_mv HO_52.out⟩,⟨R_mv HO_60.out⟩,⟨blk_mv BK576.out⟩,⟨by repeat (first | (with_reducible exact HR605_5.out) | (with_reducible refine Kd.C_alloc ?_ _) | (with_reducible refine Kd.C_drewN ?_ _) | (with_reducible refine Kd.C_drew ?_) | exact HR605_5.out)⟩,⟨by repeat (with_reducible first | exact bmv HB.out | refine bwS ?_ GE576.out)⟩⟩
                          case round=>
                           clear H'
                           try clear c1
                           try clear c5
                           try clear c9
                           try clear c20
                           try clear c20b0
                           try clear c21
                           try clear c21b0
                           try clear c22
                           try clear c22b0
                           try clear c24
                           try clear c24b0
                           try clear c25
                           try clear c27
                           try clear c27b0
                           try clear c28
                           try clear c28b0
                           try clear c29
                           try clear c29b0
                           try clear c33
                           try clear c33b0
                           try clear c34
                           try clear c34b0
                           try clear c35
                           try clear c35b0
                           try clear c37
                           try clear c37b0
                           try clear c38
                           try clear c38b0
                           try clear c39
                           try clear c39b0
                           try clear c40
                           try clear c40b0
                           try clear c41
                           try clear c42
                           try clear c42b0
                           try clear c43
                           try clear c43b0
                           try clear hcz14_0
                           try clear hcz14_1
                           try clear hcz14_2
                           try clear hcz14_3
                           try clear hcz14_4
                           try clear hcz14_5
                           try clear hfz14_0
                           try clear hfz14_1
                           try clear hfz14_2
                           try clear hfz14_3
                           try clear hfz14_4
                           try clear hfz14_5
                           try clear hx598_0
                           try clear hx599_0
                           try clear hx603_0
                           try clear hx604_0
                           try clear hx604_1
                           try clear hx604_2
                           try clear hx604_3
                           try clear hx604_4
                           try clear hx604_5
                           try clear hx605_0
                           try clear hx605_1
                           try clear hx605_2
                           try clear hx605_3
                           try clear hx605_4
                           try clear hx605_5
                           try clear p598
                           try clear p599
                           try clear p603
                           try clear p604
                           try clear p605
                           try clear q598
                           try clear q599
                           try clear q603
                           try clear q604
                           try clear q605
                           obtain ⟨x18_6,x88_6,rfl,rfl,HA,HK6,HO_7,HO_10,HO_39,HO_52,HO_60,BK576,HR605_5,HB⟩:=hrel
                           cases gk with
                           | zero=>exact absurd HA.out (by simp [w4TreeReaches.l3])
                           | succ k6=>
                            have H:=HA.out
                            clear HA
                            simp only [w4TreeReaches.l3] at H
                            by_cases c44 : x88_6 < (((rd_T29 t578 (rd t600 x62_4)).f5).length : Int)
                            ·
                             rw [if_pos c44] at H
                             have c44b0 : decide (x88_6 < (((rd_T29 t578 (rd t600 x62_4)).f5).length : Int)) = true:=decide_eq_true c44
                             clear c44
                             by_cases c45 : 0≤x88_6
                             ·
                              rw [if_pos c45] at H
                              have c45b0 : decide (0≤x88_6) = true:=decide_eq_true c45
                              clear c45
                              by_cases c46 : x88_6 < (((rd_T29 t578 (rd t600 x62_4)).f5).length : Int)
                              ·
                               rw [if_pos c46] at H
                               have c46b0 : decide (x88_6 < (((rd_T29 t578 (rd t600 x62_4)).f5).length : Int)) = true:=decide_eq_true c46
                               clear c46
                               by_cases c47 : x18_6 = true
                               ·
                                subst c47
                                have H1 : (w4TreeReaches.l3 k6 a2 t578 t581 t584 (rd t589 x41_1) x13_4 (rd t600 x62_4) true t589 (t589.length : Int) x41_1 t584 (t584.length : Int) x54_3 t600 (t600.length : Int) x62_4 ((rd_T29 t578 (rd t600 x62_4)).f5) (((rd_T29 t578 (rd t600 x62_4)).f5).length : Int) (wrap64 (x88_6 + 1))) = some r:=by rw [if_pos rfl] at H;exact H
                                clear H
                                have H:=H1
                                clear H1
                                have H':=Az.mk H
                                clear H
                                have p606 : 0≤(x88_6 : Int):=of_decide_eq_true (by first | (with_reducible assumption) | assumption)
                                have q606 : x88_6 < (((rd_T29 t578 (rd t600 x62_4)).f5).length : Int):=of_decide_eq_true (by first | (with_reducible assumption) | assumption)
                                obtain ⟨ad606,e606,hx606_0⟩:=Kd.at_int HR605_5.out x88_6 p606 q606
                                cases e606
                                replace p606:=eq_true p606
                                replace q606:=eq_true q606
                                go_wp2
                                go_roundg k6
                                case measure=>have:=HK1.out;have:=HJ22.out;have:=HK3.out;have:=HK4.out;have:=HJ35.out;have:=HK6.out;omega
                                case rel=>exact ⟨(true),(wrap64 (x88_6 + 1)),(by first | rfl | (simp;done) | (simp [*];done)),(by first | rfl | (simp;done) | (simp [*];done)),H',⟨by have:=HK1.out;have:=HJ22.out;have:=HK3.out;have:=HK4.out;have:=HJ35.out;have:=HK6.out;omega⟩,⟨N_mv HO_7.out⟩,⟨R_mv HO_10.out⟩,⟨R_mv HO_39.out⟩,⟨R_mv HO_52.out⟩,⟨R_mv HO_60.out⟩,⟨blk_mv BK576.out⟩,⟨by repeat (first | (with_reducible exact HR605_5.out) | (with_reducible refine Kd.C_alloc ?_ _) | (with_reducible refine Kd.C_drewN ?_ _) | (with_reducible refine Kd.C_drew ?_) | exact HR605_5.out)⟩,⟨by repeat (with_reducible first | exact bmv HB.out | refine bwS ?_ GE576.out)⟩⟩
                               ·
                                replace c47:=Bool.eq_false_iff.mpr c47
                                subst c47
                                have H1 : (w4TreeReaches.l3 k6 a2 t578 t581 t584 (rd t589 x41_1) x13_4 (rd t600 x62_4) ((rd ((rd_T29 t578 (rd t600 x62_4)).f5) x88_6) == (rd t589 x41_1)) t589 (t589.length : Int) x41_1 t584 (t584.length : Int) x54_3 t600 (t600.length : Int) x62_4 ((rd_T29 t578 (rd t600 x62_4)).f5) (((rd_T29 t578 (rd t600 x62_4)).f5).length : Int) (wrap64 (x88_6 + 1))) = some r:=by rw [if_neg (show ¬ (false = true) by decide)] at H;exact H
                                clear H
                                have H:=H1
                                clear H1
                                have H':=Az.mk H
                                clear H
                                have p606 : 0≤(x88_6 : Int):=of_decide_eq_true (by first | (with_reducible assumption) | assumption)
                                have q606 : x88_6 < (((rd_T29 t578 (rd t600 x62_4)).f5).length : Int):=of_decide_eq_true (by first | (with_reducible assumption) | assumption)
                                obtain ⟨ad606,e606,hx606_0⟩:=Kd.at_int HR605_5.out x88_6 p606 q606
                                cases e606
                                replace p606:=eq_true p606
                                replace q606:=eq_true q606
                                go_wp2
                                go_roundg k6
                                case measure=>have:=HK1.out;have:=HJ22.out;have:=HK3.out;have:=HK4.out;have:=HJ35.out;have:=HK6.out;omega
                                case rel=>exact ⟨(((rd ((rd_T29 t578 (rd t600 x62_4)).f5) x88_6) == (rd t589 x41_1))),(wrap64 (x88_6 + 1)),(by first | rfl | (simp;done) | (simp [*];done)),(by first | rfl | (simp;done) | (simp [*];done)),H',⟨by have:=HK1.out;have:=HJ22.out;have:=HK3.out;have:=HK4.out;have:=HJ35.out;have:=HK6.out;omega⟩,⟨N_mv HO_7.out⟩,⟨R_mv HO_10.out⟩,⟨R_mv HO_39.out⟩,⟨R_mv HO_52.out⟩,⟨R_mv HO_60.out⟩,⟨blk_mv BK576.out⟩,⟨by repeat (first | (with_reducible exact HR605_5.out) | (with_reducible refine Kd.C_alloc ?_ _) | (with_reducible refine Kd.C_drewN ?_ _) | (with_reducible refine Kd.C_drew ?_) | exact HR605_5.out)⟩,⟨by repeat (with_reducible first | exact bmv HB.out | refine bwS ?_ GE576.out)⟩⟩
                              ·
                               rw [if_neg c46] at H
                               exact absurd H (by simp)
                             ·
                              rw [if_neg c45] at H
                              exact absurd H (by simp)
                            ·
                             rw [if_neg c44] at H
                             have c44b0 : decide (x88_6 < (((rd_T29 t578 (rd t600 x62_4)).f5).length : Int)) = false:=decide_eq_false c44
                             clear c44
                             replace H:=Option.bind_eq_some_iff.mp H
                             obtain ⟨t607,A480,H⟩:=H
                             replace H : (if t607 = true then (if x18_6 = true then (w4TreeReaches.l2 k6 a2 t578 t581 t584 (rd t589 x41_1) x13_4 t589 (t589.length : Int) x41_1 t584 (t584.length : Int) x54_3 t600 (t600.length : Int) (wrap64 (x62_4 + 1))) else (w4TreeReaches.l2 k6 a2 t578 t581 t584 (rd t589 x41_1) (wrap64 (x13_4 + 1)) t589 (t589.length : Int) x41_1 t584 (t584.length : Int) x54_3 t600 (t600.length : Int) (wrap64 (x62_4 + 1)))) else (w4TreeReaches.l2 k6 a2 t578 t581 t584 (rd t589 x41_1) x13_4 t589 (t589.length : Int) x41_1 t584 (t584.length : Int) x54_3 t600 (t600.length : Int) (wrap64 (x62_4 + 1)))) = some r:=H
                             have A48:=Az.mk A480
                             clear A480
                             by_cases c49 : t607 = true
                             ·
                              subst c49
                              have H1 : (if x18_6 = true then (w4TreeReaches.l2 k6 a2 t578 t581 t584 (rd t589 x41_1) x13_4 t589 (t589.length : Int) x41_1 t584 (t584.length : Int) x54_3 t600 (t600.length : Int) (wrap64 (x62_4 + 1))) else (w4TreeReaches.l2 k6 a2 t578 t581 t584 (rd t589 x41_1) (wrap64 (x13_4 + 1)) t589 (t589.length : Int) x41_1 t584 (t584.length : Int) x54_3 t600 (t600.length : Int) (wrap64 (x62_4 + 1)))) = some r:=by rw [if_pos rfl] at H;exact H
                              clear H
                              have H:=H1
                              clear H1
                              by_cases c50 : x18_6 = true
                              ·
                               subst c50
                               have H1 : (w4TreeReaches.l2 k6 a2 t578 t581 t584 (rd t589 x41_1) x13_4 t589 (t589.length : Int) x41_1 t584 (t584.length : Int) x54_3 t600 (t600.length : Int) (wrap64 (x62_4 + 1))) = some r:=by rw [if_pos rfl] at H;exact H
                               clear H
                               have H:=H1
                               clear H1
                               have H':=Az.mk H
                               clear H
                               go_wp2_with (first | ((with_reducible refine gate_callee (f:=26) rfl ?_);refine goesL_ (some 103) rfl rfl Tryd.func26 (by kernel_rfl) rfl #[.int .i64 (wrap64 (2 * (rd t589 x41_1))),.int .i64 (rd t600 x62_4),.int .i64 t581] rfl (by (try simp only [List.map_toArray,List.map_cons,List.map_nil]);first | done | rfl | (simp only [List.length_drop,List.length_take];rfl)) ?_;(with_reducible refine (r3Under.calls k6 (wrap64 (2 * (rd t589 x41_1))) (rd t600 x62_4) t581 true _ A48.out).mono ?_);rintro e w' ⟨rfl,⟨nd,rfl⟩⟩;refine ⟨_,rfl,?_⟩))
                               go_roundg k6
                               case measure=>have:=HK1.out;have:=HJ22.out;have:=HK3.out;have:=HK4.out;have:=HJ35.out;have:=HK6.out;omega
                               case rel=>exact ⟨(x13_4),(wrap64 (x62_4 + 1)),(by first | rfl | (simp;done) | (simp [*];done)),(by first | rfl | (simp;done) | (simp [*];done)),H',⟨by have:=HK1.out;have:=HJ22.out;have:=HK3.out;have:=HK4.out;have:=HJ35.out;have:=HK6.out;omega⟩,⟨N_mv HO_7.out⟩,⟨R_mv HO_10.out⟩,⟨R_mv HO_39.out⟩,⟨R_mv HO_52.out⟩,⟨R_mv HO_60.out⟩,⟨blk_mv BK576.out⟩,⟨by repeat (with_reducible first | exact bmv HB.out | refine bwS ?_ GE576.out)⟩⟩
                              ·
                               replace c50:=Bool.eq_false_iff.mpr c50
                               subst c50
                               have H1 : (w4TreeReaches.l2 k6 a2 t578 t581 t584 (rd t589 x41_1) (wrap64 (x13_4 + 1)) t589 (t589.length : Int) x41_1 t584 (t584.length : Int) x54_3 t600 (t600.length : Int) (wrap64 (x62_4 + 1))) = some r:=by rw [if_neg (show ¬ (false = true) by decide)] at H;exact H
                               clear H
                               have H:=H1
                               clear H1
                               have H':=Az.mk H
                               clear H
                               go_wp2_with (first | ((with_reducible refine gate_callee (f:=26) rfl ?_);refine goesL_ (some 103) rfl rfl Tryd.func26 (by kernel_rfl) rfl #[.int .i64 (wrap64 (2 * (rd t589 x41_1))),.int .i64 (rd t600 x62_4),.int .i64 t581] rfl (by (try simp only [List.map_toArray,List.map_cons,List.map_nil]);first | done | rfl | (simp only [List.length_drop,List.length_take];rfl)) ?_;(with_reducible refine (r3Under.calls k6 (wrap64 (2 * (rd t589 x41_1))) (rd t600 x62_4) t581 true _ A48.out).mono ?_);rintro e w' ⟨rfl,⟨nd,rfl⟩⟩;refine ⟨_,rfl,?_⟩))
                               go_roundg k6
                               case measure=>have:=HK1.out;have:=HJ22.out;have:=HK3.out;have:=HK4.out;have:=HJ35.out;have:=HK6.out;omega
                               case rel=>exact ⟨(wrap64 (x13_4 + 1)),(wrap64 (x62_4 + 1)),(by first | rfl | (simp;done) | (simp [*];done)),(by first | rfl | (simp;done) | (simp [*];done)),H',⟨by have:=HK1.out;have:=HJ22.out;have:=HK3.out;have:=HK4.out;have:=HJ35.out;have:=HK6.out;omega⟩,⟨N_mv HO_7.out⟩,⟨R_mv HO_10.out⟩,⟨R_mv HO_39.out⟩,⟨R_mv HO_52.out⟩,⟨R_mv HO_60.out⟩,⟨blk_mv BK576.out⟩,⟨by repeat (with_reducible first | exact bmv HB.out | refine bwS ?_ GE576.out)⟩⟩
                             ·
                              replace c49:=Bool.eq_false_iff.mpr c49
                              subst c49
                              have H1 : (w4TreeReaches.l2 k6 a2 t578 t581 t584 (rd t589 x41_1) x13_4 t589 (t589.length : Int) x41_1 t584 (t584.length : Int) x54_3 t600 (t600.length : Int) (wrap64 (x62_4 + 1))) = some r:=by rw [if_neg (show ¬ (false = true) by decide)] at H;exact H
                              clear H
                              have H:=H1
                              clear H1
                              have H':=Az.mk H
                              clear H
                              go_wp2_with (first | ((with_reducible refine gate_callee (f:=26) rfl ?_);refine goesL_ (some 103) rfl rfl Tryd.func26 (by kernel_rfl) rfl #[.int .i64 (wrap64 (2 * (rd t589 x41_1))),.int .i64 (rd t600 x62_4),.int .i64 t581] rfl (by (try simp only [List.map_toArray,List.map_cons,List.map_nil]);first | done | rfl | (simp only [List.length_drop,List.length_take];rfl)) ?_;(with_reducible refine (r3Under.calls k6 (wrap64 (2 * (rd t589 x41_1))) (rd t600 x62_4) t581 false _ A48.out).mono ?_);rintro e w' ⟨rfl,⟨nd,rfl⟩⟩;refine ⟨_,rfl,?_⟩))
                              go_roundg k6
                              case measure=>have:=HK1.out;have:=HJ22.out;have:=HK3.out;have:=HK4.out;have:=HJ35.out;have:=HK6.out;omega
                              case rel=>exact ⟨(x13_4),(wrap64 (x62_4 + 1)),(by first | rfl | (simp;done) | (simp [*];done)),(by first | rfl | (simp;done) | (simp [*];done)),H',⟨by have:=HK1.out;have:=HJ22.out;have:=HK3.out;have:=HK4.out;have:=HJ35.out;have:=HK6.out;omega⟩,⟨N_mv HO_7.out⟩,⟨R_mv HO_10.out⟩,⟨R_mv HO_39.out⟩,⟨R_mv HO_52.out⟩,⟨R_mv HO_60.out⟩,⟨blk_mv BK576.out⟩,⟨by repeat (with_reducible first | exact bmv HB.out | refine bwS ?_ GE576.out)⟩⟩
                         ·
                          rw [if_neg c43] at H
                          exact absurd H (by simp)
                        ·
                         rw [if_neg c42] at H
                         exact absurd H (by simp)
                    ·
                     rw [if_neg c35] at H
                     exact absurd H (by simp)
                   ·
                    rw [if_neg c34] at H
                    exact absurd H (by simp)
                  ·
                   rw [if_neg c33] at H
                   have c33b0 : decide (x62_4 < (t600.length : Int)) = false:=decide_eq_false c33
                   clear c33
                   have H':=Az.mk H
                   clear H
                   go_wp2
                   go_roundg k4
                   case measure=>have:=HK1.out;have:=HJ22.out;have:=HK3.out;have:=HK4.out;omega
                   case rel=>exact ⟨(x13_4),(wrap64 (x54_3 + 1)),(by first | rfl | (simp;done) | (simp [*];done)),(by first | rfl | (simp;done) | (simp [*];done)),H',⟨by have:=HK1.out;have:=HJ22.out;have:=HK3.out;have:=HK4.out;omega⟩,⟨N_mv (Kd.N_mono HO_7.out (fun _ hk=>⟨hk.1,⟨hk.2.1,⟨hk.2.2.1,hk.2.2.2.2⟩⟩⟩))⟩,⟨R_mv (Kd.R_mono HO_10.out (fun _ hk=>hk.1))⟩,⟨R_mv (Kd.R_mono HO_39.out (fun _ hk=>⟨hk.1,hk.2.1⟩))⟩,⟨R_mv (Kd.R_mono HO_52.out (fun _ hk=>hk.1))⟩,⟨blk_mv BK576.out⟩,⟨by repeat (with_reducible first | exact bmv HB.out | refine bwS ?_ GE576.out)⟩⟩
               ·
                rw [if_neg c29] at H
                exact absurd H (by simp)
              ·
               rw [if_neg c28] at H
               exact absurd H (by simp)
             ·
              rw [if_neg c27] at H
              have c27b0 : decide (x54_3 < (t584.length : Int)) = false:=decide_eq_false c27
              clear c27
              by_cases c51 : (rd t589 x41_1) = a2
              ·
               rw [if_pos c51] at H
               have c51b0 : ((rd t589 x41_1) == a2) = true:=beq_iff_eq.mpr c51
               have c51b1 : ((rd t589 x41_1) != a2) = false:=bne_eq_false_iff_eq.mpr c51
               clear c51
               by_cases c52 : x13_3 = 0
               ·
                rw [if_pos c52] at H
                have c52b0 : (x13_3 == 0) = true:=beq_iff_eq.mpr c52
                have c52b1 : (x13_3 != 0) = false:=bne_eq_false_iff_eq.mpr c52
                clear c52
                have H':=Az.mk H
                clear H
                go_wp2
                go_roundg k3
                case measure=>have:=HK1.out;have:=HJ22.out;have:=HK3.out;omega
                case rel=>exact ⟨(wrap64 (x41_1 + 1)),(by first | rfl | (simp;done) | (simp [*];done)),H',⟨by have:=HK1.out;have:=HJ22.out;have:=HK3.out;omega⟩,⟨N_mv (Kd.N_mono HO_7.out (fun _ hk=>⟨hk.1,⟨hk.2.1,hk.2.2.2⟩⟩))⟩,⟨R_mv HO_10.out⟩,⟨R_mv (Kd.R_mono HO_39.out (fun _ hk=>hk.1))⟩,⟨blk_mv BK576.out⟩,⟨by repeat (with_reducible first | exact bmv HB.out | refine bwS ?_ GE576.out)⟩⟩
               ·
                rw [if_neg c52] at H
                have c52b0 : (x13_3 == 0) = false:=beq_eq_false_iff_ne.mpr c52
                have c52b1 : (x13_3 != 0) = true:=bne_iff_ne.mpr c52
                obtain rfl:=Option.some.inj H
                try exact absurd hr Bool.false_ne_true
                all_goals
                 go_wp2
                 go_ret
                 exact ⟨by first | rfl | (simp [errW_none,errW_some] <;> rfl) | (simp [*,errW_none,errW_some] <;> rfl),by repeat (with_reducible first | exact bmv HB.out | refine bwS ?_ GE576.out)⟩
              ·
               rw [if_neg c51] at H
               have c51b0 : ((rd t589 x41_1) == a2) = false:=beq_eq_false_iff_ne.mpr c51
               have c51b1 : ((rd t589 x41_1) != a2) = true:=bne_iff_ne.mpr c51
               by_cases c53 : x13_3 = 1
               ·
                rw [if_pos c53] at H
                have c53b0 : (x13_3 == 1) = true:=beq_iff_eq.mpr c53
                have c53b1 : (x13_3 != 1) = false:=bne_eq_false_iff_eq.mpr c53
                clear c53
                have H':=Az.mk H
                clear H
                go_wp2
                go_roundg k3
                case measure=>have:=HK1.out;have:=HJ22.out;have:=HK3.out;omega
                case rel=>exact ⟨(wrap64 (x41_1 + 1)),(by first | rfl | (simp;done) | (simp [*];done)),H',⟨by have:=HK1.out;have:=HJ22.out;have:=HK3.out;omega⟩,⟨N_mv (Kd.N_mono HO_7.out (fun _ hk=>⟨hk.1,⟨hk.2.1,hk.2.2.2⟩⟩))⟩,⟨R_mv HO_10.out⟩,⟨R_mv (Kd.R_mono HO_39.out (fun _ hk=>hk.1))⟩,⟨blk_mv BK576.out⟩,⟨by repeat (with_reducible first | exact bmv HB.out | refine bwS ?_ GE576.out)⟩⟩
               ·
                rw [if_neg c53] at H
                have c53b0 : (x13_3 == 1) = false:=beq_eq_false_iff_ne.mpr c53
                have c53b1 : (x13_3 != 1) = true:=bne_iff_ne.mpr c53
                obtain rfl:=Option.some.inj H
                try exact absurd hr Bool.false_ne_true
                all_goals
                 go_wp2
                 go_ret
                 exact ⟨by first | rfl | (simp [errW_none,errW_some] <;> rfl) | (simp [*,errW_none,errW_some] <;> rfl),by repeat (with_reducible first | exact bmv HB.out | refine bwS ?_ GE576.out)⟩
       ·
        rw [if_neg c22] at H
        exact absurd H (by simp)
      ·
       rw [if_neg c21] at H
       exact absurd H (by simp)
     ·
      rw [if_neg c20] at H
      have c20b0 : decide (x41_1 < (t589.length : Int)) = false:=decide_eq_false c20
      clear c20
      replace H:=Option.bind_eq_some_iff.mp H
      obtain ⟨t592,A540,H⟩:=H
      replace H : ((r4Members.f k1 t578).bind fun t595=>(some ((t592.length : Int) == (t595.length : Int)))) = some r:=H
      have A54:=Az.mk A540
      clear A540
      replace H:=Option.bind_eq_some_iff.mp H
      obtain ⟨t595,A550,H⟩:=H
      replace H : (some ((t592.length : Int) == (t595.length : Int))) = some r:=H
      have A55:=Az.mk A550
      clear A550
      obtain rfl:=Option.some.inj H
      try exact absurd hr Bool.false_ne_true
      all_goals
       go_wp2_with (first | ((with_reducible refine gate_callee (f:=24) rfl ?_);refine goesL_ (some 130) rfl rfl Tryd.func24 (by kernel_rfl) rfl #[.slice Ao16 t578.length co16] rfl (by (try simp only [List.map_toArray,List.map_cons,List.map_nil]);first | done | rfl | (simp only [List.length_drop,List.length_take];rfl)) ?_;(with_reducible refine (tree_Members.calls k1 _ _ t578 t592 _ ?side1 ?side2 A54.out).mono ?_);(case side1=>exact C_mv ((Kd.N_reads' HO_7.out).2.2));(case side2=>exact (Kd.N_reads' HO_7.out).2.1);rintro e w56 ⟨v593,rfl,ho0,hb⟩;refine ⟨_,rfl,?_⟩;have n0_:=Az.mk (Kd.N_elder' (N_mv HO_7.out) (Kd.R_base ho0) hb);have n1_:=Az.mk (Kd.R_elder' (R_mv HO_10.out) (Kd.R_base ho0) hb);have n2_:=Az.mk (Kd.R_elder' (R_mv HO_39.out) (Kd.R_base ho0) hb);have n3_:=Az.mk (Kd.R_lower (Kd.R_new' (Kd.R_new' ho0 (Kd.R_lt (R_mv HO_10.out))) (Kd.R_lt (R_mv HO_39.out))) (bwZ (by repeat (with_reducible first |exact bmv HB.out |refine bwS ?_ GE576.out))));have n4_:=Az.mk (kB (g:=gb576) (o:=.cells #[.bool a0_0,.int .i64 a0_1,.int .i64 a0_2,.int .i64 a0_3,.int .i64 a0_4,.slice A0_5 l0_5.length c0_5] 29 (0,0)) (blk_mv BK576.out) hb);have n5_:=Az.mk (bwT (by repeat (with_reducible first |exact bmv HB.out |refine bwS ?_ GE576.out)) hb);clear HO_7;clear HO_10;clear HO_39;clear BK576;clear HB;have HO_7:=n0_;have HO_10:=n1_;have HO_39:=n2_;have HO594:=n3_;have BK576:=n4_;have HB:=n5_;clear n0_ n1_ n2_ n3_ n4_ n5_;(try clear hb);(try clear hb2);(try clear hk);(try clear hi);(try clear ho0);obtain ⟨Ao57,co57,eo57⟩:=Kd.R_slice HO594.out;subst eo57) | ((with_reducible refine gate_callee (f:=27) rfl ?_);refine goesL_ (some 133) rfl rfl Tryd.func27 (by kernel_rfl) rfl #[.slice Ao16 t578.length co16] rfl (by (try simp only [List.map_toArray,List.map_cons,List.map_nil]);first | done | rfl | (simp only [List.length_drop,List.length_take];rfl)) ?_;(with_reducible refine (r4Members.calls k1 _ _ t578 t595 _ ?side1 ?side2 A55.out).mono ?_);(case side1=>exact C_mv ((Kd.N_reads' HO_7.out).2.2));(case side2=>exact (Kd.N_reads' HO_7.out).2.1);rintro e w58 ⟨v596,rfl,ho0,hb⟩;refine ⟨_,rfl,?_⟩;have n0_:=Az.mk (Kd.N_elder' (N_mv HO_7.out) (Kd.R_base ho0) hb);have n1_:=Az.mk (Kd.R_elder' (R_mv HO_10.out) (Kd.R_base ho0) hb);have n2_:=Az.mk (Kd.R_elder' (R_mv HO_39.out) (Kd.R_base ho0) hb);have n3_:=Az.mk (Kd.R_elder' (R_mv HO594.out) (Kd.R_base ho0) hb);have n4_:=Az.mk (Kd.R_lower (Kd.R_new' (Kd.R_new' (Kd.R_new' ho0 (Kd.R_lt (R_mv HO_10.out))) (Kd.R_lt (R_mv HO_39.out))) (Kd.R_lt (R_mv HO594.out))) (bwZ (by repeat (with_reducible first |exact bmv HB.out |refine bwS ?_ GE576.out))));have n5_:=Az.mk (kB (g:=gb576) (o:=.cells #[.bool a0_0,.int .i64 a0_1,.int .i64 a0_2,.int .i64 a0_3,.int .i64 a0_4,.slice A0_5 l0_5.length c0_5] 29 (0,0)) (blk_mv BK576.out) hb);have n6_:=Az.mk (bwT (by repeat (with_reducible first |exact bmv HB.out |refine bwS ?_ GE576.out)) hb);clear HO_7;clear HO_10;clear HO_39;clear HO594;clear BK576;clear HB;have HO_7:=n0_;have HO_10:=n1_;have HO_39:=n2_;have HO594:=n3_;have HO597:=n4_;have BK576:=n5_;have HB:=n6_;clear n0_ n1_ n2_ n3_ n4_ n5_ n6_;(try clear hb);(try clear hb2);(try clear hk);(try clear hi);(try clear ho0);obtain ⟨Ao59,co59,eo59⟩:=Kd.R_slice HO597.out;subst eo59))
       go_ret
       exact ⟨by first | rfl | (simp [errW_none,errW_some] <;> rfl) | (simp [*,errW_none,errW_some] <;> rfl),by repeat (with_reducible first | exact bmv HB.out | refine bwS ?_ GE576.out)⟩
  ·
   replace c9:=Bool.eq_false_iff.mpr c9
   subst c9
   have H1 : (some true) = some r:=by rw [if_neg (show ¬ (false = true) by decide)] at H;exact H
   clear H
   have H:=H1
   clear H1
   obtain rfl:=Option.some.inj H
   try exact absurd hr Bool.false_ne_true
   all_goals
    go_enter Tryd.func5,Tryd.ntmps5
    go_wp2_with (first | ((with_reducible refine gate_dst (N:=3) rfl ?_);(try (refine gate_guard (by rfl) ?_;dsimp only));refine box_event ?hg (N:=3) ?hd (cs:=#[.bool a0_0,.int .i64 a0_1,.int .i64 a0_2,.int .i64 a0_3,.int .i64 a0_4,.slice A0_5 l0_5.length c0_5]) (t:=29) ?hr ?_;(case hd=>rfl);(case hg=>rfl);(case hr=>first | (go_simp;done) | (go_simp;rfl));intro gb576 hg w60 hbox hb;have n0_:=Az.mk (bwT (bmv HB.out) hb);have n1_:=Az.mk (hbox);have n2_:=Az.mk ((by rw [hg];exact (bwZ (bmv HB.out)) : w.heap.size≤gb576));have n3_:=Az.mk ((by rw [hg];exact (bwZ (bmv HB.out)) : w.heap.size≤gb576));clear HB;have HB:=n0_;have BK576:=n1_;have GW576:=n2_;have GE576:=n3_;clear n0_ n1_ n2_ n3_;clear hb hbox hg) | ((with_reducible refine gate_callee (f:=13) rfl ?_);refine goesL_ (some 21) rfl rfl Tryd.func13 (by kernel_rfl) rfl #[] rfl (by (try simp only [List.map_toArray,List.map_cons,List.map_nil]);first | done | rfl | (simp only [List.length_drop,List.length_take];rfl)) ?_;(with_reducible refine (w4anchor.calls (hrG:=?sideG) k  true _ A4.out).mono ?_);(case sideG=>(first | (with_reducible exact HRG.out) |exact TabG.below HRG.out (by repeat (first | (with_reducible first |exact HB.out |apply bwA |apply bwN |apply bw1 |refine bwS ?_ GE576.out) | (with_reducible exact Below.refl _ _)))));rintro e w61 ⟨rfl,hb⟩;refine ⟨_,rfl,?_⟩;have n0_:=Az.mk (kB (g:=gb576) (o:=.cells #[.bool a0_0,.int .i64 a0_1,.int .i64 a0_2,.int .i64 a0_3,.int .i64 a0_4,.slice A0_5 l0_5.length c0_5] 29 (0,0)) (blk_mv BK576.out) hb);have n1_:=Az.mk (bwT (by repeat (with_reducible first |exact bmv HB.out |refine bwS ?_ GE576.out)) hb);clear BK576;clear HB;have BK576:=n0_;have HB:=n1_;clear n0_ n1_;(try clear hb);(try clear hb2);(try clear hk);(try clear hi);obtain ⟨⟨hcz62_0,hcz62_1,hcz62_2,hcz62_3,hcz62_4,hcz62_5⟩,hfz62_0,hfz62_1,hfz62_2,hfz62_3,hfz62_4,hfz62_5⟩:=cells6 BK576.out) | ((with_reducible refine gate_callee (f:=18) rfl ?_);refine goesL_ (some 25) rfl rfl Tryd.func18 (by kernel_rfl) rfl #[.agg #[.bool a0_0,.int .i64 a0_1,.int .i64 a0_2,.int .i64 a0_3,.int .i64 a0_4,.slice A0_5 l0_5.length c0_5],.slice A1 l1.length c1] rfl (by (try simp only [List.map_toArray,List.map_cons,List.map_nil]);first | done | rfl | (simp only [List.length_drop,List.length_take];rfl)) ?_;(with_reducible refine (w4grown.calls k a0_0 a0_1 a0_2 a0_3 a0_4 _ _ l0_5 (fun k_=>k_ < w.heap.size) _ _ l1 t578 _ ?side1 ?side2 ?side3 A6.out).mono ?_);(case side1=>exact C_mv ((Kd.C_below HR0_5.out HB.out)));(case side2=>exact HC0_5.out);(case side3=>exact Kd.V_mk HC1.out (Kd.F_below (Kd.C_F k32_heap HR1.out) (by repeat (with_reducible first |exact bmv HB.out |refine bwS ?_ GE576.out))));rintro e w63 ⟨v579,rfl,ho0,hb⟩;refine ⟨_,rfl,?_⟩;have n0_:=Az.mk (Kd.N_lower (Kd.N_mono (ok':=fun k_=>k_≠gb576) ho0 (fun k_ hk_=>Or.elim hk_ (fun hs_=>fun e_=>Nat.not_le.2 hs_ (by rw [e_];exact GW576.out)) (fun hn_=>(Kd.freshB (g:=gb576) (o:=.cells #[.bool a0_0,.int .i64 a0_1,.int .i64 a0_2,.int .i64 a0_3,.int .i64 a0_4,.slice A0_5 l0_5.length c0_5] 29 (0,0)) (blk_mv BK576.out) k_ hn_)))) (bwZ (by repeat (with_reducible first |exact bmv HB.out |refine bwS ?_ GE576.out))));have n1_:=Az.mk (kB (g:=gb576) (o:=.cells #[.bool a0_0,.int .i64 a0_1,.int .i64 a0_2,.int .i64 a0_3,.int .i64 a0_4,.slice A0_5 l0_5.length c0_5] 29 (0,0)) (blk_mv BK576.out) hb);have n2_:=Az.mk (bwT (by repeat (with_reducible first |exact bmv HB.out |refine bwS ?_ GE576.out)) hb);clear BK576;clear HB;have HO580:=n0_;have BK576:=n1_;have HB:=n2_;clear n0_ n1_ n2_;(try clear hb);(try clear hb2);(try clear hk);(try clear hi);(try clear ho0);obtain ⟨Ao64,co64,eo64⟩:=Kd.N_slice HO580.out;subst eo64) | ((with_reducible refine gate_callee (f:=21) rfl ?_);refine goesL_ (some 27) rfl rfl Tryd.func21 (by kernel_rfl) rfl #[.slice Ao64 t578.length co64] rfl (by (try simp only [List.map_toArray,List.map_cons,List.map_nil]);first | done | rfl | (simp only [List.length_drop,List.length_take];rfl)) ?_;(with_reducible refine (r4Leaves.calls _ _ t578 t581 _ ?side1 ?side2 A7.out).mono ?_);(case side1=>exact C_mv ((Kd.N_reads' HO580.out).2.2));(case side2=>exact (Kd.N_reads' HO580.out).2.1);rintro e w' ⟨rfl,⟨nd,rfl⟩⟩;refine ⟨_,rfl,?_⟩) | ((with_reducible refine gate_callee (f:=22) rfl ?_);refine goesL_ (some 30) rfl rfl Tryd.func22 (by kernel_rfl) rfl #[.slice Ao64 t578.length co64,.int .i64 a2] rfl (by (try simp only [List.map_toArray,List.map_cons,List.map_nil]);first | done | rfl | (simp only [List.length_drop,List.length_take];rfl)) ?_;(with_reducible refine (r4Full.calls _ _ t578 a2 false _ ?side1 ?side2 A8.out).mono ?_);(case side1=>exact C_mv ((Kd.N_reads' HO580.out).2.2));(case side2=>exact (Kd.N_reads' HO580.out).2.1);rintro e w' ⟨rfl,⟨nd,rfl⟩⟩;refine ⟨_,rfl,?_⟩))
    go_ret
    exact ⟨by first | rfl | (simp [errW_none,errW_some] <;> rfl) | (simp [*,errW_none,errW_some] <;> rfl),by repeat (with_reducible first | exact bmv HB.out | refine bwS ?_ GE576.out)⟩
 ·
  replace c5:=Bool.eq_false_iff.mpr c5
  subst c5
  have H1 : (some false) = some r:=by rw [if_neg (show ¬ (false = true) by decide)] at H;exact H
  clear H
  have H:=H1
  clear H1
  obtain rfl:=Option.some.inj H
  try exact absurd hr Bool.false_ne_true
  all_goals
   go_enter Tryd.func5,Tryd.ntmps5
   go_wp2_with (first | ((with_reducible refine gate_dst (N:=3) rfl ?_);(try (refine gate_guard (by rfl) ?_;dsimp only));refine box_event ?hg (N:=3) ?hd (cs:=#[.bool a0_0,.int .i64 a0_1,.int .i64 a0_2,.int .i64 a0_3,.int .i64 a0_4,.slice A0_5 l0_5.length c0_5]) (t:=29) ?hr ?_;(case hd=>rfl);(case hg=>rfl);(case hr=>first | (go_simp;done) | (go_simp;rfl));intro gb576 hg w65 hbox hb;have n0_:=Az.mk (bwT (bmv HB.out) hb);have n1_:=Az.mk (hbox);have n2_:=Az.mk ((by rw [hg];exact (bwZ (bmv HB.out)) : w.heap.size≤gb576));have n3_:=Az.mk ((by rw [hg];exact (bwZ (bmv HB.out)) : w.heap.size≤gb576));clear HB;have HB:=n0_;have BK576:=n1_;have GW576:=n2_;have GE576:=n3_;clear n0_ n1_ n2_ n3_;clear hb hbox hg) | ((with_reducible refine gate_callee (f:=13) rfl ?_);refine goesL_ (some 21) rfl rfl Tryd.func13 (by kernel_rfl) rfl #[] rfl (by (try simp only [List.map_toArray,List.map_cons,List.map_nil]);first | done | rfl | (simp only [List.length_drop,List.length_take];rfl)) ?_;(with_reducible refine (w4anchor.calls (hrG:=?sideG) k  false _ A4.out).mono ?_);(case sideG=>(first | (with_reducible exact HRG.out) | exact TabG.below HRG.out (by repeat (first | (with_reducible first | exact HB.out | apply bwA | apply bwN | apply bw1 | refine bwS ?_ GE576.out) | (with_reducible exact Below.refl _ _)))));rintro e w66 ⟨rfl,hb⟩;refine ⟨_,rfl,?_⟩;have n0_:=Az.mk (kB (g:=gb576) (o:=.cells #[.bool a0_0,.int .i64 a0_1,.int .i64 a0_2,.int .i64 a0_3,.int .i64 a0_4,.slice A0_5 l0_5.length c0_5] 29 (0,0)) (blk_mv BK576.out) hb);have n1_:=Az.mk (bwT (by repeat (with_reducible first | exact bmv HB.out | refine bwS ?_ GE576.out)) hb);clear BK576;clear HB;have BK576:=n0_;have HB:=n1_;clear n0_ n1_;(try clear hb);(try clear hb2);(try clear hk);(try clear hi)))
   go_ret
   exact ⟨by first | rfl | (simp [errW_none,errW_some] <;> rfl) | (simp [*,errW_none,errW_some] <;> rfl),by repeat (with_reducible first | exact bmv HB.out | refine bwS ?_ GE576.out)⟩
def w4TreeReaches.Pure : Prop:=∀ (a0_0 : Bool) (a0_1 : Int) (a0_2 : Int) (a0_3 : Int) (a0_4 : Int) (l0_5 : List Int) (l1 : List S32) (a2 : Int),(Lit.int .i64 a0_1).wf = true→(Lit.int .i64 a0_2).wf = true→(Lit.int .i64 a0_3).wf = true→(Lit.int .i64 a0_4).wf = true→(l0_5.length≤maxLen∧∀ x ∈ l0_5,(Lit.int .i64 x).wf = true)→(∀ o ∈ l1,WfOp o)→(Lit.int .i64 a2).wf = true→∃ k,w4TreeReaches.f k a0_0 a0_1 a0_2 a0_3 a0_4 l0_5 l1 a2 = some true
theorem w4TreeReaches.walk (P : w4TreeReaches.Pure) (a0_0 : Bool) (a0_1 : Int) (a0_2 : Int) (a0_3 : Int) (a0_4 : Int) (A0_5 : Option Addr) (c0_5 : Nat) (l0_5 : List Int) (A1 : Option Addr) (c1 : Nat) (l1 : List S32) (a2 : Int) (w : World) (hrG : TabG w) (hr0_5 : Kd.C (Kd.int .i64) w A0_5 l0_5.length l0_5) (hc0_5 : l0_5.length≤c0_5) (hr1 : Kd.C k32 w A1 l1.length l1) (hc1 : l1.length≤c1) (h1 : (Lit.int .i64 a0_1).wf = true) (h2 : (Lit.int .i64 a0_2).wf = true) (h3 : (Lit.int .i64 a0_3).wf = true) (h4 : (Lit.int .i64 a0_4).wf = true) (h5 : l0_5.length≤maxLen∧∀ x ∈ l0_5,(Lit.int .i64 x).wf = true) (h6 : ∀ o ∈ l1,WfOp o) (h7 : (Lit.int .i64 a2).wf = true) :
 Calls Tryd.prog 5 #[.agg #[.bool a0_0,.int .i64 a0_1,.int .i64 a0_2,.int .i64 a0_3,.int .i64 a0_4,.slice A0_5 l0_5.length c0_5],.slice A1 l1.length c1,.int .i64 a2] w fun e w'=>e = .returned (.bool true)∧Below w.heap.size w w':=by
 obtain ⟨k,h⟩:=P a0_0 a0_1 a0_2 a0_3 a0_4 l0_5 l1 a2 h1 h2 h3 h4 h5 h6 h7
 refine (w4TreeReaches.calls (hrG:=hrG) k a0_0 a0_1 a0_2 a0_3 a0_4 A0_5 c0_5 l0_5 A1 c1 l1 a2 true w hr0_5 hc0_5 hr1 hc1 h rfl).mono ?_
 rintro e w' ⟨rfl,hd⟩
 exact ⟨rfl,hd⟩
end Go.Proofs.YtbblomnhobodkaaDoor.PTw
set_option linter.unusedVariables false
set_option linter.unusedSimpArgs false
namespace Go.Proofs.YtbblomnhobodkaaDoor
open Go.ChangeShapes Go.WideShapes Go.Deep Go.RowKit Go.Proofs.YtbblomnhobodkaaDoorW.PW Go.Proofs.YtbblomnhobodkaaDoor.PTw
section
variable {H : Type} {enc : TypeId × Value→H} {P : Program} {w : World} {base b0 : Nat} {r : Reach} {spare : Nat→Bool} {held : Bool}
theorem open_agg_fields {t : TypeId} {fs : Array Field} {v : Value} {d : DataW H} {p : List MemPlace} (hs : P.underlying t = some (.struct fs)) (hone : oneCellFields P fs = true) (hC : P.cellsOf t = fs.size)
 (hv : Value.okWide P w r b0 t v) (h : DataW.Trod enc P w base spare held t v d p) :
 ∃ cs : Array Value,v = .agg cs∧cs.size = fs.size∧∀ (j : Nat) (f : Field),fs[j]? = some f→∃ (u : Value) (y : DataW H × List MemPlace) (n : Nat),cs[j]? = some u∧DataW.trod enc P w base spare held n f.type [u] = some y:=by
 obtain ⟨cs,rfl,hsz⟩:=okWide_struct hs hv
 obtain ⟨fuel,hf⟩:=h
 obtain ⟨ys,n',hn',hy,hlen,hyl,hfl⟩:=DataW.trod_struct hs hf
 refine ⟨cs,rfl,hsz.trans hC,fun j f hj=>?_⟩
 obtain ⟨ho,hk⟩:=hone_of hone j f hj
 have hjl : j < fs.size:=(Array.getElem?_eq_some_iff.1 hj).1
 have hcl : cs.size = fs.size:=hsz.trans hC
 have h1:=hfl j f hj
 rw [ho,hk] at h1
 have e : ((Value.agg cs).cells.toList.drop j).take 1 = [cs[j]'(by omega)]:=by
  simp only [Value.cells]
  rw [List.drop_eq_getElem_cons (by simp;omega)]
  simp
 rw [e] at h1
 exact ⟨cs[j]'(by omega),_,n',Array.getElem?_eq_getElem (by omega),h1.trans (List.getElem?_eq_getElem (by omega))⟩
end
section
variable {H : Type} {enc : TypeId × Value→H} {W : World}
theorem inner_ints {n : Nat} {v : Value} {y : DataW H × List MemPlace} (h : DataW.trod enc Tryd.prog W 0 (fun _=>true) true n 27 [v] = some y) :
 ∃ (A : Option Addr) (c : Nat) (l : List Int),v = .slice A l.length c∧l.length≤c∧(Kd.int .i64).C W A l.length l∧l.length≤maxLen∧∀ x ∈ l,(Lit.int .i64 x).wf = true:=by
 obtain ⟨A,L,c,zs,rfl,hw⟩ : ∃ A L c zs,v = .slice A L c∧((A = none∧L = 0∧c = 0∧zs = [])∨∃ x,A = some x∧L≤c∧c≤maxLen∧zs.length = c∧(∀ i,i < zs.length→W.cell? (x.add i) = some (.int .i64 (zs.getD i 0)))∧∀ n ∈ zs,(Lit.int .i64 n).wf = true):=by
  rcases open_ints Tryd.underlying27 Tryd.underlying3 (by kernel_rfl) h with ⟨hcs,_⟩ | ⟨x,l,c,zs,hcs,_,hl,hm,hz,_,hcell,hwz⟩
  · simp at hcs
    exact ⟨none,0,0,[],hcs,.inl ⟨rfl,rfl,rfl,rfl⟩⟩
  · simp at hcs
    exact ⟨some x,l,c,zs,hcs,.inr ⟨_,rfl,hl,hm,by simpa using hz,hcell,hwz⟩⟩
 obtain ⟨l,rfl,h1,h2,h3,h4⟩:=ReadsInt.ofRowC hw
 exact ⟨A,c,l,rfl,h4,Kd.C_of_reads (d:=(0 : Int)) (h1:=fun _=>rfl) h1,h2,h3⟩
end
end Go.Proofs.YtbblomnhobodkaaDoor
set_option linter.unusedVariables false
set_option linter.unusedSimpArgs false
namespace Go.Proofs.YtbblomnhobodkaaDoor
open Go.ChangeShapes Go.WideShapes Go.Deep Go.RowKit Go.Proofs.YtbblomnhobodkaaDoorW.PW Go.Proofs.YtbblomnhobodkaaDoor.PTw
def WfX (v : S29) : Prop:=(Lit.int .i64 v.f1).wf = true∧(Lit.int .i64 v.f2).wf = true∧(Lit.int .i64 v.f3).wf = true∧(Lit.int .i64 v.f4).wf = true∧v.f5.length≤maxLen∧∀ x ∈ v.f5,(Lit.int .i64 x).wf = true
theorem nine {α : Type} : ∀ (l : List α),l.length = 9→∃ a b c d e f g h i,l = [a,b,c,d,e,f,g,h,i]
 | [a,b,c,d,e,f,g,h,i],_=>⟨a,b,c,d,e,f,g,h,i,rfl⟩
section
variable {H : Type} {enc : TypeId × Value→H} {W : World}
theorem some_at {α β : Type} {ys : List β} {j : Nat} {o : Option β} (h : o = ys[j]?) (hj : j < ys.length) : ∃ y,o = some y:=⟨_,h.trans (List.getElem?_eq_getElem hj)⟩
theorem vertex_cells {n : Nat} {c0 c1 c2 c3 c4 c5 : Value} {y : DataW H × List MemPlace} (h : DataW.trod enc Tryd.prog W 0 (fun _=>true) true n 29 [c0,c1,c2,c3,c4,c5] = some y) :
 ∃ v : S29,k29.K W v [c0,c1,c2,c3,c4,c5]∧WfX v:=by
 obtain ⟨ys,n',_,_,_,hyl,hf⟩:=DataW.trod_struct Tryd.underlying29 h
 have e3 : Tryd.prog.cellsOf 3 = 1:=by kernel_rfl
 have e4 : Tryd.prog.cellsOf 4 = 1:=by kernel_rfl
 have eI : Tryd.prog.cellsOf 27 = 1:=by kernel_rfl
 have u0 : DataW.trod enc Tryd.prog W 0 (fun _=>true) true n' 4 [c0] = ys[0]?:=by
  have h_ : DataW.trod enc Tryd.prog W 0 (fun _=>true) true n' 4 (([c0,c1,c2,c3,c4,c5].drop 0).take (Tryd.prog.cellsOf 4)) = ys[0]?:=hf 0 _ rfl
  rw [e4] at h_
  exact h_
 have u1 : DataW.trod enc Tryd.prog W 0 (fun _=>true) true n' 3 [c1] = ys[1]?:=by
  have h_ : DataW.trod enc Tryd.prog W 0 (fun _=>true) true n' 3 (([c0,c1,c2,c3,c4,c5].drop 1).take (Tryd.prog.cellsOf 3)) = ys[1]?:=hf 1 _ rfl
  rw [e3] at h_
  exact h_
 have u2 : DataW.trod enc Tryd.prog W 0 (fun _=>true) true n' 3 [c2] = ys[2]?:=by
  have h_ : DataW.trod enc Tryd.prog W 0 (fun _=>true) true n' 3 (([c0,c1,c2,c3,c4,c5].drop 2).take (Tryd.prog.cellsOf 3)) = ys[2]?:=hf 2 _ rfl
  rw [e3] at h_
  exact h_
 have u3 : DataW.trod enc Tryd.prog W 0 (fun _=>true) true n' 3 [c3] = ys[3]?:=by
  have h_ : DataW.trod enc Tryd.prog W 0 (fun _=>true) true n' 3 (([c0,c1,c2,c3,c4,c5].drop 3).take (Tryd.prog.cellsOf 3)) = ys[3]?:=hf 3 _ rfl
  rw [e3] at h_
  exact h_
 have u4 : DataW.trod enc Tryd.prog W 0 (fun _=>true) true n' 3 [c4] = ys[4]?:=by
  have h_ : DataW.trod enc Tryd.prog W 0 (fun _=>true) true n' 3 (([c0,c1,c2,c3,c4,c5].drop 4).take (Tryd.prog.cellsOf 3)) = ys[4]?:=hf 4 _ rfl
  rw [e3] at h_
  exact h_
 have u5 : DataW.trod enc Tryd.prog W 0 (fun _=>true) true n' 27 [c5] = ys[5]?:=by
  have h_ : DataW.trod enc Tryd.prog W 0 (fun _=>true) true n' 27 (([c0,c1,c2,c3,c4,c5].drop 5).take (Tryd.prog.cellsOf 27)) = ys[5]?:=hf 5 _ rfl
  rw [eI] at h_
  exact h_
 have hy : ys.length = 6:=hyl
 obtain ⟨y0,t0⟩:=some_at (α:=Nat) u0 (by omega)
 obtain ⟨y1,t1⟩:=some_at (α:=Nat) u1 (by omega)
 obtain ⟨y2,t2⟩:=some_at (α:=Nat) u2 (by omega)
 obtain ⟨y3,t3⟩:=some_at (α:=Nat) u3 (by omega)
 obtain ⟨y4,t4⟩:=some_at (α:=Nat) u4 (by omega)
 obtain ⟨y5,t5⟩:=some_at (α:=Nat) u5 (by omega)
 obtain ⟨b,hb,_⟩:=DataW.trod_bool Tryd.underlying4 t0
 obtain ⟨n1,h1,_,w1⟩:=DataW.trod_int Tryd.underlying3 t1
 obtain ⟨n2,h2,_,w2⟩:=DataW.trod_int Tryd.underlying3 t2
 obtain ⟨n3,h3,_,w3⟩:=DataW.trod_int Tryd.underlying3 t3
 obtain ⟨n4,h4,_,w4⟩:=DataW.trod_int Tryd.underlying3 t4
 obtain ⟨A5,k5,l5,rfl,hle,hc5,hm5,hw5⟩:=inner_ints t5
 simp at hb h1 h2 h3 h4
 subst hb h1 h2 h3 h4
 exact ⟨⟨b,n1,n2,n3,n4,l5⟩,k29_mk W ⟨b,n1,n2,n3,n4,l5⟩ hle hc5,w1,w2,w3,w4,hm5,hw5⟩
theorem op_cells {n : Nat} {cs : List Value} {y : DataW H × List MemPlace} (hl : cs.length = 9) (h : DataW.trod enc Tryd.prog W 0 (fun _=>true) true n 32 cs = some y) :
 ∃ o : S32,k32.K W o cs∧WfOp o:=by
 obtain ⟨c0,c1,c2,c3,c4,c5,c6,c7,c8,rfl⟩:=nine cs hl
 obtain ⟨ys,n',_,_,_,hyl,hf⟩:=DataW.trod_struct Tryd.underlying32 h
 have e3 : Tryd.prog.cellsOf 3 = 1:=by kernel_rfl
 have eV : Tryd.prog.cellsOf 29 = 6:=by kernel_rfl
 have u0 : DataW.trod enc Tryd.prog W 0 (fun _=>true) true n' 3 [c0] = ys[0]?:=by
  have h_ : DataW.trod enc Tryd.prog W 0 (fun _=>true) true n' 3 (([c0,c1,c2,c3,c4,c5,c6,c7,c8].drop 0).take (Tryd.prog.cellsOf 3)) = ys[0]?:=hf 0 _ rfl
  rw [e3] at h_
  exact h_
 have u1 : DataW.trod enc Tryd.prog W 0 (fun _=>true) true n' 3 [c1] = ys[1]?:=by
  have h_ : DataW.trod enc Tryd.prog W 0 (fun _=>true) true n' 3 (([c0,c1,c2,c3,c4,c5,c6,c7,c8].drop 1).take (Tryd.prog.cellsOf 3)) = ys[1]?:=hf 1 _ rfl
  rw [e3] at h_
  exact h_
 have u2 : DataW.trod enc Tryd.prog W 0 (fun _=>true) true n' 29 [c2,c3,c4,c5,c6,c7] = ys[2]?:=by
  have h_ : DataW.trod enc Tryd.prog W 0 (fun _=>true) true n' 29 (([c0,c1,c2,c3,c4,c5,c6,c7,c8].drop 2).take (Tryd.prog.cellsOf 29)) = ys[2]?:=hf 2 _ rfl
  rw [eV] at h_
  exact h_
 have u3 : DataW.trod enc Tryd.prog W 0 (fun _=>true) true n' 3 [c8] = ys[3]?:=by
  have h_ : DataW.trod enc Tryd.prog W 0 (fun _=>true) true n' 3 (([c0,c1,c2,c3,c4,c5,c6,c7,c8].drop 8).take (Tryd.prog.cellsOf 3)) = ys[3]?:=hf 3 _ rfl
  rw [e3] at h_
  exact h_
 have hy : ys.length = 4:=hyl
 obtain ⟨y0,t0⟩:=some_at (α:=Nat) u0 (by omega)
 obtain ⟨y1,t1⟩:=some_at (α:=Nat) u1 (by omega)
 obtain ⟨y2,t2⟩:=some_at (α:=Nat) u2 (by omega)
 obtain ⟨y3,t3⟩:=some_at (α:=Nat) u3 (by omega)
 obtain ⟨n0,h0,_,w0⟩:=DataW.trod_int Tryd.underlying3 t0
 obtain ⟨n1,h1,_,w1⟩:=DataW.trod_int Tryd.underlying3 t1
 obtain ⟨v,hK,hv⟩:=vertex_cells t2
 obtain ⟨n8,h8,_,w8⟩:=DataW.trod_int Tryd.underlying3 t3
 simp at h0 h1 h8
 subst h0 h1 h8
 refine ⟨⟨n0,n1,v,n8⟩,⟨[.int .i64 n0],[.int .i64 n1,c2,c3,c4,c5,c6,c7,.int .i64 n8],rfl,rfl,⟨[.int .i64 n1],[c2,c3,c4,c5,c6,c7,.int .i64 n8],rfl,rfl,⟨[c2,c3,c4,c5,c6,c7],[.int .i64 n8],rfl,hK,rfl⟩⟩⟩,⟨w0,w1,hv.1,hv.2.1,hv.2.2.1,hv.2.2.2.1,w8,hv.2.2.2.2⟩⟩
theorem open_ops {fuel : Nat} {A : Option Addr} {len cap : Nat} {x : DataW H × List MemPlace} (h : DataW.trod enc Tryd.prog W 0 (fun _=>true) true fuel 30 (Value.cells (.slice A len cap)).toList = some x) :
 ∃ z : List S32,len = z.length∧Kd.C k32 W A z.length z∧(∀ o ∈ z,WfOp o)∧z.length≤cap:=by
 have eO : Tryd.prog.cellsOf 32 = 9:=by kernel_rfl
 rcases open_slice (show Tryd.prog.underlying 30 = some (.slice 32) by kernel_rfl) h with ⟨hcs,_⟩ | ⟨a,l,c,m,n,D,Pl,hcs,_,hl,hm,hmm,_,hi⟩
 · simp [Value.cells] at hcs
   obtain ⟨rfl,rfl,rfl⟩:=hcs
   exact ⟨[],rfl,Kd.C_nil _ _,(fun o ho=>by cases ho),by simp⟩
 · simp [Value.cells] at hcs
   obtain ⟨rfl,rfl,rfl⟩:=hcs
   simp only [if_true] at hmm
   subst hmm
   have each : ∀ i,i < len→∃ (o : S32) (cs : List Value),cs.length = 9∧k32.K W o cs∧(∀ j u,cs[j]? = some u→W.cell? (a.add (i * 9 + j)) = some u)∧WfOp o:=by
    intro i hil
    obtain ⟨cs',hc,ht'⟩:=hi i (by omega)
    rw [eO] at hc
    obtain ⟨_,hcl,hat⟩:=World.cells?_some hc
    obtain ⟨o,hK,hw⟩:=op_cells hcl ht'
    refine ⟨o,cs',hcl,hK,fun j u hu=>?_,hw⟩
    have hj : j < 9:=by
     rcases Nat.lt_or_ge j 9 with hh | hh
     · exact hh
     · rw [List.getElem?_eq_none (by omega)] at hu;cases hu
    rw [← Go.Deep.add_add,hat j (by omega),hu]
   let f : Nat→S32:=fun i=>if h : i < len then (each i h).choose else z32
   have hf : ∀ i (h : i < len),f i = (each i h).choose:=fun i h=>by simp only [f,h,dif_pos]
   have hmax : len≤9223372036854775807:=by unfold maxLen at hm;omega
   refine ⟨(List.range len).map f,by simp,⟨by simp,by simpa using hmax,fun hn=>⟨a,rfl,fun j p hj=>?_⟩⟩,fun v hv=>?_,by simpa using hl⟩
   · rw [List.getElem?_map] at hj
     have hjl : j < len:=by
      rcases Nat.lt_or_ge j len with h | h
      · exact h
      · rw [List.getElem?_eq_none (by simpa using h)] at hj;cases hj
     rw [List.getElem?_range hjl,Option.map_some] at hj
     cases hj
     rw [hf j hjl]
     obtain ⟨cs,q1,q2,q3,_⟩:=(each j hjl).choose_spec
     exact ⟨cs,q1,q2,fun i u hu=>q3 i u hu⟩
   · rw [List.mem_map] at hv
     obtain ⟨j,hj,rfl⟩:=hv
     have hjl : j < len:=List.mem_range.1 hj
     rw [hf j hjl]
     obtain ⟨cs,_,_,_,q⟩:=(each j hjl).choose_spec
     exact q
end
end Go.Proofs.YtbblomnhobodkaaDoor
