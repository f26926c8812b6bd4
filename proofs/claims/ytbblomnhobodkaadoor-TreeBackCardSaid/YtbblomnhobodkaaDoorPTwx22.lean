/- What this claim reaches of longer texts of this session. -/
import Derived.Test.YtbblomnhobodkaaDoorPTwx0
import Derived.Test.YtbblomnhobodkaaDoorPTwx1
import Derived.Test.YtbblomnhobodkaaDoorPTwx7
import Derived.Test.YtbblomnhobodkaaDoorPTwx8
import Derived.Test.YtbblomnhobodkaaDoorPTwx15
import Derived.Test.YtbblomnhobodkaaDoorPTwx17
import Derived.Shelf.Spec.TrailingZeros
import Derived.Lib.ItoaNum
import Derived.Lib.LaidTab
import Derived.Laws.Bits64
import Derived.Lib.Hide
import Derived.RangeFuncBox
import Derived.Maps.AppendAt
import Derived.Lib.SliceRun
import Derived.Shelf.Spec.SlicesInsert
import Derived.Shelf.Spec.SlicesInsertGrow
import Derived.Deep.DeepCutAuto
namespace Go.Proofs.YtbblomnhobodkaaDoor.PTw
open Go.RowKit Go.Proofs.YtbblomnhobodkaaDoorW.PW Go.Proofs.YtbblomnhobodkaaDoorW.PL Go.Proofs.YtbblomnhobodkaaDoorW.PM
attribute [local go_sem] max2_int min2_int max_two min_two max_three min_three max_four min_four   -- for this text's walks alone
set_option linter.unusedVariables false
set_option linter.unusedSimpArgs false
def r4Update.f (k : Nat) (l0 : List (S29)) (a1 : Int) (a2_0 : Bool) (a2_1 : Int) (a2_2 : Int) (a2_3 : Int) (a2_4 : Int) (l2_5 : List Int) : Option ((List (S29)) × Int):=(r4Full.f l0 a1).bind fun t456=>(if t456 = true then ((r4above.f k l0 a1).bind fun t457=>((r4Leaf.f a2_0 a2_1 a2_2 a2_3 a2_4 l2_5).bind fun bt460=>(if 0≤(wrap64 (2 * a1)) then (if (wrap64 (2 * a1)) < (t457.length : Int) then (some ((t457.set ((wrap64 (2 * a1)) : Int).toNat (⟨bt460.1,bt460.2.1,bt460.2.2.1,bt460.2.2.2.1,bt460.2.2.2.2.1,bt460.2.2.2.2.2⟩ : S29)),0)) else (none)) else (none)))) else (some (([] : List (S29)),40)))
theorem r4Update.mono : ∀ a0 a1 a2 a3 a4 a5 a6 a7 k,LeO (r4Update.f k a0 a1 a2 a3 a4 a5 a6 a7) (r4Update.f (k + 1) a0 a1 a2 a3 a4 a5 a6 a7):=by
 intro a0 a1 a2 a3 a4 a5 a6 a7 k
 unfold r4Update.f
 repeat' first
  | (with_reducible exact r4above.mono _ _ _)
  | (with_reducible exact LeO.refl _)
  | (with_reducible exact LeO.none _)
  | (with_reducible refine LeO.ite ?_ ?_)
  | (with_reducible refine LeO.bind ?_ (fun _=>?_))
  | exact r4above.mono _ _ _
  | exact LeO.none _
  | refine LeO.ite ?_ ?_
  | refine LeO.bind ?_ (fun _=>?_)
set_option maxHeartbeats 8000000 in
set_option maxRecDepth 100000 in
theorem r4Update.calls (k : Nat) (A0 : Option Addr) (c0 : Nat) (l0 : List (S29)) (a1 : Int) (a2_0 : Bool) (a2_1 : Int) (a2_2 : Int) (a2_3 : Int) (a2_4 : Int) (A2_5 : Option Addr) (c2_5 : Nat) (l2_5 : List Int) (r1 : List (S29)) (r2 : Int) (w : World) (hr0 : Kd.C k29 w A0 l0.length l0) (hc0 : l0.length≤c0) (hr2_5 : Kd.C (Kd.int .i64) w A2_5 l2_5.length l2_5) (hc2_5 : l2_5.length≤c2_5) (h : r4Update.f k l0 a1 a2_0 a2_1 a2_2 a2_3 a2_4 l2_5 = some (r1,r2)) :
 Calls Tryd.prog 47 #[.slice A0 l0.length c0,.int .i64 a1,.agg #[.bool a2_0,.int .i64 a2_1,.int .i64 a2_2,.int .i64 a2_3,.int .i64 a2_4,.slice A2_5 l2_5.length c2_5]] w fun e w'=>∃ v0_ : Value,e = .returned (.tuple #[v0_,.int .i64 r2])∧Kd.S k29 29 w' w.heap.size (fun _=>True) v0_ r1∧Below w.heap.size w w':=by
 have hu29:=Tryd.underlying29
 have HR0:=Az.mk hr0
 have HC0:=Az.mk hc0
 clear hr0 hc0
 have HR2_5:=Az.mk hr2_5
 have HC2_5:=Az.mk hc2_5
 clear hr2_5 hc2_5
 have HB:=Az.mk (Below.refl w.heap.size w)
 have H : ((r4Full.f l0 a1).bind fun t456=>(if t456 = true then ((r4above.f k l0 a1).bind fun t457=>((r4Leaf.f a2_0 a2_1 a2_2 a2_3 a2_4 l2_5).bind fun bt460=>(if 0≤(wrap64 (2 * a1)) then (if (wrap64 (2 * a1)) < (t457.length : Int) then (some ((t457.set ((wrap64 (2 * a1)) : Int).toNat (⟨bt460.1,bt460.2.1,bt460.2.2.1,bt460.2.2.2.1,bt460.2.2.2.2.1,bt460.2.2.2.2.2⟩ : S29)),0)) else (none)) else (none)))) else (some (([] : List (S29)),40)))) = some (r1,r2):=h
 clear h
 replace H:=Option.bind_eq_some_iff.mp H
 obtain ⟨t456,A40,H⟩:=H
 replace H : (if t456 = true then ((r4above.f k l0 a1).bind fun t457=>((r4Leaf.f a2_0 a2_1 a2_2 a2_3 a2_4 l2_5).bind fun bt460=>(if 0≤(wrap64 (2 * a1)) then (if (wrap64 (2 * a1)) < (t457.length : Int) then (some ((t457.set ((wrap64 (2 * a1)) : Int).toNat (⟨bt460.1,bt460.2.1,bt460.2.2.1,bt460.2.2.2.1,bt460.2.2.2.2.1,bt460.2.2.2.2.2⟩ : S29)),0)) else (none)) else (none)))) else (some (([] : List (S29)),40))) = some (r1,r2):=H
 have A4:=Az.mk A40
 clear A40
 by_cases c5 : t456 = true
 · subst c5
   have H1 : ((r4above.f k l0 a1).bind fun t457=>((r4Leaf.f a2_0 a2_1 a2_2 a2_3 a2_4 l2_5).bind fun bt460=>(if 0≤(wrap64 (2 * a1)) then (if (wrap64 (2 * a1)) < (t457.length : Int) then (some ((t457.set ((wrap64 (2 * a1)) : Int).toNat (⟨bt460.1,bt460.2.1,bt460.2.2.1,bt460.2.2.2.1,bt460.2.2.2.2.1,bt460.2.2.2.2.2⟩ : S29)),0)) else (none)) else (none)))) = some (r1,r2):=by rw [if_pos rfl] at H;exact H
   clear H
   have H:=H1
   clear H1
   replace H:=Option.bind_eq_some_iff.mp H
   obtain ⟨t457,A60,H⟩:=H
   replace H : ((r4Leaf.f a2_0 a2_1 a2_2 a2_3 a2_4 l2_5).bind fun bt460=>(if 0≤(wrap64 (2 * a1)) then (if (wrap64 (2 * a1)) < (t457.length : Int) then (some ((t457.set ((wrap64 (2 * a1)) : Int).toNat (⟨bt460.1,bt460.2.1,bt460.2.2.1,bt460.2.2.2.1,bt460.2.2.2.2.1,bt460.2.2.2.2.2⟩ : S29)),0)) else (none)) else (none))) = some (r1,r2):=H
   have A6:=Az.mk A60
   clear A60
   replace H:=Option.bind_eq_some_iff.mp H
   obtain ⟨⟨t460,t461,t462,t463,t464,t465⟩,A70,H⟩:=H
   replace H : (if 0≤(wrap64 (2 * a1)) then (if (wrap64 (2 * a1)) < (t457.length : Int) then (some ((t457.set ((wrap64 (2 * a1)) : Int).toNat (⟨t460,t461,t462,t463,t464,t465⟩ : S29)),0)) else (none)) else (none)) = some (r1,r2):=H
   have A7:=Az.mk A70
   clear A70
   obtain ⟨ji8,hji8⟩ : ∃ j_ : Int,(wrap64 (2 * a1)) = j_:=⟨_,rfl⟩
   replace H : (if 0≤(ji8) then (if (ji8) < (t457.length : Int) then (some ((t457.set ((ji8) : Int).toNat (⟨t460,t461,t462,t463,t464,t465⟩ : S29)),0)) else (none)) else (none)) = some (r1,r2):=by first | (rw [hji8] at H;exact H) | (simp only [hji8] at H ⊢;exact H)
   (try rw [hji8] at A4)
   (try rw [hji8] at A6)
   (try rw [hji8] at A7)
   have hji8w : (IntKind.i64.wrap (2 * a1)) = ji8:=(i64_w _).trans hji8
   by_cases c9 : 0≤(ji8)
   · rw [if_pos c9] at H
     have c9b0 : decide (0≤(ji8)) = true:=decide_eq_true c9
     clear c9
     by_cases c10 : (ji8) < (t457.length : Int)
     · rw [if_pos c10] at H
       have c10b0 : decide ((ji8) < (t457.length : Int)) = true:=decide_eq_true c10
       clear c10
       obtain ⟨y468,hy468⟩ : ∃ y_ : List (S29),y_ = (t457.set ((ji8) : Int).toNat (⟨t460,t461,t462,t463,t464,t465⟩ : S29)):=⟨_,rfl⟩
       replace H : (some (y468,0)) = some (r1,r2):=by first | (rw [hy468];with_reducible exact H) | (have H2_:=(Option.bind_some _ _).symm.trans H;rw [hy468];with_reducible exact H2_) | (have H2_:=(Option.bind_some _ _).symm.trans H;with_reducible exact H2_) | with_reducible exact H | (rw [hy468];exact H) | exact H
       have Ny468:=Az.mk hy468
       clear hy468
       simp only [Option.some.injEq,Prod.mk.injEq] at H
       obtain ⟨rfl,rfl⟩:=H
       go_enter Tryd.func47,Tryd.ntmps47
       go_wp2_with (first | ((with_reducible refine gate_dst (N:=5) rfl ?_);refine box_event ?hg (N:=5) ?hd (cs:=#[.bool a2_0,.int .i64 a2_1,.int .i64 a2_2,.int .i64 a2_3,.int .i64 a2_4,.slice A2_5 l2_5.length c2_5]) (t:=29) ?hr ?_;(case hd=>rfl);(case hg=>rfl);(case hr=>first | (go_simp;done) | (go_simp;rfl));intro gb455 hg w12 hbox hb;have n0_:=Az.mk (bwT (bmv HB.out) hb);have n1_:=Az.mk (hbox);have n2_:=Az.mk ((by rw [hg];exact (bwZ (bmv HB.out)) : w.heap.size≤gb455));have n3_:=Az.mk ((by rw [hg];exact (bwZ (bmv HB.out)) : w.heap.size≤gb455));clear HB;have HB:=n0_;have BK455:=n1_;have GW455:=n2_;have GE455:=n3_;clear n0_ n1_ n2_ n3_;clear hb hbox hg) | ((with_reducible refine gate_callee (f:=22) rfl ?_);refine goesL_ (some 11) rfl rfl Tryd.func22 (by kernel_rfl) rfl #[.slice A0 l0.length c0,.int .i64 a1] rfl (by (try simp only [List.map_toArray,List.map_cons,List.map_nil]);first | done | rfl | (simp only [List.length_drop,List.length_take];rfl)) ?_;(with_reducible refine (r4Full.calls _ _ l0 a1 true _ ?side1 ?side2 A4.out).mono ?_);(case side1=>exact C_mv ((Kd.C_below HR0.out HB.out)));(case side2=>exact HC0.out);rintro e w' ⟨rfl,⟨nd,rfl⟩⟩;refine ⟨_,rfl,?_⟩;(try (rw [drewN_self w12];generalize hq_ : World.drewN w12 _ = w12;have n0_ : Az (w12.heap[gb455]? = some (.cells #[.bool a2_0,.int .i64 a2_1,.int .i64 a2_2,.int .i64 a2_3,.int .i64 a2_4,.slice A2_5 l2_5.length c2_5] 29 (0,0))):=⟨by rw [← hq_];exact (blk_mv BK455.out)⟩;have n1_ : Az (Below w.heap.size w w12):=⟨by rw [← hq_];exact (by repeat (with_reducible first | exact bmv HB.out | refine bwS ?_ GE455.out))⟩;clear BK455 HB hq_;have BK455:=n0_;have HB:=n1_;clear n0_ n1_))) | ((with_reducible refine gate_callee (f:=67) rfl ?_);refine goesL_ (some 15) rfl rfl Tryd.func67 (by kernel_rfl) rfl #[.slice A0 l0.length c0,.int .i64 a1] rfl (by (try simp only [List.map_toArray,List.map_cons,List.map_nil]);first | done | rfl | (simp only [List.length_drop,List.length_take];rfl)) ?_;(with_reducible refine (r4above.calls k _ _ l0 a1 t457 _ ?side1 ?side2 A6.out).mono ?_);(case side1=>exact C_mv ((Kd.C_below HR0.out HB.out)));(case side2=>exact HC0.out);rintro e w13 ⟨v458,rfl,ho0,hb⟩;refine ⟨_,rfl,?_⟩;have n0_:=Az.mk (Kd.S_lower (Kd.S_newB ho0 (g:=gb455) (o:=.cells #[.bool a2_0,.int .i64 a2_1,.int .i64 a2_2,.int .i64 a2_3,.int .i64 a2_4,.slice A2_5 l2_5.length c2_5] 29 (0,0)) (blk_mv BK455.out)) (bwZ (by repeat (with_reducible first | exact bmv HB.out | refine bwS ?_ GE455.out))));have n1_:=Az.mk (kB (g:=gb455) (o:=.cells #[.bool a2_0,.int .i64 a2_1,.int .i64 a2_2,.int .i64 a2_3,.int .i64 a2_4,.slice A2_5 l2_5.length c2_5] 29 (0,0)) (blk_mv BK455.out) hb);have n2_:=Az.mk (bwT (by repeat (with_reducible first | exact bmv HB.out | refine bwS ?_ GE455.out)) hb);clear BK455;clear HB;have HO459:=n0_;have BK455:=n1_;have HB:=n2_;clear n0_ n1_ n2_;(try clear hb);(try clear hb2);(try clear hk);(try clear hi);(try clear ho0);obtain ⟨⟨hcz14_0,hcz14_1,hcz14_2,hcz14_3,hcz14_4,hcz14_5⟩,hfz14_0,hfz14_1,hfz14_2,hfz14_3,hfz14_4,hfz14_5⟩:=cells6 BK455.out) | ((with_reducible refine gate_callee (f:=35) rfl ?_);refine goesL_ (some 20) rfl rfl Tryd.func35 (by kernel_rfl) rfl #[.agg #[.bool a2_0,.int .i64 a2_1,.int .i64 a2_2,.int .i64 a2_3,.int .i64 a2_4,.slice A2_5 l2_5.length c2_5]] rfl (by (try simp only [List.map_toArray,List.map_cons,List.map_nil]);first | done | rfl | (simp only [List.length_drop,List.length_take];rfl)) ?_;(with_reducible refine (r4Leaf.calls a2_0 a2_1 a2_2 a2_3 a2_4 _ _ l2_5 t460 t461 t462 t463 t464 t465 _ ?side1 ?side2 A7.out).mono ?_);(case side1=>exact C_mv ((Kd.C_below HR2_5.out HB.out)));(case side2=>exact HC2_5.out);rintro e w15 ⟨v466,rfl,ho0,hb⟩;refine ⟨_,rfl,?_⟩;obtain ⟨Av_,cv_,hv_⟩:=Kd.R_slice ho0;have HV466:=Az.mk hv_;clear hv_;have n0_:=Az.mk (Kd.S_elder' (S_mv HO459.out) (Kd.R_base ho0) hb);have n1_:=Az.mk (Kd.R_lower ho0 (bwZ (by repeat (with_reducible first | exact bmv HB.out | refine bwS ?_ GE455.out))));have n2_:=Az.mk (kB (g:=gb455) (o:=.cells #[.bool a2_0,.int .i64 a2_1,.int .i64 a2_2,.int .i64 a2_3,.int .i64 a2_4,.slice A2_5 l2_5.length c2_5] 29 (0,0)) (blk_mv BK455.out) hb);have n3_:=Az.mk (bwT (by repeat (with_reducible first | exact bmv HB.out | refine bwS ?_ GE455.out)) hb);clear HO459;clear BK455;clear HB;have HO459:=n0_;have HO467:=n1_;have BK455:=n2_;have HB:=n3_;clear n0_ n1_ n2_ n3_;(try clear hb);(try clear hb2);(try clear hk);(try clear hi);(try clear ho0);have p11 : 0≤((ji8) : Int):=of_decide_eq_true (by first | (with_reducible assumption) | assumption);have q11 : ((ji8) : Int) < ((t457.length : Int) : Int):=of_decide_eq_true (by first | (with_reducible assumption) | assumption);obtain ⟨go11,co11,eo11,gb11,gl11,cl11,HG11⟩:=Kd.S_form HO459.out (by omega);(first | cases eo11 | (injection eo11 with ea_ en_ ec_;(first | subst ea_ | (injection ea_ with ea_;subst ea_));subst ec_;clear en_));have GB11:=Az.mk gb11;have GG11:=Az.mk HG11;clear gb11 gl11 HG11;obtain ⟨_,ce11,hcl11,hM11,hcc11,hfr11,_,_⟩:=Kd.S_elem HO459.out z29 ((ji8) : Int) p11 q11;obtain ⟨ve11_5,rfl,ge11_5⟩:=k29_openM hM11;have hx11_0 : w15.cell? ⟨go11,((ji8) : Int).toNat * 6,none⟩ = some (.bool ((rd_T29 t457 (ji8)).f0)):=hcc11 0 _ rfl;have hx11_1 : w15.cell? ⟨go11,((ji8) : Int).toNat * 6 + 1,none⟩ = some (.int .i64 ((rd_T29 t457 (ji8)).f1)):=hcc11 1 _ rfl;have hx11_2 : w15.cell? ⟨go11,((ji8) : Int).toNat * 6 + 2,none⟩ = some (.int .i64 ((rd_T29 t457 (ji8)).f2)):=hcc11 2 _ rfl;have hx11_3 : w15.cell? ⟨go11,((ji8) : Int).toNat * 6 + 3,none⟩ = some (.int .i64 ((rd_T29 t457 (ji8)).f3)):=hcc11 3 _ rfl;have hx11_4 : w15.cell? ⟨go11,((ji8) : Int).toNat * 6 + 4,none⟩ = some (.int .i64 ((rd_T29 t457 (ji8)).f4)):=hcc11 4 _ rfl;have hx11_5 : w15.cell? ⟨go11,((ji8) : Int).toNat * 6 + 5,none⟩ = some (ve11_5):=hcc11 5 _ rfl;have hf11_0 : w15.frozen? ⟨go11,((ji8) : Int).toNat * 6,none⟩ = false:=hfr11 0;have hf11_1 : w15.frozen? ⟨go11,((ji8) : Int).toNat * 6 + 1,none⟩ = false:=hfr11 1;have hf11_2 : w15.frozen? ⟨go11,((ji8) : Int).toNat * 6 + 2,none⟩ = false:=hfr11 2;have hf11_3 : w15.frozen? ⟨go11,((ji8) : Int).toNat * 6 + 3,none⟩ = false:=hfr11 3;have hf11_4 : w15.frozen? ⟨go11,((ji8) : Int).toNat * 6 + 4,none⟩ = false:=hfr11 4;have hf11_5 : w15.frozen? ⟨go11,((ji8) : Int).toNat * 6 + 5,none⟩ = false:=hfr11 5;clear hcl11 hcc11 hfr11 hM11;replace p11:=eq_true p11;replace q11:=eq_true q11;have n_:=Az.mk (Kd.S_mono (ok':=(fun k_=>some k_≠(v466 : Value).ownBlock∧k_≠gb455)) HO459.out (fun k_ hk=>⟨hk.2,hk.1.2⟩));clear HO459;have HO459:=n_;clear n_;have HX16:=Az.mk (show Kd.S k29 29 w15 w.heap.size (fun k_=>((fun k_=>k_≠gb455)) k_∧¬ ((fun k_=>some k_ = (v466 : Value).ownBlock)) k_) (.slice (some ⟨go11,0,none⟩) t457.length co11) t457 from (S_mv (Kd.S_mono HO459.out (fun k_ hk=>⟨hk.2,fun e_=>hk.1 e_⟩))));obtain ⟨oki16,ce16,hcl16,hM16,hcc16,hfr16,hoki16,hH16⟩:=Kd.S_elem HX16.out z29 ((ji8) : Int) (of_decide_eq_true (by first | (with_reducible assumption) | assumption)) (by have h_ : ((ji8) : Int) < ((t457.length : Int) : Int):=of_decide_eq_true (by first | (with_reducible assumption) | assumption);first | exact h_ | (have e_:=(Kd.S_reads' HO459.out).1;omega) | simpa using h_);obtain ⟨ve16_5,rfl,ge16_5⟩:=k29_openM hM16;have HP16:=Kd.S_seg hH16 (of_decide_eq_true (by first | (with_reducible assumption) | assumption)) (by have h_ : ((ji8) : Int) < ((t457.length : Int) : Int):=of_decide_eq_true (by first | (with_reducible assumption) | assumption);first | exact h_ | (have e_:=(Kd.S_reads' HO459.out).1;omega) | simpa using h_) (seg:=[.bool t460,.int .i64 t461,.int .i64 t462,.int .i64 t463,.int .i64 t464,v466]) (j:=0) (show 6≤6 from by decide) (x':=(⟨t460,t461,t462,t463,t464,t465⟩ : S29)) (k29_mkM _ _ _ (⟨t460,t461,t462,t463,t464,t465⟩ : S29) (Kd.R_mono (Kd.R_tight rfl (Kd.R_mono (ok':=fun k_=>((fun k_=>k_≠gb455)) k_∧k_≠go11) (Kd.R_types (Kd.R_apart' (HO467.out) (Kd.S_typed HO459.out) (by decide)) BK455.out (by decide)) (fun k_ hk=>⟨hk.2,fun e_=>(hk.1.2) (by rw [e_];rfl)⟩))) (fun _ h_=>Or.inr (h_)))) (fun _ hk=>hk) (fun k_ hk_=>((Kd.R_mono (ok':=fun k_=>((fun k_=>k_≠gb455)) k_∧k_≠go11) (Kd.R_types (Kd.R_apart' (HO467.out) (Kd.S_typed HO459.out) (by decide)) BK455.out (by decide)) (fun k_ hk=>⟨hk.2,fun e_=>(hk.1.2) (by rw [e_];rfl)⟩))).1 k_ hk_.symm);have hx16_0:=hcc16 0 _ rfl;(try simp only [show (k29).sz = 6 from rfl,Nat.mul_one,Nat.add_zero] at hx16_0);have hf16_0:=hfr16 0;(try simp only [show (k29).sz = 6 from rfl,Nat.mul_one,Nat.add_zero] at hf16_0);have hx16_1:=hcc16 1 _ rfl;(try simp only [show (k29).sz = 6 from rfl,Nat.mul_one,Nat.add_zero] at hx16_1);have hf16_1:=hfr16 1;(try simp only [show (k29).sz = 6 from rfl,Nat.mul_one,Nat.add_zero] at hf16_1);have hx16_2:=hcc16 2 _ rfl;(try simp only [show (k29).sz = 6 from rfl,Nat.mul_one,Nat.add_zero] at hx16_2);have hf16_2:=hfr16 2;(try simp only [show (k29).sz = 6 from rfl,Nat.mul_one,Nat.add_zero] at hf16_2);have hx16_3:=hcc16 3 _ rfl;(try simp only [show (k29).sz = 6 from rfl,Nat.mul_one,Nat.add_zero] at hx16_3);have hf16_3:=hfr16 3;(try simp only [show (k29).sz = 6 from rfl,Nat.mul_one,Nat.add_zero] at hf16_3);have hx16_4:=hcc16 4 _ rfl;(try simp only [show (k29).sz = 6 from rfl,Nat.mul_one,Nat.add_zero] at hx16_4);have hf16_4:=hfr16 4;(try simp only [show (k29).sz = 6 from rfl,Nat.mul_one,Nat.add_zero] at hf16_4);have hx16_5:=hcc16 5 _ rfl;(try simp only [show (k29).sz = 6 from rfl,Nat.mul_one,Nat.add_zero] at hx16_5);have hf16_5:=hfr16 5;(try simp only [show (k29).sz = 6 from rfl,Nat.mul_one,Nat.add_zero] at hf16_5);clear hcl16 hcc16 hfr16 hM16 hoki16 hH16) | ((with_reducible refine gate_store (t:=29) (p:=21) rfl ?_);refine store_event (t:=29) (p:=21) (v:=?vo_w17) (w1:=((((((w15.setCell ⟨go11,((ji8) : Int).toNat * 6,none⟩ (.bool t460)).setCell ⟨go11,((ji8) : Int).toNat * 6 + 1,none⟩ (.int .i64 t461)).setCell ⟨go11,((ji8) : Int).toNat * 6 + 2,none⟩ (.int .i64 t462)).setCell ⟨go11,((ji8) : Int).toNat * 6 + 3,none⟩ (.int .i64 t463)).setCell ⟨go11,((ji8) : Int).toNat * 6 + 4,none⟩ (.int .i64 t464)).setCell ⟨go11,((ji8) : Int).toNat * 6 + 5,none⟩ (v466))) ?hg ?ho ?hn ?hr ?_;(case ho=>rfl);(case hg=>rfl);(case hn=>rfl);(case hr=>first | (go_simp;done) | (go_simp;rfl) | (rw [HV466.out];go_simp;done) | (rw [HV466.out];go_simp;rfl));intro w17 hw;have hg : w15.grownBy w17 (some go11):=(by rw [hw];exact HP16.2);have hp_ : Kd.S k29 29 w17 w.heap.size (fun k_=>k_≠gb455) (.slice (some ⟨go11,0,none⟩) t457.length co11) y468:=(by rw [hw,Ny468.out];exact HP16.1);clear HP16;have n0_:=Az.mk (blk_grown (g:=gb455) (o:=.cells #[.bool a2_0,.int .i64 a2_1,.int .i64 a2_2,.int .i64 a2_3,.int .i64 a2_4,.slice A2_5 l2_5.length c2_5] 29 (0,0)) (blk_mv BK455.out) hg (Kd.S_away HO459.out (fun _ hk=>hk.2)));have n1_:=Az.mk (hp_);have n2_:=Az.mk ((by rw [hw];exact bwS (bwS (bwS (bwS (bwS (bwS (HB.out) GB11.out) GB11.out) GB11.out) GB11.out) GB11.out) GB11.out : Below w.heap.size w w17));clear BK455;clear HO459;clear HB;clear HO467;have BK455:=n0_;have HO459:=n1_;have HB:=n2_;clear n0_ n1_ n2_;clear hg hw hp_))
       go_ret2
       exact ⟨_,by first | rfl | (simp [errW_none,errW_some] <;> rfl) | (simp only [← hji8];first | rfl | (simp [errW_none,errW_some] <;> rfl)) | (simp [*,errW_none,errW_some] <;> rfl),S_mv (Kd.S_mono HO459.out (fun _ hk=>trivial)),by repeat (with_reducible first | exact bmv HB.out | refine bwS ?_ GE455.out)⟩
     · rw [if_neg c10] at H
       exact absurd H (by simp)
   · rw [if_neg c9] at H
     exact absurd H (by simp)
 · replace c5:=Bool.eq_false_iff.mpr c5
   subst c5
   have H1 : (some (([] : List (S29)),40)) = some (r1,r2):=by rw [if_neg (show ¬ (false = true) by decide)] at H;exact H
   clear H
   have H:=H1
   clear H1
   simp only [Option.some.injEq,Prod.mk.injEq] at H
   obtain ⟨rfl,rfl⟩:=H
   go_enter Tryd.func47,Tryd.ntmps47
   go_wp2_with (first | ((with_reducible refine gate_dst (N:=5) rfl ?_);refine box_event ?hg (N:=5) ?hd (cs:=#[.bool a2_0,.int .i64 a2_1,.int .i64 a2_2,.int .i64 a2_3,.int .i64 a2_4,.slice A2_5 l2_5.length c2_5]) (t:=29) ?hr ?_;(case hd=>rfl);(case hg=>rfl);(case hr=>first | (go_simp;done) | (go_simp;rfl));intro gb455 hg w18 hbox hb;have n0_:=Az.mk (bwT (bmv HB.out) hb);have n1_:=Az.mk (hbox);have n2_:=Az.mk ((by rw [hg];exact (bwZ (bmv HB.out)) : w.heap.size≤gb455));have n3_:=Az.mk ((by rw [hg];exact (bwZ (bmv HB.out)) : w.heap.size≤gb455));clear HB;have HB:=n0_;have BK455:=n1_;have GW455:=n2_;have GE455:=n3_;clear n0_ n1_ n2_ n3_;clear hb hbox hg) | ((with_reducible refine gate_callee (f:=22) rfl ?_);refine goesL_ (some 11) rfl rfl Tryd.func22 (by kernel_rfl) rfl #[.slice A0 l0.length c0,.int .i64 a1] rfl (by (try simp only [List.map_toArray,List.map_cons,List.map_nil]);first | done | rfl | (simp only [List.length_drop,List.length_take];rfl)) ?_;(with_reducible refine (r4Full.calls _ _ l0 a1 false _ ?side1 ?side2 A4.out).mono ?_);(case side1=>exact C_mv ((Kd.C_below HR0.out HB.out)));(case side2=>exact HC0.out);rintro e w' ⟨rfl,⟨nd,rfl⟩⟩;refine ⟨_,rfl,?_⟩))
   go_ret2
   exact ⟨_,by first | rfl | (simp [errW_none,errW_some] <;> rfl) | (simp [*,errW_none,errW_some] <;> rfl),by first | exact Kd.S_nil _ _ _ _ _ | exact Kd.N_nil _ _ _ _ _ | exact Kd.V_nil _ _ _ _ _ | exact Kd.Q_nil _ _ _ _ _ | exact Kd.R_nil _ _ _ _ _,by repeat (with_reducible first | exact bmv HB.out | refine bwS ?_ GE455.out)⟩
mutual
def r4Remove.j0 : Nat→List (S29)→Int→Bool→Option ((List (S29)) × Int)
 | 0,_,_,_=>none
 | k + 1,x0,x1,x16=>if x16 = true then (some (([] : List (S29)),40)) else ((r4above.f k x0 x1).bind fun t478=>(if 0≤(wrap64 (2 * x1)) then (if (wrap64 (2 * x1)) < (t478.length : Int) then (r4Remove.l0 k (t478.set ((wrap64 (2 * x1)) : Int).toNat (⟨false,0,0,0,0,([] : List Int)⟩ : S29))) else (none)) else (none)))
def r4Remove.l0 : Nat→List (S29)→Option ((List (S29)) × Int)
 | 0,_=>none
 | k + 1,x6=>if (x6.length : Int) > 1 then ((r4Tight.f k x6).bind fun t482=>(if t482 = true then (some (x6,0)) else ((r4Leaves.f x6).bind fun t483=>(if 0≤(wrap64 (t483 - 1)) then (if (wrap64 (t483 - 1))≤(x6.length : Int) then (r4Remove.l0 k (x6.take ((wrap64 (t483 - 1)) : Int).toNat)) else (none)) else (none))))) else (some (x6,0))
end
def r4Remove.f (k : Nat) (l0 : List (S29)) (a1 : Int) : Option ((List (S29)) × Int):=(r4Full.f l0 a1).bind fun t474=>(if t474 = true then ((r4Members.f k l0).bind fun t475=>(r4Remove.j0 k l0 a1 (decide ((t475.length : Int) < 2)))) else (r4Remove.j0 k l0 a1 true))
theorem r4Remove.mono_l : ∀ k,(∀ y0 y1 y2,LeO (r4Remove.j0 k y0 y1 y2) (r4Remove.j0 (k + 1) y0 y1 y2))∧(∀ y0,LeO (r4Remove.l0 k y0) (r4Remove.l0 (k + 1) y0))
 | 0=>⟨fun _ _ _ r h=>by simp [r4Remove.j0] at h,fun _ r h=>by simp [r4Remove.l0] at h⟩
 | k + 1=>by
  obtain ⟨ih0,ih1⟩:=r4Remove.mono_l k
  refine ⟨?_,?_⟩
  · intro y0 y1 y2
    unfold r4Remove.j0
    repeat' first
    | (with_reducible exact ih0 _ _ _)
    | (with_reducible exact ih1 _)
    | (with_reducible exact r4Members.mono _ _)
    | (with_reducible exact r4Tight.mono _ _)
    | (with_reducible exact r4above.mono _ _ _)
    | (with_reducible exact LeO.refl _)
    | (with_reducible exact LeO.none _)
    | (with_reducible refine LeO.ite ?_ ?_)
    | (with_reducible refine LeO.bind ?_ (fun _=>?_))
    | exact ih0 _ _ _
    | exact ih1 _
    | exact r4Members.mono _ _
    | exact r4Tight.mono _ _
    | exact r4above.mono _ _ _
    | exact LeO.none _
    | refine LeO.ite ?_ ?_
    | refine LeO.bind ?_ (fun _=>?_)
  · intro y0
    unfold r4Remove.l0
    repeat' first
    | (with_reducible exact ih0 _ _ _)
    | (with_reducible exact ih1 _)
    | (with_reducible exact r4Members.mono _ _)
    | (with_reducible exact r4Tight.mono _ _)
    | (with_reducible exact r4above.mono _ _ _)
    | (with_reducible exact LeO.refl _)
    | (with_reducible exact LeO.none _)
    | (with_reducible refine LeO.ite ?_ ?_)
    | (with_reducible refine LeO.bind ?_ (fun _=>?_))
    | exact ih0 _ _ _
    | exact ih1 _
    | exact r4Members.mono _ _
    | exact r4Tight.mono _ _
    | exact r4above.mono _ _ _
    | exact LeO.none _
    | refine LeO.ite ?_ ?_
    | refine LeO.bind ?_ (fun _=>?_)
theorem r4Remove.mono : ∀ a0 a1 k,LeO (r4Remove.f k a0 a1) (r4Remove.f (k + 1) a0 a1):=by
 intro a0 a1 k
 obtain ⟨ih0,ih1⟩:=r4Remove.mono_l k
 unfold r4Remove.f
 repeat' first
  | (with_reducible exact ih0 _ _ _)
  | (with_reducible exact ih1 _)
  | (with_reducible exact r4Members.mono _ _)
  | (with_reducible exact r4Tight.mono _ _)
  | (with_reducible exact r4above.mono _ _ _)
  | (with_reducible exact LeO.refl _)
  | (with_reducible exact LeO.none _)
  | (with_reducible refine LeO.ite ?_ ?_)
  | (with_reducible refine LeO.bind ?_ (fun _=>?_))
  | exact ih0 _ _ _
  | exact ih1 _
  | exact r4Members.mono _ _
  | exact r4Tight.mono _ _
  | exact r4above.mono _ _ _
  | exact LeO.none _
  | refine LeO.ite ?_ ?_
  | refine LeO.bind ?_ (fun _=>?_)
set_option maxHeartbeats 8000000 in
set_option maxRecDepth 100000 in
theorem r4Remove.calls (k : Nat) (A0 : Option Addr) (c0 : Nat) (l0 : List (S29)) (a1 : Int) (r1 : List (S29)) (r2 : Int) (w : World) (hr0 : Kd.C k29 w A0 l0.length l0) (hc0 : l0.length≤c0) (h : r4Remove.f k l0 a1 = some (r1,r2)) :
 Calls Tryd.prog 48 #[.slice A0 l0.length c0,.int .i64 a1] w fun e w'=>∃ v0_ : Value,e = .returned (.tuple #[v0_,.int .i64 r2])∧Kd.S k29 29 w' w.heap.size (fun _=>True) v0_ r1∧Below w.heap.size w w':=by
 have hu29:=Tryd.underlying29
 have HR0:=Az.mk hr0
 have HC0:=Az.mk hc0
 clear hr0 hc0
 have HB:=Az.mk (Below.refl w.heap.size w)
 have H : ((r4Full.f l0 a1).bind fun t474=>(if t474 = true then ((r4Members.f k l0).bind fun t475=>(r4Remove.j0 k l0 a1 (decide ((t475.length : Int) < 2)))) else (r4Remove.j0 k l0 a1 true))) = some (r1,r2):=h
 clear h
 have HC3:=Az.mk H
 clear H
 go_enter Tryd.func48,Tryd.ntmps48
 go_upto_region 1 with (fail)
 go_cut [16] (fun v16 wc=>∃ (kq : Nat) (x16_2 : Bool),v16 = .bool x16_2∧Az (r4Remove.j0 kq l0 a1 x16_2 = some (r1,r2))∧Az (kq≤k)∧Az (Below w.heap.size w wc))
 case first=>
  have H:=HC3.out
  clear HC3
  replace H:=Option.bind_eq_some_iff.mp H
  obtain ⟨t474,A40,H⟩:=H
  replace H : (if t474 = true then ((r4Members.f k l0).bind fun t475=>(r4Remove.j0 k l0 a1 (decide ((t475.length : Int) < 2)))) else (r4Remove.j0 k l0 a1 true)) = some (r1,r2):=H
  have A4:=Az.mk A40
  clear A40
  by_cases c5 : t474 = true
  · subst c5
    have H1 : ((r4Members.f k l0).bind fun t475=>(r4Remove.j0 k l0 a1 (decide ((t475.length : Int) < 2)))) = some (r1,r2):=by rw [if_pos rfl] at H;exact H
    clear H
    have H:=H1
    clear H1
    replace H:=Option.bind_eq_some_iff.mp H
    obtain ⟨t475,A60,H⟩:=H
    replace H : (r4Remove.j0 k l0 a1 (decide ((t475.length : Int) < 2))) = some (r1,r2):=H
    have A6:=Az.mk A60
    clear A60
    have H':=Az.mk H
    clear H
    go_wp2_with (first | ((with_reducible refine gate_callee (f:=22) rfl ?_);refine goesL_ (some 9) rfl rfl Tryd.func22 (by kernel_rfl) rfl #[.slice A0 l0.length c0,.int .i64 a1] rfl (by (try simp only [List.map_toArray,List.map_cons,List.map_nil]);first | done | rfl | (simp only [List.length_drop,List.length_take];rfl)) ?_;(with_reducible refine (r4Full.calls _ _ l0 a1 true _ ?side1 ?side2 A4.out).mono ?_);(case side1=>exact C_mv ((Kd.C_below HR0.out HB.out)));(case side2=>exact HC0.out);rintro e w' ⟨rfl,⟨nd,rfl⟩⟩;refine ⟨_,rfl,?_⟩) | (go_at_call 27;(with_reducible refine (r4Members.calls k _ _ l0 t475 _ ?side1 ?side2 A6.out).mono ?_);(case side1=>exact C_mv ((Kd.C_below HR0.out HB.out)));(case side2=>exact HC0.out);rintro e w7 ⟨v476,rfl,ho0,hb⟩;have n0_:=Az.mk (Kd.R_lower ho0 (bwZ (bmv HB.out)));have n1_:=Az.mk (bwT (bmv HB.out) hb);clear HB;have HO477:=n0_;have HB:=n1_;clear n0_ n1_;(try clear hb);(try clear hb2);(try clear hk);(try clear hi);(try clear ho0);obtain ⟨Ao8,co8,eo8⟩:=Kd.R_slice HO477.out;subst eo8))
    go_meet
    case rel=>exact ⟨_,(decide ((t475.length : Int) < 2)),(by first | rfl | (simp;done) | (simp [*];done)),H',⟨by first | omega | exact Nat.le_refl _⟩,⟨bmv HB.out⟩⟩
  · replace c5:=Bool.eq_false_iff.mpr c5
    subst c5
    have H1 : (r4Remove.j0 k l0 a1 true) = some (r1,r2):=by rw [if_neg (show ¬ (false = true) by decide)] at H;exact H
    clear H
    have H:=H1
    clear H1
    have H':=Az.mk H
    clear H
    go_wp2_with (first | ((with_reducible refine gate_callee (f:=22) rfl ?_);refine goesL_ (some 9) rfl rfl Tryd.func22 (by kernel_rfl) rfl #[.slice A0 l0.length c0,.int .i64 a1] rfl (by (try simp only [List.map_toArray,List.map_cons,List.map_nil]);first | done | rfl | (simp only [List.length_drop,List.length_take];rfl)) ?_;(with_reducible refine (r4Full.calls _ _ l0 a1 false _ ?side1 ?side2 A4.out).mono ?_);(case side1=>exact C_mv ((Kd.C_below HR0.out HB.out)));(case side2=>exact HC0.out);rintro e w' ⟨rfl,⟨nd,rfl⟩⟩;refine ⟨_,rfl,?_⟩))
    go_meet
    case rel=>exact ⟨_,(true),(by first | rfl | (simp;done) | (simp [*];done)),H',⟨by first | omega | exact Nat.le_refl _⟩,⟨bmv HB.out⟩⟩
 case rest=>
  clear HC3
  try clear c5
  obtain ⟨kq,x16_2,rfl,HA,HJ2,HB⟩:=hcut
  cases kq with
  | zero=>exact absurd HA.out (by simp [r4Remove.j0])
  | succ kj2=>
   have H:=HA.out
   clear HA
   simp only [r4Remove.j0] at H
   by_cases c9 : x16_2 = true
   · subst c9
     have H1 : (some (([] : List (S29)),40)) = some (r1,r2):=by rw [if_pos rfl] at H;exact H
     clear H
     have H:=H1
     clear H1
     simp only [Option.some.injEq,Prod.mk.injEq] at H
     obtain ⟨rfl,rfl⟩:=H
     go_wp2
     go_ret2
     exact ⟨_,by first | rfl | (simp [errW_none,errW_some] <;> rfl) | (simp [*,errW_none,errW_some] <;> rfl),by first | exact Kd.S_nil _ _ _ _ _ | exact Kd.N_nil _ _ _ _ _ | exact Kd.V_nil _ _ _ _ _ | exact Kd.Q_nil _ _ _ _ _ | exact Kd.R_nil _ _ _ _ _,bmv HB.out⟩
   · replace c9:=Bool.eq_false_iff.mpr c9
     subst c9
     have H1 : ((r4above.f kj2 l0 a1).bind fun t478=>(if 0≤(wrap64 (2 * a1)) then (if (wrap64 (2 * a1)) < (t478.length : Int) then (r4Remove.l0 kj2 (t478.set ((wrap64 (2 * a1)) : Int).toNat (⟨false,0,0,0,0,([] : List Int)⟩ : S29))) else (none)) else (none))) = some (r1,r2):=by rw [if_neg (show ¬ (false = true) by decide)] at H;exact H
     clear H
     have H:=H1
     clear H1
     replace H:=Option.bind_eq_some_iff.mp H
     obtain ⟨t478,A100,H⟩:=H
     replace H : (if 0≤(wrap64 (2 * a1)) then (if (wrap64 (2 * a1)) < (t478.length : Int) then (r4Remove.l0 kj2 (t478.set ((wrap64 (2 * a1)) : Int).toNat (⟨false,0,0,0,0,([] : List Int)⟩ : S29))) else (none)) else (none)) = some (r1,r2):=H
     have A10:=Az.mk A100
     clear A100
     obtain ⟨ji11,hji11⟩ : ∃ j_ : Int,(wrap64 (2 * a1)) = j_:=⟨_,rfl⟩
     replace H : (if 0≤(ji11) then (if (ji11) < (t478.length : Int) then (r4Remove.l0 kj2 (t478.set ((ji11) : Int).toNat (⟨false,0,0,0,0,([] : List Int)⟩ : S29))) else (none)) else (none)) = some (r1,r2):=by first | (rw [hji11] at H;exact H) | (simp only [hji11] at H ⊢;exact H)
     (try rw [hji11] at A10)
     have hji11w : (IntKind.i64.wrap (2 * a1)) = ji11:=(i64_w _).trans hji11
     by_cases c12 : 0≤(ji11)
     · rw [if_pos c12] at H
       have c12b0 : decide (0≤(ji11)) = true:=decide_eq_true c12
       clear c12
       by_cases c13 : (ji11) < (t478.length : Int)
       · rw [if_pos c13] at H
         have c13b0 : decide ((ji11) < (t478.length : Int)) = true:=decide_eq_true c13
         clear c13
         obtain ⟨y481,hy481⟩ : ∃ y_ : List (S29),y_ = (t478.set ((ji11) : Int).toNat (⟨false,0,0,0,0,([] : List Int)⟩ : S29)):=⟨_,rfl⟩
         replace H : (r4Remove.l0 kj2 y481) = some (r1,r2):=by first | (rw [hy481];with_reducible exact H) | (have H2_:=(Option.bind_some _ _).symm.trans H;rw [hy481];with_reducible exact H2_) | (have H2_:=(Option.bind_some _ _).symm.trans H;with_reducible exact H2_) | with_reducible exact H | (rw [hy481];exact H) | exact H
         have Ny481:=Az.mk hy481
         clear hy481
         have H':=Az.mk H
         clear H
         go_wp2_with (first | ((with_reducible refine gate_callee (f:=67) rfl ?_);refine goesL_ (some 19) rfl rfl Tryd.func67 (by kernel_rfl) rfl #[.slice A0 l0.length c0,.int .i64 a1] rfl (by (try simp only [List.map_toArray,List.map_cons,List.map_nil]);first | done | rfl | (simp only [List.length_drop,List.length_take];rfl)) ?_;(with_reducible refine (r4above.calls kj2 _ _ l0 a1 t478 _ ?side1 ?side2 A10.out).mono ?_);(case side1=>exact C_mv ((Kd.C_below HR0.out HB.out)));(case side2=>exact HC0.out);rintro e w15 ⟨v479,rfl,ho0,hb⟩;refine ⟨_,rfl,?_⟩;have n0_:=Az.mk (Kd.S_lower ho0 (bwZ (bmv HB.out)));have n1_:=Az.mk (bwT (bmv HB.out) hb);clear HB;have HO480:=n0_;have HB:=n1_;clear n0_ n1_;(try clear hb);(try clear hb2);(try clear hk);(try clear hi);(try clear ho0);have p14 : 0≤((ji11) : Int):=of_decide_eq_true (by first | (with_reducible assumption) | assumption);have q14 : ((ji11) : Int) < ((t478.length : Int) : Int):=of_decide_eq_true (by first | (with_reducible assumption) | assumption);obtain ⟨go14,co14,eo14,gb14,gl14,cl14,HG14⟩:=Kd.S_form HO480.out (by omega);(first | cases eo14 | (injection eo14 with ea_ en_ ec_;(first | subst ea_ | (injection ea_ with ea_;subst ea_));subst ec_;clear en_));have GB14:=Az.mk gb14;have GG14:=Az.mk HG14;clear gb14 gl14 HG14;obtain ⟨_,ce14,hcl14,hM14,hcc14,hfr14,_,_⟩:=Kd.S_elem HO480.out z29 ((ji11) : Int) p14 q14;obtain ⟨ve14_5,rfl,ge14_5⟩:=k29_openM hM14;have hx14_0 : w15.cell? ⟨go14,((ji11) : Int).toNat * 6,none⟩ = some (.bool ((rd_T29 t478 (ji11)).f0)):=hcc14 0 _ rfl;have hx14_1 : w15.cell? ⟨go14,((ji11) : Int).toNat * 6 + 1,none⟩ = some (.int .i64 ((rd_T29 t478 (ji11)).f1)):=hcc14 1 _ rfl;have hx14_2 : w15.cell? ⟨go14,((ji11) : Int).toNat * 6 + 2,none⟩ = some (.int .i64 ((rd_T29 t478 (ji11)).f2)):=hcc14 2 _ rfl;have hx14_3 : w15.cell? ⟨go14,((ji11) : Int).toNat * 6 + 3,none⟩ = some (.int .i64 ((rd_T29 t478 (ji11)).f3)):=hcc14 3 _ rfl;have hx14_4 : w15.cell? ⟨go14,((ji11) : Int).toNat * 6 + 4,none⟩ = some (.int .i64 ((rd_T29 t478 (ji11)).f4)):=hcc14 4 _ rfl;have hx14_5 : w15.cell? ⟨go14,((ji11) : Int).toNat * 6 + 5,none⟩ = some (ve14_5):=hcc14 5 _ rfl;have hf14_0 : w15.frozen? ⟨go14,((ji11) : Int).toNat * 6,none⟩ = false:=hfr14 0;have hf14_1 : w15.frozen? ⟨go14,((ji11) : Int).toNat * 6 + 1,none⟩ = false:=hfr14 1;have hf14_2 : w15.frozen? ⟨go14,((ji11) : Int).toNat * 6 + 2,none⟩ = false:=hfr14 2;have hf14_3 : w15.frozen? ⟨go14,((ji11) : Int).toNat * 6 + 3,none⟩ = false:=hfr14 3;have hf14_4 : w15.frozen? ⟨go14,((ji11) : Int).toNat * 6 + 4,none⟩ = false:=hfr14 4;have hf14_5 : w15.frozen? ⟨go14,((ji11) : Int).toNat * 6 + 5,none⟩ = false:=hfr14 5;clear hcl14 hcc14 hfr14 hM14;replace p14:=eq_true p14;replace q14:=eq_true q14;have HX16:=Az.mk (show Kd.S k29 29 w15 w.heap.size (fun k_=>((fun _=>True)) k_∧¬ ((fun _=>False)) k_) (.slice (some ⟨go14,0,none⟩) t478.length co14) t478 from (S_mv (Kd.S_mono HO480.out (fun k_ hk=>⟨trivial,fun e_=>e_⟩))));obtain ⟨oki16,ce16,hcl16,hM16,hcc16,hfr16,hoki16,hH16⟩:=Kd.S_elem HX16.out z29 ((ji11) : Int) (of_decide_eq_true (by first | (with_reducible assumption) | assumption)) (by have h_ : ((ji11) : Int) < ((t478.length : Int) : Int):=of_decide_eq_true (by first | (with_reducible assumption) | assumption);first | exact h_ | (have e_:=(Kd.S_reads' HO480.out).1;omega) | simpa using h_);obtain ⟨ve16_5,rfl,ge16_5⟩:=k29_openM hM16;have HP16:=Kd.S_seg hH16 (of_decide_eq_true (by first | (with_reducible assumption) | assumption)) (by have h_ : ((ji11) : Int) < ((t478.length : Int) : Int):=of_decide_eq_true (by first | (with_reducible assumption) | assumption);first | exact h_ | (have e_:=(Kd.S_reads' HO480.out).1;omega) | simpa using h_) (seg:=[.bool false,.int .i64 0,.int .i64 0,.int .i64 0,.int .i64 0,.slice none 0 0]) (j:=0) (show 6≤6 from by decide) (x':=(⟨false,0,0,0,0,([] : List Int)⟩ : S29)) (k29_mkM _ _ _ (⟨false,0,0,0,0,([] : List Int)⟩ : S29) (Kd.R_nil _ _ _ _ _)) (fun _ hk=>hk) (fun k_ hk_=>hk_.elim);have hx16_0:=hcc16 0 _ rfl;(try simp only [show (k29).sz = 6 from rfl,Nat.mul_one,Nat.add_zero] at hx16_0);have hf16_0:=hfr16 0;(try simp only [show (k29).sz = 6 from rfl,Nat.mul_one,Nat.add_zero] at hf16_0);have hx16_1:=hcc16 1 _ rfl;(try simp only [show (k29).sz = 6 from rfl,Nat.mul_one,Nat.add_zero] at hx16_1);have hf16_1:=hfr16 1;(try simp only [show (k29).sz = 6 from rfl,Nat.mul_one,Nat.add_zero] at hf16_1);have hx16_2:=hcc16 2 _ rfl;(try simp only [show (k29).sz = 6 from rfl,Nat.mul_one,Nat.add_zero] at hx16_2);have hf16_2:=hfr16 2;(try simp only [show (k29).sz = 6 from rfl,Nat.mul_one,Nat.add_zero] at hf16_2);have hx16_3:=hcc16 3 _ rfl;(try simp only [show (k29).sz = 6 from rfl,Nat.mul_one,Nat.add_zero] at hx16_3);have hf16_3:=hfr16 3;(try simp only [show (k29).sz = 6 from rfl,Nat.mul_one,Nat.add_zero] at hf16_3);have hx16_4:=hcc16 4 _ rfl;(try simp only [show (k29).sz = 6 from rfl,Nat.mul_one,Nat.add_zero] at hx16_4);have hf16_4:=hfr16 4;(try simp only [show (k29).sz = 6 from rfl,Nat.mul_one,Nat.add_zero] at hf16_4);have hx16_5:=hcc16 5 _ rfl;(try simp only [show (k29).sz = 6 from rfl,Nat.mul_one,Nat.add_zero] at hx16_5);have hf16_5:=hfr16 5;(try simp only [show (k29).sz = 6 from rfl,Nat.mul_one,Nat.add_zero] at hf16_5);clear hcl16 hcc16 hfr16 hM16 hoki16 hH16) | ((with_reducible refine gate_store (t:=29) (p:=24) rfl ?_);refine store_event (t:=29) (p:=24) (v:=?vo_w17) (w1:=((((((w15.setCell ⟨go14,((ji11) : Int).toNat * 6,none⟩ (.bool false)).setCell ⟨go14,((ji11) : Int).toNat * 6 + 1,none⟩ (.int .i64 0)).setCell ⟨go14,((ji11) : Int).toNat * 6 + 2,none⟩ (.int .i64 0)).setCell ⟨go14,((ji11) : Int).toNat * 6 + 3,none⟩ (.int .i64 0)).setCell ⟨go14,((ji11) : Int).toNat * 6 + 4,none⟩ (.int .i64 0)).setCell ⟨go14,((ji11) : Int).toNat * 6 + 5,none⟩ (.slice none 0 0))) ?hg ?ho ?hn ?hr ?_;(case ho=>rfl);(case hg=>rfl);(case hn=>rfl);(case hr=>first | (go_simp;done) | (go_simp;rfl));intro w17 hw;have hg : w15.grownBy w17 (some go14):=(by rw [hw];exact HP16.2);have hp_ : Kd.S k29 29 w17 w.heap.size (fun _=>True) (.slice (some ⟨go14,0,none⟩) t478.length co14) y481:=(by rw [hw,Ny481.out];exact HP16.1);clear HP16;have n0_:=Az.mk (hp_);have n1_:=Az.mk ((by rw [hw];exact bwS (bwS (bwS (bwS (bwS (bwS (HB.out) GB14.out) GB14.out) GB14.out) GB14.out) GB14.out) GB14.out : Below w.heap.size w w17));clear HO480;clear HB;have HO480:=n0_;have HB:=n1_;clear n0_ n1_;clear hg hw hp_))
         go_loopg [6] kj2 (fun kq v6 w'=>∃ (x6_2 : List (S29)),Az (r4Remove.l0 kq x6_2 = some (r1,r2))∧Az (kq≤kj2)∧Az (Kd.S k29 29 w' w.heap.size (fun _=>True) v6 x6_2)∧Az (Below w.heap.size w w'))
         case atStart=>exact ⟨(y481),H',⟨Nat.le_refl _⟩,⟨S_mv HO480.out⟩,⟨bmv HB.out⟩⟩
         case round=>
          clear H'
          try clear c5
          try clear c9
          try clear c12
          try clear c12b0
          try clear c13
          try clear c13b0
          try clear p14
          try clear q14
          try clear hx14_0
          try clear hx14_1
          try clear hx14_2
          try clear hx14_3
          try clear hx14_4
          try clear hx14_5
          try clear hx16_0
          try clear hx16_1
          try clear hx16_2
          try clear hx16_3
          try clear hx16_4
          try clear hx16_5
          try clear p14
          try clear q14
          obtain ⟨x6_2,HA,HK2,HO_6,HB⟩:=hrel
          cases gk with
          | zero=>exact absurd HA.out (by simp [r4Remove.l0])
          | succ k2=>
           have H:=HA.out
           clear HA
           simp only [r4Remove.l0] at H
           by_cases c18 : (x6_2.length : Int) > 1
           · rw [if_pos c18] at H
             have c18b0 : decide (1 < (x6_2.length : Int)) = true:=decide_eq_true c18
             have c18b1 : decide (1 < x6_2.length) = true:=decide_eq_true (by omega)
             clear c18
             replace H:=Option.bind_eq_some_iff.mp H
             obtain ⟨t482,A190,H⟩:=H
             replace H : (if t482 = true then (some (x6_2,0)) else ((r4Leaves.f x6_2).bind fun t483=>(if 0≤(wrap64 (t483 - 1)) then (if (wrap64 (t483 - 1))≤(x6_2.length : Int) then (r4Remove.l0 k2 (x6_2.take ((wrap64 (t483 - 1)) : Int).toNat)) else (none)) else (none)))) = some (r1,r2):=H
             have A19:=Az.mk A190
             clear A190
             by_cases c20 : t482 = true
             · subst c20
               have H1 : (some (x6_2,0)) = some (r1,r2):=by rw [if_pos rfl] at H;exact H
               clear H
               have H:=H1
               clear H1
               simp only [Option.some.injEq,Prod.mk.injEq] at H
               obtain ⟨rfl,rfl⟩:=H
               obtain ⟨Ao21,co21,eo21⟩:=Kd.S_slice HO_6.out
               subst eo21
               go_wp2_with (first | (go_at_call 45;(with_reducible refine (r4Tight.calls k2 _ _ x6_2 true _ ?side1 ?side2 A19.out).mono ?_);(case side1=>exact C_mv ((Kd.S_reads' HO_6.out).2.2));(case side2=>exact (Kd.S_reads' HO_6.out).2.1);rintro e w' ⟨rfl,⟨nd,rfl⟩⟩))
               go_ret2
               exact ⟨_,by first | rfl | (simp [errW_none,errW_some] <;> rfl) | (simp only [← hji11];first | rfl | (simp [errW_none,errW_some] <;> rfl)) | (simp [*,errW_none,errW_some] <;> rfl),S_mv HO_6.out,bmv HB.out⟩
             · replace c20:=Bool.eq_false_iff.mpr c20
               subst c20
               have H1 : ((r4Leaves.f x6_2).bind fun t483=>(if 0≤(wrap64 (t483 - 1)) then (if (wrap64 (t483 - 1))≤(x6_2.length : Int) then (r4Remove.l0 k2 (x6_2.take ((wrap64 (t483 - 1)) : Int).toNat)) else (none)) else (none))) = some (r1,r2):=by rw [if_neg (show ¬ (false = true) by decide)] at H;exact H
               clear H
               have H:=H1
               clear H1
               replace H:=Option.bind_eq_some_iff.mp H
               obtain ⟨t483,A220,H⟩:=H
               replace H : (if 0≤(wrap64 (t483 - 1)) then (if (wrap64 (t483 - 1))≤(x6_2.length : Int) then (r4Remove.l0 k2 (x6_2.take ((wrap64 (t483 - 1)) : Int).toNat)) else (none)) else (none)) = some (r1,r2):=H
               have A22:=Az.mk A220
               clear A220
               obtain ⟨ji23,hji23⟩ : ∃ j_ : Int,(wrap64 (t483 - 1)) = j_:=⟨_,rfl⟩
               replace H : (if 0≤(ji23) then (if (ji23)≤(x6_2.length : Int) then (r4Remove.l0 k2 (x6_2.take ((ji23) : Int).toNat)) else (none)) else (none)) = some (r1,r2):=by first | (rw [hji23] at H;exact H) | (simp only [hji23] at H ⊢;exact H)
               (try rw [hji23] at A19)
               (try rw [hji23] at A22)
               have hji23w : (IntKind.i64.wrap (t483 - 1)) = ji23:=(i64_w _).trans hji23
               by_cases c24 : 0≤(ji23)
               · rw [if_pos c24] at H
                 have c24b0:=eq_true c24
                 have c24b1 : decide (0≤(ji23)) = true:=decide_eq_true c24
                 clear c24
                 by_cases c25 : (ji23)≤(x6_2.length : Int)
                 · rw [if_pos c25] at H
                   have c25b0:=eq_true c25
                   have c25b1 : decide ((ji23)≤(x6_2.length : Int)) = true:=decide_eq_true c25
                   clear c25
                   obtain ⟨y484,hy484⟩ : ∃ y_ : List (S29),y_ = (x6_2.take ((ji23) : Int).toNat):=⟨_,rfl⟩
                   replace H : (r4Remove.l0 k2 y484) = some (r1,r2):=by first | (rw [hy484];with_reducible exact H) | (have H2_:=(Option.bind_some _ _).symm.trans H;rw [hy484];with_reducible exact H2_) | (have H2_:=(Option.bind_some _ _).symm.trans H;with_reducible exact H2_) | with_reducible exact H | (rw [hy484];exact H) | exact H
                   have Ny484:=Az.mk hy484
                   clear hy484
                   have H':=Az.mk H
                   clear H
                   obtain ⟨Ao26,co26,eo26⟩:=Kd.S_slice HO_6.out
                   subst eo26
                   go_wp2_with (first | (go_at_call 45;(with_reducible refine (r4Tight.calls k2 _ _ x6_2 false _ ?side1 ?side2 A19.out).mono ?_);(case side1=>exact C_mv ((Kd.S_reads' HO_6.out).2.2));(case side2=>exact (Kd.S_reads' HO_6.out).2.1);rintro e w' ⟨rfl,⟨nd,rfl⟩⟩) | ((with_reducible refine gate_callee (f:=21) rfl ?_);refine goesL_ (some 35) rfl rfl Tryd.func21 (by kernel_rfl) rfl #[.slice Ao26 x6_2.length co26] rfl (by (try simp only [List.map_toArray,List.map_cons,List.map_nil]);first | done | rfl | (simp only [List.length_drop,List.length_take];rfl)) ?_;(with_reducible refine (r4Leaves.calls _ _ x6_2 t483 _ ?side1 ?side2 A22.out).mono ?_);(case side1=>exact C_mv ((Kd.S_reads' HO_6.out).2.2));(case side2=>exact (Kd.S_reads' HO_6.out).2.1);rintro e w' ⟨rfl,⟨nd,rfl⟩⟩;refine ⟨_,rfl,?_⟩;have q27 : ((ji23) : Int)≤((x6_2.length : Int) : Int):=of_decide_eq_true (by first | (with_reducible assumption) | assumption);obtain ⟨i027,hi027,_,hsz27,_⟩:=info_parts info29;have hcut27:=cut_to (P:=Tryd.prog) 22 29 .i64 Tryd.underlying22 hi027 Ao26 x6_2.length co26 (ji23) (of_decide_eq_true (by first | (with_reducible assumption) | assumption)) q27 (Kd.S_reads' HO_6.out).2.1;have hr27:=Kd.S_take (m:=((ji23) : Int).toNat) HO_6.out (by omega);have hy27 : y484.length = ((ji23) : Int).toNat:=(by rw [Ny484.out,List.length_take];omega);rw [← Ny484.out] at hr27;rw [← hy27] at hr27 hcut27;clear hy27 hi027 hsz27 HO_6;have HO486:=Az.mk hr27;clear hr27;replace q27:=eq_true q27))
                   go_roundg k2
                   case measure=>have:=HJ2.out;have:=HK2.out;omega
                   case rel=>exact ⟨(y484),H',⟨by have:=HJ2.out;have:=HK2.out;omega⟩,⟨S_mv HO486.out⟩,⟨bmv HB.out⟩⟩
                 · rw [if_neg c25] at H
                   exact absurd H (by simp)
               · rw [if_neg c24] at H
                 exact absurd H (by simp)
           · rw [if_neg c18] at H
             have c18b0 : decide (1 < (x6_2.length : Int)) = false:=decide_eq_false c18
             have c18b1 : decide (1 < x6_2.length) = false:=decide_eq_false (by omega)
             clear c18
             simp only [Option.some.injEq,Prod.mk.injEq] at H
             obtain ⟨rfl,rfl⟩:=H
             obtain ⟨Ao28,co28,eo28⟩:=Kd.S_slice HO_6.out
             subst eo28
             go_wp2
             go_ret2
             exact ⟨_,by first | rfl | (simp [errW_none,errW_some] <;> rfl) | (simp only [← hji11];first | rfl | (simp [errW_none,errW_some] <;> rfl)) | (simp [*,errW_none,errW_some] <;> rfl),S_mv HO_6.out,bmv HB.out⟩
       · rw [if_neg c13] at H
         exact absurd H (by simp)
     · rw [if_neg c12] at H
       exact absurd H (by simp)
theorem C_cut {α : Type} {d : Kd α} {w : World} {A : Option Addr} {n : Nat} {xs : List α} (h : d.C w A n xs) (m : Nat) (hm : m≤n) : d.C w A m (xs.take m):=by
 refine ⟨by rw [List.length_take,h.1];omega,by have:=h.2.1;omega,fun hp=>?_⟩
 obtain ⟨ad,e,hc⟩:=h.2.2 (by omega)
 refine ⟨ad,e,fun j p hj=>hc j p ?_⟩
 rw [List.getElem?_take] at hj
 split at hj
 · exact hj
 · cases hj
theorem V_cut {α : Type} {d : Kd α} {e : Nat} {W : World} {b : Nat} {ok : Nat→Prop} {A : Option Addr} {n c : Nat} {xs : List α} (h : Kd.V d e W b ok (.slice A n c) xs) (m : Nat) (hm : m≤xs.length) : Kd.V d e W b ok (.slice A m m) (xs.take m):=by
 obtain ⟨A',c0,hv,hl,hF⟩:=h
 injection hv with e1 e2 e3
 subst e1
 have hlt : (xs.take m).length = m:=by rw [List.length_take];omega
 refine ⟨A,m,by rw [hlt],by rw [hlt];exact Nat.le_refl _,?_⟩
 rw [hlt]
 exact Kd.F_imp hF (fun W' h'=>C_cut h' m hm)
theorem V_now {α : Type} {d : Kd α} {e : Nat} {W : World} {b : Nat} {ok : Nat→Prop} {A : Option Addr} {n c : Nat} {xs : List α} (h : Kd.V d e W b ok (.slice A n c) xs) : n = xs.length∧n≤c∧d.C W A xs.length xs:=by
 obtain ⟨A',c0,hv,hl,hF⟩:=h
 injection hv with e1 e2 e3
 subst e1 e3
 exact ⟨e2,by rw [e2];exact hl,Kd.F_now hF⟩
theorem clip_calls (A : Option Addr) (n c : Nat) (hnc : n≤c) (w : World) : Calls Tryd.prog 62 #[.slice A n c] w fun e w'=>e = .returned (.slice A n n)∧w' = w:=by
 have h1 : decide ((n : Int)≤(c : Int)) = true:=by simp;omega
 go_enter Tryd.func62,Tryd.ntmps62
 go_wp2
 go_ret
 exact ⟨rfl,rfl⟩
def r4Merge.l0 : Nat→List Int→List Int→List Int→List (S29)→Int→Option (List (S29) × Int)
 | 0,_,_,_,_,_=>none
 | k + 1,p,ks,hs,x,j=>if j < (p.length : Int) then (if 0≤j then (if j < (ks.length : Int) then (if j < (hs.length : Int) then (if 0≤rd p j then (if rd p j < (x.length : Int) then r4Merge.l0 k p ks hs (x.set (rd p j).toNat (⟨true,rd ks j,0,0,rd hs j,([] : List Int)⟩ : S29)) (wrap64 (j + 1)) else none) else none) else none) else none) else none) else some (x,0)
def r4Merge.f (k : Nat) (l0 : List (S29)) (a1 : Int) (a2_0 : Bool) (a2_1 : Int) (a2_2 : Int) (a2_3 : Int) (a2_4 : Int) (l2_5 : List Int) (l3 : List Int) (l4 : List Int) : Option ((List (S29)) × Int):=(r4Full.f l0 a1).bind fun t=>if t = true then ((r4Filtered.f k l0 a1).bind fun p=>if l3.length = p.1.length∧l4.length = p.1.length then ((r4above.f k l0 a1).bind fun t2=>if 0≤(wrap64 (2 * a1)) then (if (wrap64 (2 * a1)) < (t2.length : Int) then r4Merge.l0 k p.1 l3 l4 (t2.set ((wrap64 (2 * a1)) : Int).toNat (⟨true,a2_1,a2_2,a2_3,a2_4,([] : List Int)⟩ : S29)) 0 else none) else none) else some (([] : List (S29)),30)) else some (([] : List (S29)),40)
theorem r4Merge.mono_l : ∀ k y0 y1 y2 y3 y4,LeO (r4Merge.l0 k y0 y1 y2 y3 y4) (r4Merge.l0 (k + 1) y0 y1 y2 y3 y4)
 | 0=>fun _ _ _ _ _ r h=>by simp [r4Merge.l0] at h
 | k + 1=>by
  intro y0 y1 y2 y3 y4
  unfold r4Merge.l0
  exact LeO.ite (LeO.ite (LeO.ite (LeO.ite (LeO.ite (LeO.ite (r4Merge.mono_l k _ _ _ _ _) (LeO.none _)) (LeO.none _)) (LeO.none _)) (LeO.none _)) (LeO.none _)) (LeO.refl _)
theorem r4Merge.mono : ∀ a0 a1 a2 a3 a4 a5 a6 a7 a8 a9 k,LeO (r4Merge.f k a0 a1 a2 a3 a4 a5 a6 a7 a8 a9) (r4Merge.f (k + 1) a0 a1 a2 a3 a4 a5 a6 a7 a8 a9):=by
 intro a0 a1 a2 a3 a4 a5 a6 a7 a8 a9 k
 unfold r4Merge.f
 refine LeO.bind (LeO.refl _) (fun _=>LeO.ite (LeO.bind (r4Filtered.mono _ _ _) (fun _=>LeO.ite (LeO.bind (r4above.mono _ _ _) (fun _=>LeO.ite (LeO.ite (r4Merge.mono_l _ _ _ _ _ _) (LeO.none _)) (LeO.none _))) (LeO.refl _))) (LeO.refl _))
set_option maxHeartbeats 8000000 in
set_option maxRecDepth 100000 in
theorem r4Merge.calls (k : Nat) (A0 : Option Addr) (c0 : Nat) (l0 : List (S29)) (a1 : Int) (a2_0 : Bool) (a2_1 : Int) (a2_2 : Int) (a2_3 : Int) (a2_4 : Int) (P2_5_ : Nat→Prop) (A2_5 : Option Addr) (c2_5 : Nat) (l2_5 : List Int) (A3 : Option Addr) (c3 : Nat) (l3 : List Int) (A4 : Option Addr) (c4 : Nat) (l4 : List Int) (r1 : List (S29)) (r2 : Int) (w : World) (hr0 : Kd.C k29 w A0 l0.length l0) (hc0 : l0.length≤c0) (hs2_5 : Kd.V (Kd.int .i64) 3 w w.heap.size (fun k_=>P2_5_ k_) (.slice A2_5 l2_5.length c2_5) l2_5) (hr3 : Kd.C (Kd.int .i64) w A3 l3.length l3) (hc3 : l3.length≤c3) (hr4 : Kd.C (Kd.int .i64) w A4 l4.length l4) (hc4 : l4.length≤c4) (h : r4Merge.f k l0 a1 a2_0 a2_1 a2_2 a2_3 a2_4 l2_5 l3 l4 = some (r1,r2)) :
 Calls Tryd.prog 49 #[.slice A0 l0.length c0,.int .i64 a1,.agg #[.bool a2_0,.int .i64 a2_1,.int .i64 a2_2,.int .i64 a2_3,.int .i64 a2_4,.slice A2_5 l2_5.length c2_5],.slice A3 l3.length c3,.slice A4 l4.length c4] w fun e w'=>∃ v0_ : Value,e = .returned (.tuple #[v0_,.int .i64 r2])∧Kd.S k29 29 w' w.heap.size (fun k_=>(w.heap.size≤k_)) v0_ r1∧Below w.heap.size w w':=by
 have huV:=Tryd.underlying29
 have HC:=Az.mk hr0
 have HL:=Az.mk hc0
 obtain ⟨_,hl5,hc5⟩:=V_now hs2_5
 have HC5:=Az.mk hc5
 have HL5:=Az.mk hl5
 have HK3:=Az.mk hr3
 have HK4:=Az.mk hr4
 have hn3:=hr3.2.1
 have hn4:=hr4.2.1
 have HN34:=Az.mk (And.intro hn3 hn4)
 clear hr0 hc0 hs2_5 hc5 hl5 hr3 hr4 hn3 hn4
 unfold r4Merge.f at h
 obtain ⟨t,A40,H⟩:=Option.bind_eq_some_iff.mp h
 have A4_:=Az.mk A40
 clear A40 h
 have HB0:=Az.mk (bwA (Below.refl w.heap.size w) (.cells #[.bool a2_0,.int .i64 a2_1,.int .i64 a2_2,.int .i64 a2_3,.int .i64 a2_4,.slice A2_5 l2_5.length c2_5] 29))
 cases t
 · rw [if_neg (by decide)] at H
   simp only [Option.some.injEq,Prod.mk.injEq] at H
   obtain ⟨rfl,rfl⟩:=H
   go_enter Tryd.func49,Tryd.ntmps49
   go_wp2_with (go_at_call 22;(with_reducible refine (r4Full.calls _ _ l0 a1 false _ (Kd.C_alloc HC.out _) HL.out A4_.out).mono ?_);rintro e w1 ⟨rfl,⟨nd,rfl⟩⟩)
   go_ret2
   exact ⟨_,rfl,Kd.S_nil _ _ _ _ _,bwN HB0.out _⟩
 · rw [if_pos rfl] at H
   obtain ⟨⟨p,q⟩,A50,H⟩:=Option.bind_eq_some_iff.mp H
   have A5_:=Az.mk A50
   clear A50
   dsimp only at H
   go_enter Tryd.func49,Tryd.ntmps49
   go_upto_region 4 with (first
    | (go_at_call 22;(with_reducible refine (r4Full.calls _ _ l0 a1 true _ (Kd.C_alloc HC.out _) HL.out A4_.out).mono ?_);rintro e w1 ⟨rfl,⟨nd,rfl⟩⟩)
    | (go_at_call 37;(with_reducible refine (r4Filtered.calls _ _ _ l0 a1 p q _ (Kd.C_drewN (Kd.C_alloc HC.out _) nd) HL.out A5_.out).mono ?_);rintro e w2 ⟨vp,vq,rfl,hRp,hRq,hb⟩;have HB2:=Az.mk (bwT (bwN HB0.out nd) hb);have HX2:=Az.mk hb;have HRp:=Az.mk (Kd.R_lower hRp (by exact (bwZ (bwN HB0.out nd))));clear hRp hRq hb))
   obtain ⟨Ap,cp,rfl⟩:=Kd.R_slice HRp.out
   have hpl : p.length≤9223372036854775807:=(Kd.R_reads' HRp.out).2.2.2.1
   by_cases hlen : l3.length = p.length∧l4.length = p.length
   case neg=>
    rw [if_neg hlen] at H
    simp only [Option.some.injEq,Prod.mk.injEq] at H
    obtain ⟨rfl,rfl⟩:=H
    by_cases he3 : l3.length = p.length
    · have hb3 : ((l3.length : Int) != (p.length : Int)) = false:=by simp;omega
      have hb4 : ((l4.length : Int) != (p.length : Int)) = true:=by
       have : l4.length≠p.length:=fun e=>hlen ⟨he3,e⟩
       simp;omega
      clear he3 hlen hpl
      go_wp2
      go_ret2
      exact ⟨_,rfl,Kd.S_nil _ _ _ _ _,HB2.out⟩
    · have hb3 : ((l3.length : Int) != (p.length : Int)) = true:=by simp;omega
      clear he3 hlen hpl
      go_wp2
      go_ret2
      exact ⟨_,rfl,Kd.S_nil _ _ _ _ _,HB2.out⟩
   rw [if_pos hlen] at H
   obtain ⟨he3,he4⟩:=hlen
   have HE:=Az.mk (And.intro he3 (And.intro he4 hpl))
   have hb3 : ((l3.length : Int) != (p.length : Int)) = false:=by simp;omega
   have hb4 : ((l4.length : Int) != (p.length : Int)) = false:=by simp;omega
   clear he3 he4 hpl
   obtain ⟨t2,A60,H⟩:=Option.bind_eq_some_iff.mp H
   have A6_:=Az.mk A60
   clear A60
   have ex : ∃ ji,wrap64 (2 * a1) = ji:=⟨_,rfl⟩
   obtain ⟨ji,hji⟩:=ex
   rw [hji] at H
   have hjiw : (IntKind.i64.wrap (2 * a1)) = ji:=(i64_w _).trans hji
   by_cases h0 : 0≤ji
   case neg=>rw [if_neg h0] at H;cases H
   rw [if_pos h0] at H
   by_cases h1 : ji < (t2.length : Int)
   case neg=>rw [if_neg h1] at H;cases H
   rw [if_pos h1] at H
   have HH:=Az.mk H
   clear H
   go_upto_region 7 with (go_at_call 67;(with_reducible refine (r4above.calls _ _ _ l0 a1 t2 _ (Kd.C_below (Kd.C_drewN (Kd.C_alloc HC.out _) nd) HX2.out) HL.out A6_.out).mono ?_);rintro e w3 ⟨v3,rfl,hS,hb⟩;have HBX:=Az.mk hb;have HS3:=Az.mk (Kd.S_mono (Kd.S_bound hS) (fun k_ hk=>hk.2.1) : Kd.S k29 29 w3 w2.heap.size (fun k_=>w2.heap.size≤k_) v3 t2);clear hS hb)
   obtain ⟨g,c3_,rfl,gb,gl,_,_⟩:=Kd.S_form HS3.out (by omega)
   have hblk : w3.heap[w.heap.size]? = some (.cells #[.bool a2_0,.int .i64 a2_1,.int .i64 a2_2,.int .i64 a2_3,.int .i64 a2_4,.slice A2_5 l2_5.length c2_5] 29 (0,0)):=(HBX.out.block _ (Nat.lt_of_lt_of_le (by simp) HX2.out.size)).trans ((HX2.out.block _ (by simp)).trans heap_alloc_at)
   have lx0:=cell_of hblk 0
   have lx1:=cell_of hblk 1
   have lx2:=cell_of hblk 2
   have lx3:=cell_of hblk 3
   have lx4:=cell_of hblk 4
   have lx5:=cell_of hblk 5
   simp only [List.getElem?_toArray,List.getElem?_cons_zero,List.getElem?_cons_succ] at lx0 lx1 lx2 lx3 lx4 lx5
   have HC53:=Az.mk (Kd.C_below (Kd.C_below (Kd.C_drewN (Kd.C_alloc HC5.out (.cells #[.bool a2_0,.int .i64 a2_1,.int .i64 a2_2,.int .i64 a2_3,.int .i64 a2_4,.slice A2_5 l2_5.length c2_5] 29)) nd) HX2.out) HBX.out)
   have GB:=Az.mk gb
   have p0:=eq_true h0
   have p1:=eq_true h1
   have H0:=Az.mk h0
   have H1:=Az.mk h1
   clear gb gl hji h0 h1 hblk
   go_upto_region 8 with (first
    | (go_at_call 35;(with_reducible refine (r4Leaf.nil a2_0 a2_1 a2_2 a2_3 a2_4 A2_5 c2_5 l2_5 _ HC53.out HL5.out).mono ?_);rintro e w4 ⟨rfl,hb4⟩;have HS4:=Az.mk (Kd.S_below HS3.out hb4);have HB4:=Az.mk (bwT HBX.out hb4);clear hb4 lx0 lx1 lx2 lx3 lx4 lx5;obtain ⟨oki,ce,hcl,hM,hcc,hfr,hoki,hH⟩:=Kd.S_elem HS4.out z29 ji H0.out H1.out;obtain ⟨ve5,rfl,ge5⟩:=k29_openM hM;have HP:=Az.mk (Kd.S_seg0 hH H0.out H1.out (seg:=[.bool true,.int .i64 a2_1,.int .i64 a2_2,.int .i64 a2_3,.int .i64 a2_4,.slice none 0 0]) (j:=0) (show 6≤6 from by decide) (x':=(⟨true,a2_1,a2_2,a2_3,a2_4,([] : List Int)⟩ : S29)) (k29_mkM _ _ _ (⟨true,a2_1,a2_2,a2_3,a2_4,([] : List Int)⟩ : S29) (Kd.R_nil _ _ _ _ _)) (fun _ hk=>hk));have hx0 : w4.cell? ⟨g,ji.toNat * 6,none⟩ = some (.bool _):=hcc 0 _ rfl;have hx1 : w4.cell? ⟨g,ji.toNat * 6 + 1,none⟩ = some (.int .i64 _):=hcc 1 _ rfl;have hx2 : w4.cell? ⟨g,ji.toNat * 6 + 2,none⟩ = some (.int .i64 _):=hcc 2 _ rfl;have hx3 : w4.cell? ⟨g,ji.toNat * 6 + 3,none⟩ = some (.int .i64 _):=hcc 3 _ rfl;have hx4 : w4.cell? ⟨g,ji.toNat * 6 + 4,none⟩ = some (.int .i64 _):=hcc 4 _ rfl;have hx5 : w4.cell? ⟨g,ji.toNat * 6 + 5,none⟩ = some ve5:=hcc 5 _ rfl;have hf0 : w4.frozen? ⟨g,ji.toNat * 6,none⟩ = false:=hfr 0;have hf1 : w4.frozen? ⟨g,ji.toNat * 6 + 1,none⟩ = false:=hfr 1;have hf2 : w4.frozen? ⟨g,ji.toNat * 6 + 2,none⟩ = false:=hfr 2;have hf3 : w4.frozen? ⟨g,ji.toNat * 6 + 3,none⟩ = false:=hfr 3;have hf4 : w4.frozen? ⟨g,ji.toNat * 6 + 4,none⟩ = false:=hfr 4;have hf5 : w4.frozen? ⟨g,ji.toNat * 6 + 5,none⟩ = false:=hfr 5;clear hcl hM hcc hfr hoki hH ge5)
    | ((with_reducible refine gate_store (t:=29) (p:=46) rfl ?_);refine store_event (t:=29) (p:=46) (v:=?vo) (w1:=((((((w4.setCell ⟨g,ji.toNat * 6,none⟩ (.bool true)).setCell ⟨g,ji.toNat * 6 + 1,none⟩ (.int .i64 a2_1)).setCell ⟨g,ji.toNat * 6 + 2,none⟩ (.int .i64 a2_2)).setCell ⟨g,ji.toNat * 6 + 3,none⟩ (.int .i64 a2_3)).setCell ⟨g,ji.toNat * 6 + 4,none⟩ (.int .i64 a2_4)).setCell ⟨g,ji.toNat * 6 + 5,none⟩ (.slice none 0 0))) ?hg ?ho ?hn ?hr ?_;(case ho=>rfl);(case hg=>rfl);(case hn=>rfl);(case hr=>first | (go_simp;done) | (go_simp;rfl));intro w5 hw;have HS5:=Az.mk (show Kd.S k29 29 w5 w2.heap.size (fun k_=>w2.heap.size≤k_) (.slice (some ⟨g,0,none⟩) t2.length c3_) (t2.set ji.toNat (⟨true,a2_1,a2_2,a2_3,a2_4,([] : List Int)⟩ : S29)) from by rw [hw];exact HP.out.1);have HG5:=Az.mk (show w4.grownBy w5 (some g) from by rw [hw];exact HP.out.2);clear hw))
   obtain ⟨y,hy⟩ : ∃ y,y = (t2.set ji.toNat (⟨true,a2_1,a2_2,a2_3,a2_4,([] : List Int)⟩ : S29)):=⟨_,rfl⟩
   have hyl : y.length = t2.length:=by rw [hy,List.length_set]
   have HB5:=Az.mk (show Below w2.heap.size w2 w5 from pw_below_grown HB4.out (some g) (bwZ HB4.out) HG5.out (fun k_ e_=>by cases e_;exact GB.out))
   clear HP HG5 hyl hy y p0 p1 hx0 hx1 hx2 hx3 hx4 hx5 hf0 hf1 hf2 hf3 hf4 hf5
   have HCp:=Az.mk (Kd.R_reads' HRp.out).2.2
   clear HRp HB4 HS4 HS3 HBX HC53 HC5 HL5 H0 H1 GB HC HL HX2
   go_wp2
   go_loopg [15] k (fun kq v w'=>∃ (j : Int) (x : List (S29)),v = .int .i64 j∧Az (kq≤k)∧Az (r4Merge.l0 kq p l3 l4 x j = some (r1,r2))∧Az (Kd.S k29 29 w' w2.heap.size (fun k_=>w2.heap.size≤k_) (.slice (some ⟨g,0,none⟩) t2.length c3_) x)∧Az (Below w2.heap.size w2 w'))
   case atStart=>exact ⟨0,_,rfl,⟨Nat.le_refl _⟩,HH,HS5,HB5⟩
   case round=>
    clear HH HS5 HB5
    obtain ⟨j,x,rfl,HK1,HR,HS,HB⟩:=hrel
    cases gk with
    | zero=>exact absurd HR.out (by simp [r4Merge.l0])
    | succ k1=>
     have H:=HR.out
     simp only [r4Merge.l0] at H
     have hxl:=(Kd.S_reads' HS.out).1
     have HXL:=Az.mk hxl
     clear HR hxl
     by_cases c1 : j < (p.length : Int)
     case neg=>
      rw [if_neg c1] at H
      have c1b : decide (j < (p.length : Int)) = false:=decide_eq_false c1
      simp only [Option.some.injEq,Prod.mk.injEq] at H
      obtain ⟨rfl,rfl⟩:=H
      clear c1
      go_wp2
      go_ret2
      exact ⟨_,rfl,Kd.S_mono (Kd.S_lower HS.out (bwZ HB2.out)) (fun k_ hk=>Nat.le_trans (bwZ HB2.out) hk),bwT HB2.out HB.out⟩
     rw [if_pos c1] at H
     by_cases c2 : 0≤j
     case neg=>rw [if_neg c2] at H;cases H
     rw [if_pos c2] at H
     by_cases c3 : j < (l3.length : Int)
     case neg=>rw [if_neg c3] at H;cases H
     rw [if_pos c3] at H
     by_cases c4 : j < (l4.length : Int)
     case neg=>rw [if_neg c4] at H;cases H
     rw [if_pos c4] at H
     by_cases c5 : 0≤rd p j
     case neg=>rw [if_neg c5] at H;cases H
     rw [if_pos c5] at H
     by_cases c6 : rd p j < (x.length : Int)
     case neg=>rw [if_neg c6] at H;cases H
     rw [if_pos c6] at H
     have H':=Az.mk H
     have c1b : decide (j < (p.length : Int)) = true:=decide_eq_true c1
     obtain ⟨adp,ep,hcp⟩:=Kd.at_int (Kd.C_below HCp.out HB.out) j c2 c1
     cases ep
     obtain ⟨ad3,e3,hc3_⟩:=Kd.at_int (Kd.C_below HK3.out (bwT HB2.out HB.out)) j c2 c3
     cases e3
     obtain ⟨ad4,e4,hc4_⟩:=Kd.at_int (Kd.C_below HK4.out (bwT HB2.out HB.out)) j c2 c4
     cases e4
     obtain ⟨oki,ce,hcl,hM,hcc,hfr,hoki,hH⟩:=Kd.S_elem HS.out z29 (rd p j) c5 (by have:=HXL.out;omega)
     obtain ⟨ve5,rfl,ge5⟩:=k29_openM hM
     have HP:=Az.mk (Kd.S_seg0 hH c5 (by have:=HXL.out;omega) (seg:=[.bool true,.int .i64 (rd l3 j),.int .i64 0,.int .i64 0,.int .i64 (rd l4 j),.slice none 0 0]) (j:=0) (show 6≤6 from by decide) (x':=(⟨true,rd l3 j,0,0,rd l4 j,([] : List Int)⟩ : S29)) (k29_mkM _ _ _ (⟨true,rd l3 j,0,0,rd l4 j,([] : List Int)⟩ : S29) (Kd.R_nil _ _ _ _ _)) (fun _ hk=>hk))
     have gbb : w2.heap.size≤g:=Kd.S_base HS.out g rfl
     have hx0 : wr.cell? ⟨g,(rd p j).toNat * 6,none⟩ = some (.bool _):=hcc 0 _ rfl
     have hx1 : wr.cell? ⟨g,(rd p j).toNat * 6 + 1,none⟩ = some (.int .i64 _):=hcc 1 _ rfl
     have hx2 : wr.cell? ⟨g,(rd p j).toNat * 6 + 2,none⟩ = some (.int .i64 _):=hcc 2 _ rfl
     have hx3 : wr.cell? ⟨g,(rd p j).toNat * 6 + 3,none⟩ = some (.int .i64 _):=hcc 3 _ rfl
     have hx4 : wr.cell? ⟨g,(rd p j).toNat * 6 + 4,none⟩ = some (.int .i64 _):=hcc 4 _ rfl
     have hx5 : wr.cell? ⟨g,(rd p j).toNat * 6 + 5,none⟩ = some ve5:=hcc 5 _ rfl
     have hf0 : wr.frozen? ⟨g,(rd p j).toNat * 6,none⟩ = false:=hfr 0
     have hf1 : wr.frozen? ⟨g,(rd p j).toNat * 6 + 1,none⟩ = false:=hfr 1
     have hf2 : wr.frozen? ⟨g,(rd p j).toNat * 6 + 2,none⟩ = false:=hfr 2
     have hf3 : wr.frozen? ⟨g,(rd p j).toNat * 6 + 3,none⟩ = false:=hfr 3
     have hf4 : wr.frozen? ⟨g,(rd p j).toNat * 6 + 4,none⟩ = false:=hfr 4
     have hf5 : wr.frozen? ⟨g,(rd p j).toNat * 6 + 5,none⟩ = false:=hfr 5
     have p1:=eq_true c1
     have p2:=eq_true c2
     have p3:=eq_true c3
     have p4:=eq_true c4
     have p5:=eq_true c5
     have p6:=eq_true (show rd p j < (t2.length : Int) by have:=HXL.out;omega)
     clear hcl hM hcc hfr hoki hH ge5 H c1 c2 c3 c4 c5 c6
     generalize hq : rd p j = q at *
     have HGB:=Az.mk gbb
     clear HK3 HK4 HXL HE HN34 gbb
     go_wp2
     refine Mix.wp_region_mix (fun _=>True) (fun i=>[0,0,0,6,14,0,0,96,224,0,0,1536,3584,8160,16383,32767].getD i 0) (fun i=>[2,2,2,2,2,2,2,2,2,2,2,2,2,2,2,3].getD i 0) (by kernel_rfl) ⟨by kernel_rfl,by kernel_rfl,by kernel_rfl,by kernel_rfl,by kernel_rfl⟩ trivial ?_;simp only [Mix.whole,List.getD_cons_zero,List.getD_cons_succ,Nat.reduceAdd]
     repeat (first | (refine Mix.pin_no rfl rfl (fun K hK=>?_);go_step;refine hK _ ?_;clear hK K) | (refine Mix.pin_not rfl rfl rfl rfl (fun K hK=>?_);simp only [List.setIfInBounds_toArray,List.set_cons_zero,List.set_cons_succ];refine hK _ ?_;clear hK K) | (refine Mix.pin_yes rfl rfl rfl rfl (fun K hK=>?_);go_step;refine hK _ ?_;clear hK K))
     refine Mix.last_no rfl (fun K hK=>?_)
     go_step
     obtain ⟨wn,hwn⟩ : ∃ wn,wn = ((((((wr.setCell ⟨g,q.toNat * 6,none⟩ (.bool true)).setCell ⟨g,q.toNat * 6 + 1,none⟩ (.int .i64 (rd l3 j))).setCell ⟨g,q.toNat * 6 + 2,none⟩ (.int .i64 0)).setCell ⟨g,q.toNat * 6 + 3,none⟩ (.int .i64 0)).setCell ⟨g,q.toNat * 6 + 4,none⟩ (.int .i64 (rd l4 j))).setCell ⟨g,q.toNat * 6 + 5,none⟩ (.slice none 0 0)):=⟨_,rfl⟩
     have HSn:=Az.mk (show Kd.S k29 29 wn w2.heap.size (fun k_=>w2.heap.size≤k_) (.slice (some ⟨g,0,none⟩) t2.length c3_) (x.set q.toNat (⟨true,rd l3 j,0,0,rd l4 j,([] : List Int)⟩ : S29)) from by rw [hwn];exact HP.out.1)
     have HGn:=Az.mk (show wr.grownBy wn (some g) from by rw [hwn];exact HP.out.2)
     rw [← hwn]
     have HBn:=Az.mk (pw_below_grown HB.out (some g) (bwZ HB.out) HGn.out (fun k_ e_=>by cases e_;exact HGB.out))
     clear hwn HP hx0 hx1 hx2 hx3 hx4 hx5 hf0 hf1 hf2 hf3 hf4 hf5 hcp hc3_ hc4_ p1 p2 p3 p4 p5 p6 c1b HGn HS HB
     refine hK _ _ ?_
     clear hK K
     refine Mix.walk_nil ?_
     go_wp2
     go_roundg k1
     case measure=>have:=HK1.out;omega
     case rel=>exact ⟨wrap64 (j + 1),_,rfl,⟨by have:=HK1.out;omega⟩,H',⟨Kd.S_drew HSn.out⟩,⟨below_drew HBn.out⟩⟩
end Go.Proofs.YtbblomnhobodkaaDoor.PTw
namespace Go.Proofs.YtbblomnhobodkaaDoor.PTw
open Go.RowKit Go.Proofs.YtbblomnhobodkaaDoorW.PW Go.Proofs.YtbblomnhobodkaaDoorW.PL Go.Proofs.YtbblomnhobodkaaDoorW.PM
attribute [local go_sem] max2_int min2_int max_two min_two max_three min_three max_four min_four   -- for this text's walks alone
set_option linter.unusedVariables false
set_option linter.unusedSimpArgs false
def tree_Members.l0 : Nat→List (S29)→List Int→Int→Int→Option (List Int)
 | 0,_,_,_,_=>none
 | k + 1,x0,x3,x6,x7=>if x7 < x6 then (if 0≤(wrap64 (2 * x7)) then (if (wrap64 (2 * x7)) < (x0.length : Int) then (if (rd_T29 x0 (wrap64 (2 * x7))).f0 = true then (if x3.length < 17592186044416 then (tree_Members.l0 k x0 (x3 ++ [x7]) x6 (wrap64 (x7 + 1))) else (none)) else (tree_Members.l0 k x0 x3 x6 (wrap64 (x7 + 1)))) else (none)) else (none)) else (some x3)
def tree_Members.f (k : Nat) (l0 : List (S29)) : Option (List Int):=(tree_Leaves.f l0).bind fun t571=>(tree_Members.l0 k l0 ([] : List Int) t571 0)
theorem tree_Members.mono_l : ∀ k,(∀ y0 y1 y2 y3,LeO (tree_Members.l0 k y0 y1 y2 y3) (tree_Members.l0 (k + 1) y0 y1 y2 y3))
 | 0=>fun _ _ _ _ r h=>by simp [tree_Members.l0] at h
 | k + 1=>by
  have ih0:=tree_Members.mono_l k
  · intro y0 y1 y2 y3
    unfold tree_Members.l0
    repeat' first
    | (with_reducible exact ih0 _ _ _ _)
    | (with_reducible exact LeO.refl _)
    | (with_reducible exact LeO.none _)
    | (with_reducible refine LeO.ite ?_ ?_)
    | (with_reducible refine LeO.bind ?_ (fun _=>?_))
    | exact ih0 _ _ _ _
    | exact LeO.none _
    | refine LeO.ite ?_ ?_
    | refine LeO.bind ?_ (fun _=>?_)
theorem tree_Members.mono : ∀ a0 k,LeO (tree_Members.f k a0) (tree_Members.f (k + 1) a0):=by
 intro a0 k
 have ih0:=tree_Members.mono_l k
 unfold tree_Members.f
 repeat' first
  | (with_reducible exact ih0 _ _ _ _)
  | (with_reducible exact LeO.refl _)
  | (with_reducible exact LeO.none _)
  | (with_reducible refine LeO.ite ?_ ?_)
  | (with_reducible refine LeO.bind ?_ (fun _=>?_))
  | exact ih0 _ _ _ _
  | exact LeO.none _
  | refine LeO.ite ?_ ?_
  | refine LeO.bind ?_ (fun _=>?_)
set_option maxHeartbeats 8000000 in
set_option maxRecDepth 100000 in
theorem tree_Members.calls (k : Nat) (A0 : Option Addr) (c0 : Nat) (l0 : List (S29)) (r : List Int) (w : World) (hr0 : Kd.C k29 w A0 l0.length l0) (hc0 : l0.length≤c0) (h : tree_Members.f k l0 = some r) :
 Calls Tryd.prog 24 #[.slice A0 l0.length c0] w fun e w'=>∃ v0_ : Value,e = .returned (v0_)∧Kd.R (Kd.int .i64) 3 w' w.heap.size (fun _=>True) v0_ r∧Below w.heap.size w w':=by
 have HR0:=Az.mk hr0
 have HC0:=Az.mk hc0
 clear hr0 hc0
 have HB:=Az.mk (Below.refl w.heap.size w)
 have H : ((tree_Leaves.f l0).bind fun t571=>(tree_Members.l0 k l0 ([] : List Int) t571 0)) = some r:=h
 clear h
 replace H:=Option.bind_eq_some_iff.mp H
 obtain ⟨t571,A20,H⟩:=H
 replace H : (tree_Members.l0 k l0 ([] : List Int) t571 0) = some r:=H
 have A2:=Az.mk A20
 clear A20
 have H':=Az.mk H
 clear H
 go_enter Tryd.func24,Tryd.ntmps24
 go_wp2_with (first | ((with_reducible refine gate_callee (f:=29) rfl ?_);refine goesL_ (some 6) rfl rfl Tryd.func29 (by kernel_rfl) rfl #[.slice A0 l0.length c0] rfl (by (try simp only [List.map_toArray,List.map_cons,List.map_nil]);first | done | rfl | (simp only [List.length_drop,List.length_take];rfl)) ?_;(with_reducible refine (tree_Leaves.calls _ _ l0 t571 _ ?side1 ?side2 A2.out).mono ?_);(case side1=>exact C_mv (HR0.out));(case side2=>exact HC0.out);rintro e w' ⟨rfl,⟨nd,rfl⟩⟩;refine ⟨_,rfl,?_⟩))
 go_loopg [3,7] k (fun kq v3 v7 w'=>∃ (x3_1 : List Int) (x7_1 : Int),v7 = .int .i64 x7_1∧Az (tree_Members.l0 kq l0 x3_1 t571 x7_1 = some r)∧Az (kq≤k)∧Az (Kd.R (Kd.int .i64) 3 w' w.heap.size (fun _=>True) v3 x3_1)∧Az (Below w.heap.size w w'))
 case atStart=>exact ⟨(([] : List Int)),(0),(by first | rfl | (simp;done) | (simp [*];done)),H',⟨Nat.le_refl _⟩,⟨by first | exact Kd.R_nil _ _ _ _ _ | exact Kd.N_nil _ _ _ _ _ | exact Kd.V_nil _ _ _ _ _ | exact Kd.Q_nil _ _ _ _ _ | exact Kd.S_nil _ _ _ _ _⟩,⟨bmv HB.out⟩⟩
 case round=>
  clear H'
  obtain ⟨x3_1,x7_1,rfl,HA,HK1,HO_3,HB⟩:=hrel
  cases gk with
  | zero=>exact absurd HA.out (by simp [tree_Members.l0])
  | succ k1=>
   have H:=HA.out
   clear HA
   simp only [tree_Members.l0] at H
   by_cases c3 : x7_1 < t571
   · rw [if_pos c3] at H
     have c3b0 : decide (x7_1 < t571) = true:=decide_eq_true c3
     clear c3
     obtain ⟨ji4,hji4⟩ : ∃ j_ : Int,(wrap64 (2 * x7_1)) = j_:=⟨_,rfl⟩
     replace H : (if 0≤(ji4) then (if (ji4) < (l0.length : Int) then (if (rd_T29 l0 (ji4)).f0 = true then (if x3_1.length < 17592186044416 then (tree_Members.l0 k1 l0 (x3_1 ++ [x7_1]) t571 (wrap64 (x7_1 + 1))) else (none)) else (tree_Members.l0 k1 l0 x3_1 t571 (wrap64 (x7_1 + 1)))) else (none)) else (none)) = some r:=by first | (rw [hji4] at H;exact H) | (simp only [hji4] at H ⊢;exact H)
     have hji4w : (IntKind.i64.wrap (2 * x7_1)) = ji4:=(i64_w _).trans hji4
     by_cases c5 : 0≤(ji4)
     · rw [if_pos c5] at H
       have c5b0 : decide (0≤(ji4)) = true:=decide_eq_true c5
       clear c5
       by_cases c6 : (ji4) < (l0.length : Int)
       · rw [if_pos c6] at H
         have c6b0 : decide ((ji4) < (l0.length : Int)) = true:=decide_eq_true c6
         clear c6
         obtain ⟨bq7,hbq7⟩ : ∃ b_ : Bool,b_ = ((rd_T29 l0 (ji4)).f0):=⟨_,rfl⟩
         replace H : (if bq7 = true then (if x3_1.length < 17592186044416 then (tree_Members.l0 k1 l0 (x3_1 ++ [x7_1]) t571 (wrap64 (x7_1 + 1))) else (none)) else (tree_Members.l0 k1 l0 x3_1 t571 (wrap64 (x7_1 + 1)))) = some r:=by rw [← hbq7] at H;exact H
         have Nbq7:=Az.mk hbq7
         clear hbq7
         by_cases c8 : bq7 = true
         · subst c8
           have H1 : (if x3_1.length < 17592186044416 then (tree_Members.l0 k1 l0 (x3_1 ++ [x7_1]) t571 (wrap64 (x7_1 + 1))) else (none)) = some r:=by rw [if_pos rfl] at H;exact H
           clear H
           have H:=H1
           clear H1
           by_cases c9 : x3_1.length < 17592186044416
           · rw [if_pos c9] at H
             have LMc9:=Az.mk c9
             clear c9
             obtain ⟨y573,hy573⟩ : ∃ y_ : List Int,y_ = (x3_1 ++ [x7_1]):=⟨_,rfl⟩
             replace H : (tree_Members.l0 k1 l0 y573 t571 (wrap64 (x7_1 + 1))) = some r:=by first | (rw [hy573];with_reducible exact H) | (have H2_:=(Option.bind_some _ _).symm.trans H;rw [hy573];with_reducible exact H2_) | (have H2_:=(Option.bind_some _ _).symm.trans H;with_reducible exact H2_) | with_reducible exact H | (rw [hy573];exact H) | exact H
             have Ny573:=Az.mk hy573
             clear hy573
             have H':=Az.mk H
             clear H
             have p572 : 0≤((ji4) : Int):=of_decide_eq_true (by first | (with_reducible assumption) | assumption)
             have q572 : (ji4) < (l0.length : Int):=of_decide_eq_true (by first | (with_reducible assumption) | assumption)
             obtain ⟨ad572,A572_5,c572_5,e572,hx572_0,hx572_1,hx572_2,hx572_3,hx572_4,hx572_5,hl572_5,hi572_5⟩:=at_T29 HR0.out (ji4) p572 q572
             (try rw [← Nbq7.out] at hx572_0)
             cases e572
             replace hx572_0:=(HB.out.cell (World.block_lt_of_cell? w _ hx572_0)).trans hx572_0
             replace hx572_1:=(HB.out.cell (World.block_lt_of_cell? w _ hx572_1)).trans hx572_1
             replace hx572_2:=(HB.out.cell (World.block_lt_of_cell? w _ hx572_2)).trans hx572_2
             replace hx572_3:=(HB.out.cell (World.block_lt_of_cell? w _ hx572_3)).trans hx572_3
             replace hx572_4:=(HB.out.cell (World.block_lt_of_cell? w _ hx572_4)).trans hx572_4
             replace hx572_5:=(HB.out.cell (World.block_lt_of_cell? w _ hx572_5)).trans hx572_5
             have HR572_5:=Az.mk hi572_5
             have HC572_5:=Az.mk hl572_5
             clear hi572_5 hl572_5
             replace p572:=eq_true p572
             replace q572:=eq_true q572
             go_wp2_with (first | ((with_reducible refine gate_builtin (b:=.append) (xs:=#[.tmp 16,.tmp 18]) rfl ?_);at_builtin;refine Kd.R_append (Kd.int .i64) (w0:=w) w.heap.size rfl (.tmp 16) (.tmp 18) 27 3 (.int .i64 0) 8 rfl Tryd.underlying27 info3 rfl (by decide) (by omega) u3 x3_1 x7_1 [.int .i64 x7_1] (fun _=>True) (fun _=>False) rfl rfl ?aP (fun _ hk=>hk.elim) ?aF ?aO ?aB ?aS ?aL ?_;(case aP=>exact rfl);(case aB=>exact (bmv HB.out));(case aF=>exact (fun _ _=>trivial));(case aO=>exact (R_mv HO_3.out));(case aS=>exact (bwZ (bmv HB.out)));(case aL=>have:=LMc9.out;omega);intro v574 w10 ho hb hg hat;rw [← Ny573.out] at ho;have n0_:=Az.mk (hb);have n1_:=Az.mk (ho);clear HB;clear HO_3;have HB:=n0_;have HO575:=n1_;clear n0_ n1_;clear ho hb hg hat))
             go_roundg k1
             case measure=>have:=HK1.out;omega
             case rel=>exact ⟨(y573),(wrap64 (x7_1 + 1)),(by first | rfl | (simp;done) | (simp [*];done)),H',⟨by have:=HK1.out;omega⟩,⟨R_mv HO575.out⟩,⟨bmv HB.out⟩⟩
           · rw [if_neg c9] at H
             exact absurd H (by simp)
         · replace c8:=Bool.eq_false_iff.mpr c8
           subst c8
           have H1 : (tree_Members.l0 k1 l0 x3_1 t571 (wrap64 (x7_1 + 1))) = some r:=by rw [if_neg (show ¬ (false = true) by decide)] at H;exact H
           clear H
           have H:=H1
           clear H1
           have H':=Az.mk H
           clear H
           have p572 : 0≤((ji4) : Int):=of_decide_eq_true (by first | (with_reducible assumption) | assumption)
           have q572 : (ji4) < (l0.length : Int):=of_decide_eq_true (by first | (with_reducible assumption) | assumption)
           obtain ⟨ad572,A572_5,c572_5,e572,hx572_0,hx572_1,hx572_2,hx572_3,hx572_4,hx572_5,hl572_5,hi572_5⟩:=at_T29 HR0.out (ji4) p572 q572
           (try rw [← Nbq7.out] at hx572_0)
           cases e572
           replace hx572_0:=(HB.out.cell (World.block_lt_of_cell? w _ hx572_0)).trans hx572_0
           replace hx572_1:=(HB.out.cell (World.block_lt_of_cell? w _ hx572_1)).trans hx572_1
           replace hx572_2:=(HB.out.cell (World.block_lt_of_cell? w _ hx572_2)).trans hx572_2
           replace hx572_3:=(HB.out.cell (World.block_lt_of_cell? w _ hx572_3)).trans hx572_3
           replace hx572_4:=(HB.out.cell (World.block_lt_of_cell? w _ hx572_4)).trans hx572_4
           replace hx572_5:=(HB.out.cell (World.block_lt_of_cell? w _ hx572_5)).trans hx572_5
           have HR572_5:=Az.mk hi572_5
           have HC572_5:=Az.mk hl572_5
           clear hi572_5 hl572_5
           replace p572:=eq_true p572
           replace q572:=eq_true q572
           go_wp2
           go_roundg k1
           case measure=>have:=HK1.out;omega
           case rel=>exact ⟨(x3_1),(wrap64 (x7_1 + 1)),(by first | rfl | (simp;done) | (simp [*];done)),H',⟨by have:=HK1.out;omega⟩,⟨R_mv HO_3.out⟩,⟨bmv HB.out⟩⟩
       · rw [if_neg c6] at H
         exact absurd H (by simp)
     · rw [if_neg c5] at H
       exact absurd H (by simp)
   · rw [if_neg c3] at H
     have c3b0 : decide (x7_1 < t571) = false:=decide_eq_false c3
     clear c3
     obtain rfl:=Option.some.inj H
     go_wp2
     go_ret
     exact ⟨_,by first | rfl | (simp [errW_none,errW_some] <;> rfl) | (simp [*,errW_none,errW_some] <;> rfl),R_mv HO_3.out,bmv HB.out⟩
end Go.Proofs.YtbblomnhobodkaaDoor.PTw
