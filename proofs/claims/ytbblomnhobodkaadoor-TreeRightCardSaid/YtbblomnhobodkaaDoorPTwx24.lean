/- What this claim reaches of longer texts of this session. -/
import Derived.Test.YtbblomnhobodkaaDoorPTwx0
import Derived.Test.YtbblomnhobodkaaDoorPTwx1
import Derived.Test.YtbblomnhobodkaaDoorPTwx8
import Derived.Test.YtbblomnhobodkaaDoorPTwx13
import Derived.Test.YtbblomnhobodkaaDoorPTwx16
import Derived.Test.YtbblomnhobodkaaDoorPTwx17
import Derived.Shelf.Spec.TrailingZeros
import Derived.Lib.ItoaNum
import Derived.Lib.LaidTab
import Derived.Laws.Bits64
import Derived.Lib.Hide
import Derived.RangeFuncBox
import Derived.Maps.AppendAt
import Derived.Lib.SliceRun
import Derived.Shelf.Spec.SlicesInsert
import Derived.Shelf.Spec.SlicesInsertGrow
import Derived.Deep.DeepCutAuto
import Derived.Test.YtbblomnhobodkaaDoorPTwx14
namespace Go.Proofs.YtbblomnhobodkaaDoor.PTw
open Go.RowKit Go.Proofs.YtbblomnhobodkaaDoorW.PW Go.Proofs.YtbblomnhobodkaaDoorW.PL Go.Proofs.YtbblomnhobodkaaDoorW.PM
attribute [local go_sem] max2_int min2_int max_two min_two max_three min_three max_four min_four   -- for this text's walks alone
set_option linter.unusedVariables false
set_option linter.unusedSimpArgs false
def r4Update.f (k : Nat) (l0 : List (S29)) (a1 : Int) (a2_0 : Bool) (a2_1 : Int) (a2_2 : Int) (a2_3 : Int) (a2_4 : Int) (l2_5 : List Int) : Option ((List (S29)) × Int):=(r4Full.f l0 a1).bind fun t456=>(if t456 = true then ((r4above.f k l0 a1).bind fun t457=>((r4Leaf.f a2_0 a2_1 a2_2 a2_3 a2_4 l2_5).bind fun bt460=>(if 0≤(wrap64 (2 * a1)) then (if (wrap64 (2 * a1)) < (t457.length : Int) then (some ((t457.set ((wrap64 (2 * a1)) : Int).toNat (⟨bt460.1,bt460.2.1,bt460.2.2.1,bt460.2.2.2.1,bt460.2.2.2.2.1,bt460.2.2.2.2.2⟩ : S29)),0)) else (none)) else (none)))) else (some (([] : List (S29)),40)))
theorem r4Update.mono : ∀ a0 a1 a2 a3 a4 a5 a6 a7 k,LeO (r4Update.f k a0 a1 a2 a3 a4 a5 a6 a7) (r4Update.f (k + 1) a0 a1 a2 a3 a4 a5 a6 a7):=by
 intro a0 a1 a2 a3 a4 a5 a6 a7 k;unfold r4Update.f
 repeat' first
  | (with_reducible exact r4above.mono _ _ _)
  | (with_reducible exact LeO.refl _)
  | (with_reducible exact LeO.none _)
  | (with_reducible refine LeO.ite ?_ ?_)
  | (with_reducible refine LeO.bind ?_ (fun _=>?_))
  | exact r4above.mono _ _ _
  | exact LeO.none _
  | refine LeO.ite ?_ ?_
  | refine LeO.bind ?_ (fun _=>?_)
set_option maxHeartbeats 8000000 in
set_option maxRecDepth 100000 in
theorem r4Update.calls (k : Nat) (A0 : Option Addr) (c0 : Nat) (l0 : List (S29)) (a1 : Int) (a2_0 : Bool) (a2_1 : Int) (a2_2 : Int) (a2_3 : Int) (a2_4 : Int) (A2_5 : Option Addr) (c2_5 : Nat) (l2_5 : List Int) (r1 : List (S29)) (r2 : Int) (w : World) (hr0 : Kd.C k29 w A0 l0.length l0) (hc0 : l0.length≤c0) (hr2_5 : Kd.C (Kd.int .i64) w A2_5 l2_5.length l2_5) (hc2_5 : l2_5.length≤c2_5) (h : r4Update.f k l0 a1 a2_0 a2_1 a2_2 a2_3 a2_4 l2_5 = some (r1,r2)) :
 Calls Tryd.prog 47 #[.slice A0 l0.length c0,.int .i64 a1,.agg #[.bool a2_0,.int .i64 a2_1,.int .i64 a2_2,.int .i64 a2_3,.int .i64 a2_4,.slice A2_5 l2_5.length c2_5]] w fun e w'=>∃ v0_ : Value,e = .returned (.tuple #[v0_,.int .i64 r2])∧Kd.S k29 29 w' w.heap.size (fun _=>True) v0_ r1∧Below w.heap.size w w':=by
 have hu29:=Tryd.underlying29;have HR0:=Az.mk hr0;have HC0:=Az.mk hc0;clear hr0 hc0;have HR2_5:=Az.mk hr2_5;have HC2_5:=Az.mk hc2_5;clear hr2_5 hc2_5;have HB:=Az.mk (Below.refl w.heap.size w);have H : ((r4Full.f l0 a1).bind fun t456=>(if t456 = true then ((r4above.f k l0 a1).bind fun t457=>((r4Leaf.f a2_0 a2_1 a2_2 a2_3 a2_4 l2_5).bind fun bt460=>(if 0≤(wrap64 (2 * a1)) then (if (wrap64 (2 * a1)) < (t457.length : Int) then (some ((t457.set ((wrap64 (2 * a1)) : Int).toNat (⟨bt460.1,bt460.2.1,bt460.2.2.1,bt460.2.2.2.1,bt460.2.2.2.2.1,bt460.2.2.2.2.2⟩ : S29)),0)) else (none)) else (none)))) else (some (([] : List (S29)),40)))) = some (r1,r2):=h;clear h;replace H:=Option.bind_eq_some_iff.mp H;obtain ⟨t456,A40,H⟩:=H;(try dsimp only at H);have A4:=Az.mk A40;clear A40
 by_cases c5 : t456 = true
 · subst c5
   rw [if_pos rfl] at H;replace H:=Option.bind_eq_some_iff.mp H;obtain ⟨t457,A60,H⟩:=H;(try dsimp only at H);have A6:=Az.mk A60;clear A60;replace H:=Option.bind_eq_some_iff.mp H;obtain ⟨⟨t460,t461,t462,t463,t464,t465⟩,A70,H⟩:=H;(try dsimp only at H);have A7:=Az.mk A70;clear A70
   obtain ⟨ji8,hji8⟩ : ∃ j_ : Int,(wrap64 (2 * a1)) = j_:=⟨_,rfl⟩
   replace H : (if 0≤(ji8) then (if (ji8) < (t457.length : Int) then (some ((t457.set ((ji8) : Int).toNat (⟨t460,t461,t462,t463,t464,t465⟩ : S29)),0)) else (none)) else (none)) = some (r1,r2):=by first | (rw [hji8] at H;exact H) | (simp only [hji8] at H ⊢;exact H)
   (try rw [hji8] at A4)
   (try rw [hji8] at A6)
   (try rw [hji8] at A7)
   have hji8w : (IntKind.i64.wrap (2 * a1)) = ji8:=(i64_w _).trans hji8
   by_cases c9 : 0≤(ji8)
   · rw [if_pos c9] at H
     have c9b0 : decide (0≤(ji8)) = true:=decide_eq_true c9;clear c9
     by_cases c10 : (ji8) < (t457.length : Int)
     · rw [if_pos c10] at H
       have c10b0 : decide ((ji8) < (t457.length : Int)) = true:=decide_eq_true c10;clear c10
       obtain ⟨y468,hy468⟩ : ∃ y_ : List (S29),y_ = (t457.set ((ji8) : Int).toNat (⟨t460,t461,t462,t463,t464,t465⟩ : S29)):=⟨_,rfl⟩
       replace H : (some (y468,0)) = some (r1,r2):=by first | (rw [hy468];with_reducible exact H) | (have H2_:=(Option.bind_some _ _).symm.trans H;rw [hy468];with_reducible exact H2_) | (have H2_:=(Option.bind_some _ _).symm.trans H;with_reducible exact H2_) | with_reducible exact H | (rw [hy468];exact H) | exact H
       have Ny468:=Az.mk hy468;clear hy468;simp only [Option.some.injEq,Prod.mk.injEq] at H;obtain ⟨rfl,rfl⟩:=H
       go_enter Tryd.func47,Tryd.ntmps47
       go_wp2_with (first | ((with_reducible refine gate_dst (N:=5) rfl ?_);refine box_event ?hg (N:=5) ?hd (cs:=#[.bool a2_0,.int .i64 a2_1,.int .i64 a2_2,.int .i64 a2_3,.int .i64 a2_4,.slice A2_5 l2_5.length c2_5]) (t:=29) ?hr ?_;(case hd=>rfl);(case hg=>rfl);(case hr=>exact gr_);intro gb455 hg w12 hbox hb;have BK455:=Az.mk (hbox);have GW455:=Az.mk ((by rw [hg];exact (bwZ (bmv HB.out)) : w.heap.size≤gb455));have GE455:=Az.mk ((by rw [hg];exact (bwZ (bmv HB.out)) : w.heap.size≤gb455));replace HB:=Az.mk (bwT (bmv HB.out) hb);clear hb hbox hg) | ((with_reducible refine gate_callee (f:=22) rfl ?_);refine goesL_ (some 11) rfl rfl Tryd.func22 (by kernel_rfl) rfl #[.slice A0 l0.length c0,.int .i64 a1] rfl tl_ ?_;(with_reducible refine (r4Full.calls _ _ l0 a1 true _ ?side1 ?side2 A4.out).mono ?_);(case side1=>exact C_mv ((Kd.C_below HR0.out HB.out)));(case side2=>exact HC0.out);rintro e w' ⟨rfl,⟨nd,rfl⟩⟩;refine ⟨_,rfl,?_⟩;(try (rw [drewN_self w12];generalize hq_ : World.drewN w12 _ = w12;have n0_ : Az (w12.heap[gb455]? = some (.cells #[.bool a2_0,.int .i64 a2_1,.int .i64 a2_2,.int .i64 a2_3,.int .i64 a2_4,.slice A2_5 l2_5.length c2_5] 29 (0,0))):=⟨by rw [← hq_];exact (blk_mv BK455.out)⟩;have n1_ : Az (Below w.heap.size w w12):=⟨by rw [← hq_];exact (by repeat (with_reducible first | exact bmv HB.out | refine bwS ?_ GE455.out))⟩;clear BK455 HB hq_;have BK455:=n0_;have HB:=n1_;clear n0_ n1_))) | ((with_reducible refine gate_callee (f:=67) rfl ?_);refine goesL_ (some 15) rfl rfl Tryd.func67 (by kernel_rfl) rfl #[.slice A0 l0.length c0,.int .i64 a1] rfl tl_ ?_;(with_reducible refine (r4above.calls k _ _ l0 a1 t457 _ ?side1 ?side2 A6.out).mono ?_);(case side1=>exact C_mv ((Kd.C_below HR0.out HB.out)));(case side2=>exact HC0.out);rintro e w13 ⟨v458,rfl,ho0,hb⟩;refine ⟨_,rfl,?_⟩;have HO459:=Az.mk (Kd.S_lower (Kd.S_newB ho0 (g:=gb455) (o:=.cells #[.bool a2_0,.int .i64 a2_1,.int .i64 a2_2,.int .i64 a2_3,.int .i64 a2_4,.slice A2_5 l2_5.length c2_5] 29 (0,0)) (blk_mv BK455.out)) (bwZ (by repeat (with_reducible first | exact bmv HB.out | refine bwS ?_ GE455.out))));replace BK455:=Az.mk (kB (blk_mv BK455.out) hb);replace HB:=Az.mk (bwT (by repeat (with_reducible first | exact bmv HB.out | refine bwS ?_ GE455.out)) hb);(try clear hb);(try clear hb2);(try clear hk);(try clear hi);(try clear ho0);obtain ⟨⟨hcz14_0,hcz14_1,hcz14_2,hcz14_3,hcz14_4,hcz14_5⟩,hfz14_0,hfz14_1,hfz14_2,hfz14_3,hfz14_4,hfz14_5⟩:=cells6 BK455.out) | ((with_reducible refine gate_callee (f:=35) rfl ?_);refine goesL_ (some 20) rfl rfl Tryd.func35 (by kernel_rfl) rfl #[.agg #[.bool a2_0,.int .i64 a2_1,.int .i64 a2_2,.int .i64 a2_3,.int .i64 a2_4,.slice A2_5 l2_5.length c2_5]] rfl tl_ ?_;(with_reducible refine (r4Leaf.calls a2_0 a2_1 a2_2 a2_3 a2_4 _ _ l2_5 t460 t461 t462 t463 t464 t465 _ ?side1 ?side2 A7.out).mono ?_);(case side1=>exact C_mv ((Kd.C_below HR2_5.out HB.out)));(case side2=>exact HC2_5.out);rintro e w15 ⟨v466,rfl,ho0,hb⟩;refine ⟨_,rfl,?_⟩;obtain ⟨Av_,cv_,hv_⟩:=Kd.R_slice ho0;have HV466:=Az.mk hv_;clear hv_;have HO467:=Az.mk (Kd.R_lower ho0 (bwZ (by repeat (with_reducible first | exact bmv HB.out | refine bwS ?_ GE455.out))));replace HO459:=Az.mk (Kd.S_elder' (S_mv HO459.out) (Kd.R_base ho0) hb);replace BK455:=Az.mk (kB (blk_mv BK455.out) hb);replace HB:=Az.mk (bwT (by repeat (with_reducible first | exact bmv HB.out | refine bwS ?_ GE455.out)) hb);(try clear hb);(try clear hb2);(try clear hk);(try clear hi);(try clear ho0);have p11 : 0≤((ji8) : Int):=dt_;have q11 : ((ji8) : Int) < ((t457.length : Int) : Int):=dt_;obtain ⟨go11,co11,eo11,gb11,gl11,cl11,HG11⟩:=Kd.S_form HO459.out (by omega);(first | cases eo11 | (injection eo11 with ea_ en_ ec_;(first | subst ea_ | (injection ea_ with ea_;subst ea_));subst ec_;clear en_));have GB11:=Az.mk gb11;have GG11:=Az.mk HG11;clear gb11 gl11 HG11;obtain ⟨_,ce11,hcl11,hM11,hcc11,hfr11,_,_⟩:=Kd.S_elem HO459.out z29 ((ji8) : Int) p11 q11;obtain ⟨ve11_5,rfl,ge11_5⟩:=k29_openM hM11;have hx11_0 : w15.cell? ⟨go11,((ji8) : Int).toNat * 6,none⟩ = some (.bool ((rd_T29 t457 (ji8)).f0)):=hcc11 0 _ rfl;have hx11_1 : w15.cell? ⟨go11,((ji8) : Int).toNat * 6 + 1,none⟩ = some (.int .i64 ((rd_T29 t457 (ji8)).f1)):=hcc11 1 _ rfl;have hx11_2 : w15.cell? ⟨go11,((ji8) : Int).toNat * 6 + 2,none⟩ = some (.int .i64 ((rd_T29 t457 (ji8)).f2)):=hcc11 2 _ rfl;have hx11_3 : w15.cell? ⟨go11,((ji8) : Int).toNat * 6 + 3,none⟩ = some (.int .i64 ((rd_T29 t457 (ji8)).f3)):=hcc11 3 _ rfl;have hx11_4 : w15.cell? ⟨go11,((ji8) : Int).toNat * 6 + 4,none⟩ = some (.int .i64 ((rd_T29 t457 (ji8)).f4)):=hcc11 4 _ rfl;have hx11_5 : w15.cell? ⟨go11,((ji8) : Int).toNat * 6 + 5,none⟩ = some (ve11_5):=hcc11 5 _ rfl;have hf11_0 : w15.frozen? ⟨go11,((ji8) : Int).toNat * 6,none⟩ = false:=hfr11 0;have hf11_1 : w15.frozen? ⟨go11,((ji8) : Int).toNat * 6 + 1,none⟩ = false:=hfr11 1;have hf11_2 : w15.frozen? ⟨go11,((ji8) : Int).toNat * 6 + 2,none⟩ = false:=hfr11 2;have hf11_3 : w15.frozen? ⟨go11,((ji8) : Int).toNat * 6 + 3,none⟩ = false:=hfr11 3;have hf11_4 : w15.frozen? ⟨go11,((ji8) : Int).toNat * 6 + 4,none⟩ = false:=hfr11 4;have hf11_5 : w15.frozen? ⟨go11,((ji8) : Int).toNat * 6 + 5,none⟩ = false:=hfr11 5;clear hcl11 hcc11 hfr11 hM11;replace p11:=eq_true p11;replace q11:=eq_true q11;have n_:=Az.mk (Kd.S_mono (ok':=(fun k_=>some k_≠(v466 : Value).ownBlock∧k_≠gb455)) HO459.out (fun k_ hk=>⟨hk.2,hk.1.2⟩));clear HO459;have HO459:=n_;clear n_;have HX16:=Az.mk (show Kd.S k29 29 w15 w.heap.size (fun k_=>((fun k_=>k_≠gb455)) k_∧¬ ((fun k_=>some k_ = (v466 : Value).ownBlock)) k_) (.slice (some ⟨go11,0,none⟩) t457.length co11) t457 from (S_mv (Kd.S_mono HO459.out (fun k_ hk=>⟨hk.2,fun e_=>hk.1 e_⟩))));obtain ⟨oki16,ce16,hcl16,hM16,hcc16,hfr16,hoki16,hH16⟩:=Kd.S_elem HX16.out z29 ((ji8) : Int) (dt_) (by have h_ : ((ji8) : Int) < ((t457.length : Int) : Int):=dt_;first | exact h_ | (have e_:=(Kd.S_reads' HO459.out).1;omega) | simpa using h_);obtain ⟨ve16_5,rfl,ge16_5⟩:=k29_openM hM16;have HP16:=Kd.S_seg hH16 (dt_) (by have h_ : ((ji8) : Int) < ((t457.length : Int) : Int):=dt_;first | exact h_ | (have e_:=(Kd.S_reads' HO459.out).1;omega) | simpa using h_) (seg:=[.bool t460,.int .i64 t461,.int .i64 t462,.int .i64 t463,.int .i64 t464,v466]) (j:=0) (show 6≤6 from by decide) (x':=(⟨t460,t461,t462,t463,t464,t465⟩ : S29)) (k29_mkM _ _ _ (⟨t460,t461,t462,t463,t464,t465⟩ : S29) (Kd.R_mono (Kd.R_tight rfl (Kd.R_mono (ok':=fun k_=>((fun k_=>k_≠gb455)) k_∧k_≠go11) (Kd.R_types (Kd.R_apart' (HO467.out) (Kd.S_typed HO459.out) (by decide)) BK455.out (by decide)) (fun k_ hk=>⟨hk.2,fun e_=>(hk.1.2) (by rw [e_];rfl)⟩))) (fun _ h_=>Or.inr (h_)))) (fun _ hk=>hk) (fun k_ hk_=>((Kd.R_mono (ok':=fun k_=>((fun k_=>k_≠gb455)) k_∧k_≠go11) (Kd.R_types (Kd.R_apart' (HO467.out) (Kd.S_typed HO459.out) (by decide)) BK455.out (by decide)) (fun k_ hk=>⟨hk.2,fun e_=>(hk.1.2) (by rw [e_];rfl)⟩))).1 k_ hk_.symm);have hx16_0:=hcc16 0 _ rfl;(try simp only [show (k29).sz = 6 from rfl,Nat.mul_one,Nat.add_zero] at hx16_0);have hf16_0:=hfr16 0;(try simp only [show (k29).sz = 6 from rfl,Nat.mul_one,Nat.add_zero] at hf16_0);have hx16_1:=hcc16 1 _ rfl;(try simp only [show (k29).sz = 6 from rfl,Nat.mul_one,Nat.add_zero] at hx16_1);have hf16_1:=hfr16 1;(try simp only [show (k29).sz = 6 from rfl,Nat.mul_one,Nat.add_zero] at hf16_1);have hx16_2:=hcc16 2 _ rfl;(try simp only [show (k29).sz = 6 from rfl,Nat.mul_one,Nat.add_zero] at hx16_2);have hf16_2:=hfr16 2;(try simp only [show (k29).sz = 6 from rfl,Nat.mul_one,Nat.add_zero] at hf16_2);have hx16_3:=hcc16 3 _ rfl;(try simp only [show (k29).sz = 6 from rfl,Nat.mul_one,Nat.add_zero] at hx16_3);have hf16_3:=hfr16 3;(try simp only [show (k29).sz = 6 from rfl,Nat.mul_one,Nat.add_zero] at hf16_3);have hx16_4:=hcc16 4 _ rfl;(try simp only [show (k29).sz = 6 from rfl,Nat.mul_one,Nat.add_zero] at hx16_4);have hf16_4:=hfr16 4;(try simp only [show (k29).sz = 6 from rfl,Nat.mul_one,Nat.add_zero] at hf16_4);have hx16_5:=hcc16 5 _ rfl;(try simp only [show (k29).sz = 6 from rfl,Nat.mul_one,Nat.add_zero] at hx16_5);have hf16_5:=hfr16 5;(try simp only [show (k29).sz = 6 from rfl,Nat.mul_one,Nat.add_zero] at hf16_5);clear hcl16 hcc16 hfr16 hM16 hoki16 hH16) | ((with_reducible refine gate_store (t:=29) (p:=21) rfl ?_);refine store_event (t:=29) (p:=21) (v:=?vo_w17) (w1:=((((((w15.setCell ⟨go11,((ji8) : Int).toNat * 6,none⟩ (.bool t460)).setCell ⟨go11,((ji8) : Int).toNat * 6 + 1,none⟩ (.int .i64 t461)).setCell ⟨go11,((ji8) : Int).toNat * 6 + 2,none⟩ (.int .i64 t462)).setCell ⟨go11,((ji8) : Int).toNat * 6 + 3,none⟩ (.int .i64 t463)).setCell ⟨go11,((ji8) : Int).toNat * 6 + 4,none⟩ (.int .i64 t464)).setCell ⟨go11,((ji8) : Int).toNat * 6 + 5,none⟩ (v466))) ?hg ?ho ?hn ?hr ?_;(case ho=>rfl);(case hg=>rfl);(case hn=>rfl);(case hr=>first | (go_simp;done) | (go_simp;rfl) | (rw [HV466.out];go_simp;done) | (rw [HV466.out];go_simp;rfl));intro w17 hw;have hg : w15.grownBy w17 (some go11):=(by rw [hw];exact HP16.2);have hp_ : Kd.S k29 29 w17 w.heap.size (fun k_=>k_≠gb455) (.slice (some ⟨go11,0,none⟩) t457.length co11) y468:=(by rw [hw,Ny468.out];exact HP16.1);clear HP16;replace BK455:=Az.mk (blk_grown (g:=gb455) (o:=.cells #[.bool a2_0,.int .i64 a2_1,.int .i64 a2_2,.int .i64 a2_3,.int .i64 a2_4,.slice A2_5 l2_5.length c2_5] 29 (0,0)) (blk_mv BK455.out) hg (Kd.S_away HO459.out (fun _ hk=>hk.2)));replace HO459:=Az.mk (hp_);replace HB:=Az.mk ((by rw [hw];exact bwS (bwS (bwS (bwS (bwS (bwS (HB.out) GB11.out) GB11.out) GB11.out) GB11.out) GB11.out) GB11.out : Below w.heap.size w w17));clear HO467;clear hg hw hp_))
       go_ret2
       exact ⟨_,by first | rfl | (simp [errW_none,errW_some] <;> rfl) | (simp only [← hji8];first | rfl | (simp [errW_none,errW_some] <;> rfl)) | (simp [*,errW_none,errW_some] <;> rfl),S_mv (Kd.S_mono HO459.out (fun _ hk=>trivial)),by repeat (with_reducible first | exact bmv HB.out | refine bwS ?_ GE455.out)⟩
     · rw [if_neg c10] at H
       exact absurd H (by simp)
   · rw [if_neg c9] at H
     exact absurd H (by simp)
 · replace c5:=Bool.eq_false_iff.mpr c5
   subst c5;rw [if_neg (show ¬ (false = true) by decide)] at H;simp only [Option.some.injEq,Prod.mk.injEq] at H;obtain ⟨rfl,rfl⟩:=H
   go_enter Tryd.func47,Tryd.ntmps47
   go_wp2_with (first | ((with_reducible refine gate_dst (N:=5) rfl ?_);refine box_event ?hg (N:=5) ?hd (cs:=#[.bool a2_0,.int .i64 a2_1,.int .i64 a2_2,.int .i64 a2_3,.int .i64 a2_4,.slice A2_5 l2_5.length c2_5]) (t:=29) ?hr ?_;(case hd=>rfl);(case hg=>rfl);(case hr=>exact gr_);intro gb455 hg w18 hbox hb;have BK455:=Az.mk (hbox);have GW455:=Az.mk ((by rw [hg];exact (bwZ (bmv HB.out)) : w.heap.size≤gb455));have GE455:=Az.mk ((by rw [hg];exact (bwZ (bmv HB.out)) : w.heap.size≤gb455));replace HB:=Az.mk (bwT (bmv HB.out) hb);clear hb hbox hg) | ((with_reducible refine gate_callee (f:=22) rfl ?_);refine goesL_ (some 11) rfl rfl Tryd.func22 (by kernel_rfl) rfl #[.slice A0 l0.length c0,.int .i64 a1] rfl tl_ ?_;(with_reducible refine (r4Full.calls _ _ l0 a1 false _ ?side1 ?side2 A4.out).mono ?_);(case side1=>exact C_mv ((Kd.C_below HR0.out HB.out)));(case side2=>exact HC0.out);rintro e w' ⟨rfl,⟨nd,rfl⟩⟩;refine ⟨_,rfl,?_⟩))
   go_ret2
   exact ⟨_,by first | rfl | (simp [errW_none,errW_some] <;> rfl) | (simp [*,errW_none,errW_some] <;> rfl),by first | exact Kd.S_nil _ _ _ _ _ | exact Kd.N_nil _ _ _ _ _ | exact Kd.V_nil _ _ _ _ _ | exact Kd.Q_nil _ _ _ _ _ | exact Kd.R_nil _ _ _ _ _,by repeat (with_reducible first | exact bmv HB.out | refine bwS ?_ GE455.out)⟩
mutual
def r4Remove.j0 : Nat→List (S29)→Int→Bool→Option ((List (S29)) × Int)
 | 0,_,_,_=>none
 | k + 1,x0,x1,x16=>if x16 = true then (some (([] : List (S29)),40)) else ((r4above.f k x0 x1).bind fun t478=>(if 0≤(wrap64 (2 * x1)) then (if (wrap64 (2 * x1)) < (t478.length : Int) then (r4Remove.l0 k (t478.set ((wrap64 (2 * x1)) : Int).toNat (⟨false,0,0,0,0,([] : List Int)⟩ : S29))) else (none)) else (none)))
def r4Remove.l0 : Nat→List (S29)→Option ((List (S29)) × Int)
 | 0,_=>none
 | k + 1,x6=>if (x6.length : Int) > 1 then ((r4Tight.f k x6).bind fun t482=>(if t482 = true then (some (x6,0)) else ((r4Leaves.f x6).bind fun t483=>(if 0≤(wrap64 (t483 - 1)) then (if (wrap64 (t483 - 1))≤(x6.length : Int) then (r4Remove.l0 k (x6.take ((wrap64 (t483 - 1)) : Int).toNat)) else (none)) else (none))))) else (some (x6,0))
end
def r4Remove.f (k : Nat) (l0 : List (S29)) (a1 : Int) : Option ((List (S29)) × Int):=(r4Full.f l0 a1).bind fun t474=>(if t474 = true then ((r4Members.f k l0).bind fun t475=>(r4Remove.j0 k l0 a1 (decide ((t475.length : Int) < 2)))) else (r4Remove.j0 k l0 a1 true))
theorem r4Remove.mono_l : ∀ k,(∀ y0 y1 y2,LeO (r4Remove.j0 k y0 y1 y2) (r4Remove.j0 (k + 1) y0 y1 y2))∧(∀ y0,LeO (r4Remove.l0 k y0) (r4Remove.l0 (k + 1) y0))
 | 0=>⟨fun _ _ _ r h=>by simp [r4Remove.j0] at h,fun _ r h=>by simp [r4Remove.l0] at h⟩
 | k + 1=>by
  obtain ⟨ih0,ih1⟩:=r4Remove.mono_l k;refine ⟨?_,?_⟩;intro y0 y1 y2;unfold r4Remove.j0;rotate_left;intro y0;unfold r4Remove.l0;rotate_left
  repeat' first
   | (with_reducible exact ih0 _ _ _)
   | (with_reducible exact ih1 _)
   | (with_reducible exact r4Members.mono _ _)
   | (with_reducible exact r4Tight.mono _ _)
   | (with_reducible exact r4above.mono _ _ _)
   | (with_reducible exact LeO.refl _)
   | (with_reducible exact LeO.none _)
   | (with_reducible refine LeO.ite ?_ ?_)
   | (with_reducible refine LeO.bind ?_ (fun _=>?_))
   | exact ih0 _ _ _
   | exact ih1 _
   | exact r4Members.mono _ _
   | exact r4Tight.mono _ _
   | exact r4above.mono _ _ _
   | exact LeO.none _
   | refine LeO.ite ?_ ?_
   | refine LeO.bind ?_ (fun _=>?_)
theorem r4Remove.mono : ∀ a0 a1 k,LeO (r4Remove.f k a0 a1) (r4Remove.f (k + 1) a0 a1):=by
 intro a0 a1 k;obtain ⟨ih0,ih1⟩:=r4Remove.mono_l k;unfold r4Remove.f
 repeat' first
  | (with_reducible exact ih0 _ _ _)
  | (with_reducible exact ih1 _)
  | (with_reducible exact r4Members.mono _ _)
  | (with_reducible exact r4Tight.mono _ _)
  | (with_reducible exact r4above.mono _ _ _)
  | (with_reducible exact LeO.refl _)
  | (with_reducible exact LeO.none _)
  | (with_reducible refine LeO.ite ?_ ?_)
  | (with_reducible refine LeO.bind ?_ (fun _=>?_))
  | exact ih0 _ _ _
  | exact ih1 _
  | exact r4Members.mono _ _
  | exact r4Tight.mono _ _
  | exact r4above.mono _ _ _
  | exact LeO.none _
  | refine LeO.ite ?_ ?_
  | refine LeO.bind ?_ (fun _=>?_)
set_option maxHeartbeats 8000000 in
set_option maxRecDepth 100000 in
theorem r4Remove.calls (k : Nat) (A0 : Option Addr) (c0 : Nat) (l0 : List (S29)) (a1 : Int) (r1 : List (S29)) (r2 : Int) (w : World) (hr0 : Kd.C k29 w A0 l0.length l0) (hc0 : l0.length≤c0) (h : r4Remove.f k l0 a1 = some (r1,r2)) :
 Calls Tryd.prog 48 #[.slice A0 l0.length c0,.int .i64 a1] w fun e w'=>∃ v0_ : Value,e = .returned (.tuple #[v0_,.int .i64 r2])∧Kd.S k29 29 w' w.heap.size (fun _=>True) v0_ r1∧Below w.heap.size w w':=by
 have hu29:=Tryd.underlying29;have HR0:=Az.mk hr0;have HC0:=Az.mk hc0;clear hr0 hc0;have HB:=Az.mk (Below.refl w.heap.size w);have H : ((r4Full.f l0 a1).bind fun t474=>(if t474 = true then ((r4Members.f k l0).bind fun t475=>(r4Remove.j0 k l0 a1 (decide ((t475.length : Int) < 2)))) else (r4Remove.j0 k l0 a1 true))) = some (r1,r2):=h;clear h;have HC3:=Az.mk H;clear H
 go_enter Tryd.func48,Tryd.ntmps48
 go_upto_region 1 with (fail)
 go_cut [16] (fun v16 wc=>∃ (kq : Nat) (x16_2 : Bool),v16 = .bool x16_2∧Az (r4Remove.j0 kq l0 a1 x16_2 = some (r1,r2))∧Az (kq≤k)∧Az (Below w.heap.size w wc))
 case first=>
  have H:=HC3.out;clear HC3;replace H:=Option.bind_eq_some_iff.mp H;obtain ⟨t474,A40,H⟩:=H;(try dsimp only at H);have A4:=Az.mk A40;clear A40
  by_cases c5 : t474 = true
  · subst c5
    rw [if_pos rfl] at H;replace H:=Option.bind_eq_some_iff.mp H;obtain ⟨t475,A60,H⟩:=H;(try dsimp only at H);have A6:=Az.mk A60;clear A60;have H':=Az.mk H;clear H
    go_wp2_with (first | ((with_reducible refine gate_callee (f:=22) rfl ?_);refine goesL_ (some 9) rfl rfl Tryd.func22 (by kernel_rfl) rfl #[.slice A0 l0.length c0,.int .i64 a1] rfl tl_ ?_;(with_reducible refine (r4Full.calls _ _ l0 a1 true _ ?side1 ?side2 A4.out).mono ?_);(case side1=>exact C_mv ((Kd.C_below HR0.out HB.out)));(case side2=>exact HC0.out);rintro e w' ⟨rfl,⟨nd,rfl⟩⟩;refine ⟨_,rfl,?_⟩) | (go_at_call 27;(with_reducible refine (r4Members.calls k _ _ l0 t475 _ ?side1 ?side2 A6.out).mono ?_);(case side1=>exact C_mv ((Kd.C_below HR0.out HB.out)));(case side2=>exact HC0.out);rintro e w7 ⟨v476,rfl,ho0,hb⟩;have HO477:=Az.mk (Kd.R_lower ho0 (bwZ (bmv HB.out)));replace HB:=Az.mk (bwT (bmv HB.out) hb);(try clear hb);(try clear hb2);(try clear hk);(try clear hi);(try clear ho0);obtain ⟨Ao8,co8,eo8⟩:=Kd.R_slice HO477.out;subst eo8))
    go_meet
    case rel=>exact ⟨_,(decide ((t475.length : Int) < 2)),rs_,H',⟨by first | omega | exact Nat.le_refl _⟩,⟨bmv HB.out⟩⟩
  · replace c5:=Bool.eq_false_iff.mpr c5
    subst c5;rw [if_neg (show ¬ (false = true) by decide)] at H;have H':=Az.mk H;clear H
    go_wp2_with (first | ((with_reducible refine gate_callee (f:=22) rfl ?_);refine goesL_ (some 9) rfl rfl Tryd.func22 (by kernel_rfl) rfl #[.slice A0 l0.length c0,.int .i64 a1] rfl tl_ ?_;(with_reducible refine (r4Full.calls _ _ l0 a1 false _ ?side1 ?side2 A4.out).mono ?_);(case side1=>exact C_mv ((Kd.C_below HR0.out HB.out)));(case side2=>exact HC0.out);rintro e w' ⟨rfl,⟨nd,rfl⟩⟩;refine ⟨_,rfl,?_⟩))
    go_meet
    case rel=>exact ⟨_,(true),rs_,H',⟨by first | omega | exact Nat.le_refl _⟩,⟨bmv HB.out⟩⟩
 case rest=>
  clear HC3;(try clear c5);obtain ⟨kq,x16_2,rfl,HA,HJ2,HB⟩:=hcut
  cases kq with
  | zero=>exact absurd HA.out (by simp [r4Remove.j0])
  | succ kj2=>
   have H:=HA.out;clear HA;simp only [r4Remove.j0] at H
   by_cases c9 : x16_2 = true
   · subst c9
     rw [if_pos rfl] at H;simp only [Option.some.injEq,Prod.mk.injEq] at H;obtain ⟨rfl,rfl⟩:=H
     go_wp2
     go_ret2
     exact ⟨_,by first | rfl | (simp [errW_none,errW_some] <;> rfl) | (simp [*,errW_none,errW_some] <;> rfl),by first | exact Kd.S_nil _ _ _ _ _ | exact Kd.N_nil _ _ _ _ _ | exact Kd.V_nil _ _ _ _ _ | exact Kd.Q_nil _ _ _ _ _ | exact Kd.R_nil _ _ _ _ _,bmv HB.out⟩
   · replace c9:=Bool.eq_false_iff.mpr c9
     subst c9;rw [if_neg (show ¬ (false = true) by decide)] at H;replace H:=Option.bind_eq_some_iff.mp H;obtain ⟨t478,A100,H⟩:=H;(try dsimp only at H);have A10:=Az.mk A100;clear A100
     obtain ⟨ji11,hji11⟩ : ∃ j_ : Int,(wrap64 (2 * a1)) = j_:=⟨_,rfl⟩
     replace H : (if 0≤(ji11) then (if (ji11) < (t478.length : Int) then (r4Remove.l0 kj2 (t478.set ((ji11) : Int).toNat (⟨false,0,0,0,0,([] : List Int)⟩ : S29))) else (none)) else (none)) = some (r1,r2):=by first | (rw [hji11] at H;exact H) | (simp only [hji11] at H ⊢;exact H)
     (try rw [hji11] at A10)
     have hji11w : (IntKind.i64.wrap (2 * a1)) = ji11:=(i64_w _).trans hji11
     by_cases c12 : 0≤(ji11)
     · rw [if_pos c12] at H
       have c12b0 : decide (0≤(ji11)) = true:=decide_eq_true c12;clear c12
       by_cases c13 : (ji11) < (t478.length : Int)
       · rw [if_pos c13] at H
         have c13b0 : decide ((ji11) < (t478.length : Int)) = true:=decide_eq_true c13;clear c13
         obtain ⟨y481,hy481⟩ : ∃ y_ : List (S29),y_ = (t478.set ((ji11) : Int).toNat (⟨false,0,0,0,0,([] : List Int)⟩ : S29)):=⟨_,rfl⟩
         replace H : (r4Remove.l0 kj2 y481) = some (r1,r2):=by first | (rw [hy481];with_reducible exact H) | (have H2_:=(Option.bind_some _ _).symm.trans H;rw [hy481];with_reducible exact H2_) | (have H2_:=(Option.bind_some _ _).symm.trans H;with_reducible exact H2_) | with_reducible exact H | (rw [hy481];exact H) | exact H
         have Ny481:=Az.mk hy481;clear hy481;have H':=Az.mk H;clear H
         go_wp2_with (first | ((with_reducible refine gate_callee (f:=67) rfl ?_);refine goesL_ (some 19) rfl rfl Tryd.func67 (by kernel_rfl) rfl #[.slice A0 l0.length c0,.int .i64 a1] rfl tl_ ?_;(with_reducible refine (r4above.calls kj2 _ _ l0 a1 t478 _ ?side1 ?side2 A10.out).mono ?_);(case side1=>exact C_mv ((Kd.C_below HR0.out HB.out)));(case side2=>exact HC0.out);rintro e w15 ⟨v479,rfl,ho0,hb⟩;refine ⟨_,rfl,?_⟩;have HO480:=Az.mk (Kd.S_lower ho0 (bwZ (bmv HB.out)));replace HB:=Az.mk (bwT (bmv HB.out) hb);(try clear hb);(try clear hb2);(try clear hk);(try clear hi);(try clear ho0);have p14 : 0≤((ji11) : Int):=dt_;have q14 : ((ji11) : Int) < ((t478.length : Int) : Int):=dt_;obtain ⟨go14,co14,eo14,gb14,gl14,cl14,HG14⟩:=Kd.S_form HO480.out (by omega);(first | cases eo14 | (injection eo14 with ea_ en_ ec_;(first | subst ea_ | (injection ea_ with ea_;subst ea_));subst ec_;clear en_));have GB14:=Az.mk gb14;have GG14:=Az.mk HG14;clear gb14 gl14 HG14;obtain ⟨_,ce14,hcl14,hM14,hcc14,hfr14,_,_⟩:=Kd.S_elem HO480.out z29 ((ji11) : Int) p14 q14;obtain ⟨ve14_5,rfl,ge14_5⟩:=k29_openM hM14;have hx14_0 : w15.cell? ⟨go14,((ji11) : Int).toNat * 6,none⟩ = some (.bool ((rd_T29 t478 (ji11)).f0)):=hcc14 0 _ rfl;have hx14_1 : w15.cell? ⟨go14,((ji11) : Int).toNat * 6 + 1,none⟩ = some (.int .i64 ((rd_T29 t478 (ji11)).f1)):=hcc14 1 _ rfl;have hx14_2 : w15.cell? ⟨go14,((ji11) : Int).toNat * 6 + 2,none⟩ = some (.int .i64 ((rd_T29 t478 (ji11)).f2)):=hcc14 2 _ rfl;have hx14_3 : w15.cell? ⟨go14,((ji11) : Int).toNat * 6 + 3,none⟩ = some (.int .i64 ((rd_T29 t478 (ji11)).f3)):=hcc14 3 _ rfl;have hx14_4 : w15.cell? ⟨go14,((ji11) : Int).toNat * 6 + 4,none⟩ = some (.int .i64 ((rd_T29 t478 (ji11)).f4)):=hcc14 4 _ rfl;have hx14_5 : w15.cell? ⟨go14,((ji11) : Int).toNat * 6 + 5,none⟩ = some (ve14_5):=hcc14 5 _ rfl;have hf14_0 : w15.frozen? ⟨go14,((ji11) : Int).toNat * 6,none⟩ = false:=hfr14 0;have hf14_1 : w15.frozen? ⟨go14,((ji11) : Int).toNat * 6 + 1,none⟩ = false:=hfr14 1;have hf14_2 : w15.frozen? ⟨go14,((ji11) : Int).toNat * 6 + 2,none⟩ = false:=hfr14 2;have hf14_3 : w15.frozen? ⟨go14,((ji11) : Int).toNat * 6 + 3,none⟩ = false:=hfr14 3;have hf14_4 : w15.frozen? ⟨go14,((ji11) : Int).toNat * 6 + 4,none⟩ = false:=hfr14 4;have hf14_5 : w15.frozen? ⟨go14,((ji11) : Int).toNat * 6 + 5,none⟩ = false:=hfr14 5;clear hcl14 hcc14 hfr14 hM14;replace p14:=eq_true p14;replace q14:=eq_true q14;have HX16:=Az.mk (show Kd.S k29 29 w15 w.heap.size (fun k_=>((fun _=>True)) k_∧¬ ((fun _=>False)) k_) (.slice (some ⟨go14,0,none⟩) t478.length co14) t478 from (S_mv (Kd.S_mono HO480.out (fun k_ hk=>⟨trivial,fun e_=>e_⟩))));obtain ⟨oki16,ce16,hcl16,hM16,hcc16,hfr16,hoki16,hH16⟩:=Kd.S_elem HX16.out z29 ((ji11) : Int) (dt_) (by have h_ : ((ji11) : Int) < ((t478.length : Int) : Int):=dt_;first | exact h_ | (have e_:=(Kd.S_reads' HO480.out).1;omega) | simpa using h_);obtain ⟨ve16_5,rfl,ge16_5⟩:=k29_openM hM16;have HP16:=Kd.S_seg hH16 (dt_) (by have h_ : ((ji11) : Int) < ((t478.length : Int) : Int):=dt_;first | exact h_ | (have e_:=(Kd.S_reads' HO480.out).1;omega) | simpa using h_) (seg:=[.bool false,.int .i64 0,.int .i64 0,.int .i64 0,.int .i64 0,.slice none 0 0]) (j:=0) (show 6≤6 from by decide) (x':=(⟨false,0,0,0,0,([] : List Int)⟩ : S29)) (k29_mkM _ _ _ (⟨false,0,0,0,0,([] : List Int)⟩ : S29) (Kd.R_nil _ _ _ _ _)) (fun _ hk=>hk) (fun k_ hk_=>hk_.elim);have hx16_0:=hcc16 0 _ rfl;(try simp only [show (k29).sz = 6 from rfl,Nat.mul_one,Nat.add_zero] at hx16_0);have hf16_0:=hfr16 0;(try simp only [show (k29).sz = 6 from rfl,Nat.mul_one,Nat.add_zero] at hf16_0);have hx16_1:=hcc16 1 _ rfl;(try simp only [show (k29).sz = 6 from rfl,Nat.mul_one,Nat.add_zero] at hx16_1);have hf16_1:=hfr16 1;(try simp only [show (k29).sz = 6 from rfl,Nat.mul_one,Nat.add_zero] at hf16_1);have hx16_2:=hcc16 2 _ rfl;(try simp only [show (k29).sz = 6 from rfl,Nat.mul_one,Nat.add_zero] at hx16_2);have hf16_2:=hfr16 2;(try simp only [show (k29).sz = 6 from rfl,Nat.mul_one,Nat.add_zero] at hf16_2);have hx16_3:=hcc16 3 _ rfl;(try simp only [show (k29).sz = 6 from rfl,Nat.mul_one,Nat.add_zero] at hx16_3);have hf16_3:=hfr16 3;(try simp only [show (k29).sz = 6 from rfl,Nat.mul_one,Nat.add_zero] at hf16_3);have hx16_4:=hcc16 4 _ rfl;(try simp only [show (k29).sz = 6 from rfl,Nat.mul_one,Nat.add_zero] at hx16_4);have hf16_4:=hfr16 4;(try simp only [show (k29).sz = 6 from rfl,Nat.mul_one,Nat.add_zero] at hf16_4);have hx16_5:=hcc16 5 _ rfl;(try simp only [show (k29).sz = 6 from rfl,Nat.mul_one,Nat.add_zero] at hx16_5);have hf16_5:=hfr16 5;(try simp only [show (k29).sz = 6 from rfl,Nat.mul_one,Nat.add_zero] at hf16_5);clear hcl16 hcc16 hfr16 hM16 hoki16 hH16) | ((with_reducible refine gate_store (t:=29) (p:=24) rfl ?_);refine store_event (t:=29) (p:=24) (v:=?vo_w17) (w1:=((((((w15.setCell ⟨go14,((ji11) : Int).toNat * 6,none⟩ (.bool false)).setCell ⟨go14,((ji11) : Int).toNat * 6 + 1,none⟩ (.int .i64 0)).setCell ⟨go14,((ji11) : Int).toNat * 6 + 2,none⟩ (.int .i64 0)).setCell ⟨go14,((ji11) : Int).toNat * 6 + 3,none⟩ (.int .i64 0)).setCell ⟨go14,((ji11) : Int).toNat * 6 + 4,none⟩ (.int .i64 0)).setCell ⟨go14,((ji11) : Int).toNat * 6 + 5,none⟩ (.slice none 0 0))) ?hg ?ho ?hn ?hr ?_;(case ho=>rfl);(case hg=>rfl);(case hn=>rfl);(case hr=>first | (go_simp;done) | (go_simp;rfl));intro w17 hw;have hg : w15.grownBy w17 (some go14):=(by rw [hw];exact HP16.2);have hp_ : Kd.S k29 29 w17 w.heap.size (fun _=>True) (.slice (some ⟨go14,0,none⟩) t478.length co14) y481:=(by rw [hw,Ny481.out];exact HP16.1);clear HP16;replace HO480:=Az.mk (hp_);replace HB:=Az.mk ((by rw [hw];exact bwS (bwS (bwS (bwS (bwS (bwS (HB.out) GB14.out) GB14.out) GB14.out) GB14.out) GB14.out) GB14.out : Below w.heap.size w w17));clear hg hw hp_))
         go_loopg [6] kj2 (fun kq v6 w'=>∃ (x6_2 : List (S29)),Az (r4Remove.l0 kq x6_2 = some (r1,r2))∧Az (kq≤kj2)∧Az (Kd.S k29 29 w' w.heap.size (fun _=>True) v6 x6_2)∧Az (Below w.heap.size w w'))
         case atStart=>exact ⟨(y481),H',⟨Nat.le_refl _⟩,⟨S_mv HO480.out⟩,⟨bmv HB.out⟩⟩
         case round=>
          clear H';(try clear c5);(try clear c9);(try clear c12);(try clear c12b0);(try clear c13);(try clear c13b0);(try clear p14);(try clear q14);(try clear hx14_0);(try clear hx14_1);(try clear hx14_2);(try clear hx14_3);(try clear hx14_4);(try clear hx14_5);(try clear hx16_0);(try clear hx16_1);(try clear hx16_2);(try clear hx16_3);(try clear hx16_4);(try clear hx16_5);(try clear p14);(try clear q14);obtain ⟨x6_2,HA,HK2,HO_6,HB⟩:=hrel
          cases gk with
          | zero=>exact absurd HA.out (by simp [r4Remove.l0])
          | succ k2=>
           have H:=HA.out;clear HA;simp only [r4Remove.l0] at H
           by_cases c18 : (x6_2.length : Int) > 1
           · rw [if_pos c18] at H
             have c18b0 : decide (1 < (x6_2.length : Int)) = true:=decide_eq_true c18;have c18b1 : decide (1 < x6_2.length) = true:=decide_eq_true (by omega);clear c18;replace H:=Option.bind_eq_some_iff.mp H;obtain ⟨t482,A190,H⟩:=H;(try dsimp only at H);have A19:=Az.mk A190;clear A190
             by_cases c20 : t482 = true
             · subst c20
               rw [if_pos rfl] at H;simp only [Option.some.injEq,Prod.mk.injEq] at H;obtain ⟨rfl,rfl⟩:=H;obtain ⟨Ao21,co21,eo21⟩:=Kd.S_slice HO_6.out;subst eo21
               go_wp2_with (first | (go_at_call 45;(with_reducible refine (r4Tight.calls k2 _ _ x6_2 true _ ?side1 ?side2 A19.out).mono ?_);(case side1=>exact C_mv ((Kd.S_reads' HO_6.out).2.2));(case side2=>exact (Kd.S_reads' HO_6.out).2.1);rintro e w' ⟨rfl,⟨nd,rfl⟩⟩))
               go_ret2
               exact ⟨_,by first | rfl | (simp [errW_none,errW_some] <;> rfl) | (simp only [← hji11];first | rfl | (simp [errW_none,errW_some] <;> rfl)) | (simp [*,errW_none,errW_some] <;> rfl),S_mv HO_6.out,bmv HB.out⟩
             · replace c20:=Bool.eq_false_iff.mpr c20
               subst c20;rw [if_neg (show ¬ (false = true) by decide)] at H;replace H:=Option.bind_eq_some_iff.mp H;obtain ⟨t483,A220,H⟩:=H;(try dsimp only at H);have A22:=Az.mk A220;clear A220
               obtain ⟨ji23,hji23⟩ : ∃ j_ : Int,(wrap64 (t483 - 1)) = j_:=⟨_,rfl⟩
               replace H : (if 0≤(ji23) then (if (ji23)≤(x6_2.length : Int) then (r4Remove.l0 k2 (x6_2.take ((ji23) : Int).toNat)) else (none)) else (none)) = some (r1,r2):=by first | (rw [hji23] at H;exact H) | (simp only [hji23] at H ⊢;exact H)
               (try rw [hji23] at A19)
               (try rw [hji23] at A22)
               have hji23w : (IntKind.i64.wrap (t483 - 1)) = ji23:=(i64_w _).trans hji23
               by_cases c24 : 0≤(ji23)
               · rw [if_pos c24] at H
                 have c24b0:=eq_true c24;have c24b1 : decide (0≤(ji23)) = true:=decide_eq_true c24;clear c24
                 by_cases c25 : (ji23)≤(x6_2.length : Int)
                 · rw [if_pos c25] at H
                   have c25b0:=eq_true c25;have c25b1 : decide ((ji23)≤(x6_2.length : Int)) = true:=decide_eq_true c25;clear c25
                   obtain ⟨y484,hy484⟩ : ∃ y_ : List (S29),y_ = (x6_2.take ((ji23) : Int).toNat):=⟨_,rfl⟩
                   replace H : (r4Remove.l0 k2 y484) = some (r1,r2):=by first | (rw [hy484];with_reducible exact H) | (have H2_:=(Option.bind_some _ _).symm.trans H;rw [hy484];with_reducible exact H2_) | (have H2_:=(Option.bind_some _ _).symm.trans H;with_reducible exact H2_) | with_reducible exact H | (rw [hy484];exact H) | exact H
                   have Ny484:=Az.mk hy484;clear hy484;have H':=Az.mk H;clear H;obtain ⟨Ao26,co26,eo26⟩:=Kd.S_slice HO_6.out;subst eo26
                   go_wp2_with (first | (go_at_call 45;(with_reducible refine (r4Tight.calls k2 _ _ x6_2 false _ ?side1 ?side2 A19.out).mono ?_);(case side1=>exact C_mv ((Kd.S_reads' HO_6.out).2.2));(case side2=>exact (Kd.S_reads' HO_6.out).2.1);rintro e w' ⟨rfl,⟨nd,rfl⟩⟩) | ((with_reducible refine gate_callee (f:=21) rfl ?_);refine goesL_ (some 35) rfl rfl Tryd.func21 (by kernel_rfl) rfl #[.slice Ao26 x6_2.length co26] rfl tl_ ?_;(with_reducible refine (r4Leaves.calls _ _ x6_2 t483 _ ?side1 ?side2 A22.out).mono ?_);(case side1=>exact C_mv ((Kd.S_reads' HO_6.out).2.2));(case side2=>exact (Kd.S_reads' HO_6.out).2.1);rintro e w' ⟨rfl,⟨nd,rfl⟩⟩;refine ⟨_,rfl,?_⟩;have q27 : ((ji23) : Int)≤((x6_2.length : Int) : Int):=dt_;obtain ⟨i027,hi027,_,hsz27,_⟩:=info_parts info29;have hcut27:=cut_to (P:=Tryd.prog) 22 29 .i64 Tryd.underlying22 hi027 Ao26 x6_2.length co26 (ji23) (dt_) q27 (Kd.S_reads' HO_6.out).2.1;have hr27:=Kd.S_take (m:=((ji23) : Int).toNat) HO_6.out (by omega);have hy27 : y484.length = ((ji23) : Int).toNat:=(by rw [Ny484.out,List.length_take];omega);rw [← Ny484.out] at hr27;rw [← hy27] at hr27 hcut27;clear hy27 hi027 hsz27 HO_6;have HO486:=Az.mk hr27;clear hr27;replace q27:=eq_true q27))
                   go_roundg k2
                   case measure=>have:=HJ2.out;have:=HK2.out;omega
                   case rel=>exact ⟨(y484),H',⟨by have:=HJ2.out;have:=HK2.out;omega⟩,⟨S_mv HO486.out⟩,⟨bmv HB.out⟩⟩
                 · rw [if_neg c25] at H
                   exact absurd H (by simp)
               · rw [if_neg c24] at H
                 exact absurd H (by simp)
           · rw [if_neg c18] at H
             have c18b0 : decide (1 < (x6_2.length : Int)) = false:=decide_eq_false c18;have c18b1 : decide (1 < x6_2.length) = false:=decide_eq_false (by omega);clear c18;simp only [Option.some.injEq,Prod.mk.injEq] at H;obtain ⟨rfl,rfl⟩:=H;obtain ⟨Ao28,co28,eo28⟩:=Kd.S_slice HO_6.out;subst eo28
             go_wp2
             go_ret2
             exact ⟨_,by first | rfl | (simp [errW_none,errW_some] <;> rfl) | (simp only [← hji11];first | rfl | (simp [errW_none,errW_some] <;> rfl)) | (simp [*,errW_none,errW_some] <;> rfl),S_mv HO_6.out,bmv HB.out⟩
       · rw [if_neg c13] at H
         exact absurd H (by simp)
     · rw [if_neg c12] at H
       exact absurd H (by simp)
theorem C_cut {α : Type} {d : Kd α} {w : World} {A : Option Addr} {n : Nat} {xs : List α} (h : d.C w A n xs) (m : Nat) (hm : m≤n) : d.C w A m (xs.take m):=by
 refine ⟨by rw [List.length_take,h.1];omega,by have:=h.2.1;omega,fun hp=>?_⟩;obtain ⟨ad,e,hc⟩:=h.2.2 (by omega);refine ⟨ad,e,fun j p hj=>hc j p ?_⟩;rw [List.getElem?_take] at hj
 split at hj
 · exact hj
 · cases hj
theorem V_cut {α : Type} {d : Kd α} {e : Nat} {W : World} {b : Nat} {ok : Nat→Prop} {A : Option Addr} {n c : Nat} {xs : List α} (h : Kd.V d e W b ok (.slice A n c) xs) (m : Nat) (hm : m≤xs.length) : Kd.V d e W b ok (.slice A m m) (xs.take m):=by
 obtain ⟨A',c0,hv,hl,hF⟩:=h
 injection hv with e1 e2 e3
 subst e1
 have hlt : (xs.take m).length = m:=by rw [List.length_take];omega
 refine ⟨A,m,by rw [hlt],by rw [hlt];exact Nat.le_refl _,?_⟩;rw [hlt];exact Kd.F_imp hF (fun W' h'=>C_cut h' m hm)
theorem V_now {α : Type} {d : Kd α} {e : Nat} {W : World} {b : Nat} {ok : Nat→Prop} {A : Option Addr} {n c : Nat} {xs : List α} (h : Kd.V d e W b ok (.slice A n c) xs) : n = xs.length∧n≤c∧d.C W A xs.length xs:=by
 obtain ⟨A',c0,hv,hl,hF⟩:=h
 injection hv with e1 e2 e3
 subst e1 e3;exact ⟨e2,by rw [e2];exact hl,Kd.F_now hF⟩
theorem clip_calls (A : Option Addr) (n c : Nat) (hnc : n≤c) (w : World) : Calls Tryd.prog 62 #[.slice A n c] w fun e w'=>e = .returned (.slice A n n)∧w' = w:=by
 have h1 : decide ((n : Int)≤(c : Int)) = true:=by simp;omega
 go_enter Tryd.func62,Tryd.ntmps62
 go_wp2
 go_ret
 exact ⟨rfl,rfl⟩
def r4Merge.l0 : Nat→List Int→List Int→List Int→List (S29)→Int→Option (List (S29) × Int)
 | 0,_,_,_,_,_=>none
 | k + 1,p,ks,hs,x,j=>if j < (p.length : Int) then (if 0≤j then (if j < (ks.length : Int) then (if j < (hs.length : Int) then (if 0≤rd p j then (if rd p j < (x.length : Int) then r4Merge.l0 k p ks hs (x.set (rd p j).toNat (⟨true,rd ks j,0,0,rd hs j,([] : List Int)⟩ : S29)) (wrap64 (j + 1)) else none) else none) else none) else none) else none) else some (x,0)
def r4Merge.f (k : Nat) (l0 : List (S29)) (a1 : Int) (a2_0 : Bool) (a2_1 : Int) (a2_2 : Int) (a2_3 : Int) (a2_4 : Int) (l2_5 : List Int) (l3 : List Int) (l4 : List Int) : Option ((List (S29)) × Int):=(r4Full.f l0 a1).bind fun t=>if t = true then ((r4Filtered.f k l0 a1).bind fun p=>if l3.length = p.1.length∧l4.length = p.1.length then ((r4above.f k l0 a1).bind fun t2=>if 0≤(wrap64 (2 * a1)) then (if (wrap64 (2 * a1)) < (t2.length : Int) then r4Merge.l0 k p.1 l3 l4 (t2.set ((wrap64 (2 * a1)) : Int).toNat (⟨true,a2_1,a2_2,a2_3,a2_4,([] : List Int)⟩ : S29)) 0 else none) else none) else some (([] : List (S29)),30)) else some (([] : List (S29)),40)
theorem r4Merge.mono_l : ∀ k y0 y1 y2 y3 y4,LeO (r4Merge.l0 k y0 y1 y2 y3 y4) (r4Merge.l0 (k + 1) y0 y1 y2 y3 y4)
 | 0=>fun _ _ _ _ _ r h=>by simp [r4Merge.l0] at h
 | k + 1=>by
  intro y0 y1 y2 y3 y4;unfold r4Merge.l0;exact LeO.ite (LeO.ite (LeO.ite (LeO.ite (LeO.ite (LeO.ite (r4Merge.mono_l k _ _ _ _ _) (LeO.none _)) (LeO.none _)) (LeO.none _)) (LeO.none _)) (LeO.none _)) (LeO.refl _)
theorem r4Merge.mono : ∀ a0 a1 a2 a3 a4 a5 a6 a7 a8 a9 k,LeO (r4Merge.f k a0 a1 a2 a3 a4 a5 a6 a7 a8 a9) (r4Merge.f (k + 1) a0 a1 a2 a3 a4 a5 a6 a7 a8 a9):=by
 intro a0 a1 a2 a3 a4 a5 a6 a7 a8 a9 k;unfold r4Merge.f;refine LeO.bind (LeO.refl _) (fun _=>LeO.ite (LeO.bind (r4Filtered.mono _ _ _) (fun _=>LeO.ite (LeO.bind (r4above.mono _ _ _) (fun _=>LeO.ite (LeO.ite (r4Merge.mono_l _ _ _ _ _ _) (LeO.none _)) (LeO.none _))) (LeO.refl _))) (LeO.refl _))
set_option maxHeartbeats 8000000 in
set_option maxRecDepth 100000 in
theorem r4Merge.calls (k : Nat) (A0 : Option Addr) (c0 : Nat) (l0 : List (S29)) (a1 : Int) (a2_0 : Bool) (a2_1 : Int) (a2_2 : Int) (a2_3 : Int) (a2_4 : Int) (P2_5_ : Nat→Prop) (A2_5 : Option Addr) (c2_5 : Nat) (l2_5 : List Int) (A3 : Option Addr) (c3 : Nat) (l3 : List Int) (A4 : Option Addr) (c4 : Nat) (l4 : List Int) (r1 : List (S29)) (r2 : Int) (w : World) (hr0 : Kd.C k29 w A0 l0.length l0) (hc0 : l0.length≤c0) (hs2_5 : Kd.V (Kd.int .i64) 3 w w.heap.size (fun k_=>P2_5_ k_) (.slice A2_5 l2_5.length c2_5) l2_5) (hr3 : Kd.C (Kd.int .i64) w A3 l3.length l3) (hc3 : l3.length≤c3) (hr4 : Kd.C (Kd.int .i64) w A4 l4.length l4) (hc4 : l4.length≤c4) (h : r4Merge.f k l0 a1 a2_0 a2_1 a2_2 a2_3 a2_4 l2_5 l3 l4 = some (r1,r2)) :
 Calls Tryd.prog 49 #[.slice A0 l0.length c0,.int .i64 a1,.agg #[.bool a2_0,.int .i64 a2_1,.int .i64 a2_2,.int .i64 a2_3,.int .i64 a2_4,.slice A2_5 l2_5.length c2_5],.slice A3 l3.length c3,.slice A4 l4.length c4] w fun e w'=>∃ v0_ : Value,e = .returned (.tuple #[v0_,.int .i64 r2])∧Kd.S k29 29 w' w.heap.size (fun k_=>(w.heap.size≤k_)) v0_ r1∧Below w.heap.size w w':=by
 have huV:=Tryd.underlying29;have HC:=Az.mk hr0;have HL:=Az.mk hc0;obtain ⟨_,hl5,hc5⟩:=V_now hs2_5;have HC5:=Az.mk hc5;have HL5:=Az.mk hl5;have HK3:=Az.mk hr3;have HK4:=Az.mk hr4;have hn3:=hr3.2.1;have hn4:=hr4.2.1;have HN34:=Az.mk (And.intro hn3 hn4);clear hr0 hc0 hs2_5 hc5 hl5 hr3 hr4 hn3 hn4;unfold r4Merge.f at h;obtain ⟨t,A40,H⟩:=Option.bind_eq_some_iff.mp h;have A4_:=Az.mk A40;clear A40 h;have HB0:=Az.mk (bwA (Below.refl w.heap.size w) (.cells #[.bool a2_0,.int .i64 a2_1,.int .i64 a2_2,.int .i64 a2_3,.int .i64 a2_4,.slice A2_5 l2_5.length c2_5] 29));cases t
 · rw [if_neg (by decide)] at H
   simp only [Option.some.injEq,Prod.mk.injEq] at H;obtain ⟨rfl,rfl⟩:=H
   go_enter Tryd.func49,Tryd.ntmps49
   go_wp2_with (go_at_call 22;(with_reducible refine (r4Full.calls _ _ l0 a1 false _ (Kd.C_alloc HC.out _) HL.out A4_.out).mono ?_);rintro e w1 ⟨rfl,⟨nd,rfl⟩⟩)
   go_ret2
   exact ⟨_,rfl,Kd.S_nil _ _ _ _ _,bwN HB0.out _⟩
 · rw [if_pos rfl] at H
   obtain ⟨⟨p,q⟩,A50,H⟩:=Option.bind_eq_some_iff.mp H;have A5_:=Az.mk A50;clear A50;dsimp only at H
   go_enter Tryd.func49,Tryd.ntmps49
   go_upto_region 4 with (first
    | (go_at_call 22;(with_reducible refine (r4Full.calls _ _ l0 a1 true _ (Kd.C_alloc HC.out _) HL.out A4_.out).mono ?_);rintro e w1 ⟨rfl,⟨nd,rfl⟩⟩)
    | (go_at_call 37;(with_reducible refine (r4Filtered.calls _ _ _ l0 a1 p q _ (Kd.C_drewN (Kd.C_alloc HC.out _) nd) HL.out A5_.out).mono ?_);rintro e w2 ⟨vp,vq,rfl,hRp,hRq,hb⟩;have HB2:=Az.mk (bwT (bwN HB0.out nd) hb);have HX2:=Az.mk hb;have HRp:=Az.mk (Kd.R_lower hRp (by exact (bwZ (bwN HB0.out nd))));clear hRp hRq hb))
   obtain ⟨Ap,cp,rfl⟩:=Kd.R_slice HRp.out;have hpl : p.length≤9223372036854775807:=(Kd.R_reads' HRp.out).2.2.2.1
   by_cases hlen : l3.length = p.length∧l4.length = p.length
   case neg=>
    rw [if_neg hlen] at H;simp only [Option.some.injEq,Prod.mk.injEq] at H;obtain ⟨rfl,rfl⟩:=H
    by_cases he3 : l3.length = p.length
    · have hb3 : ((l3.length : Int) != (p.length : Int)) = false:=by simp;omega
      have hb4 : ((l4.length : Int) != (p.length : Int)) = true:=by
       have : l4.length≠p.length:=fun e=>hlen ⟨he3,e⟩
       simp;omega
      clear he3 hlen hpl
      go_wp2
      go_ret2
      exact ⟨_,rfl,Kd.S_nil _ _ _ _ _,HB2.out⟩
    · have hb3 : ((l3.length : Int) != (p.length : Int)) = true:=by simp;omega
      clear he3 hlen hpl
      go_wp2
      go_ret2
      exact ⟨_,rfl,Kd.S_nil _ _ _ _ _,HB2.out⟩
   rw [if_pos hlen] at H;obtain ⟨he3,he4⟩:=hlen;have HE:=Az.mk (And.intro he3 (And.intro he4 hpl))
   have hb3 : ((l3.length : Int) != (p.length : Int)) = false:=by simp;omega
   have hb4 : ((l4.length : Int) != (p.length : Int)) = false:=by simp;omega
   clear he3 he4 hpl;obtain ⟨t2,A60,H⟩:=Option.bind_eq_some_iff.mp H;have A6_:=Az.mk A60;clear A60
   have ex : ∃ ji,wrap64 (2 * a1) = ji:=⟨_,rfl⟩
   obtain ⟨ji,hji⟩:=ex;rw [hji] at H;have hjiw : (IntKind.i64.wrap (2 * a1)) = ji:=(i64_w _).trans hji
   by_cases h0 : 0≤ji
   case neg=>rw [if_neg h0] at H;cases H
   rw [if_pos h0] at H
   by_cases h1 : ji < (t2.length : Int)
   case neg=>rw [if_neg h1] at H;cases H
   rw [if_pos h1] at H;have HH:=Az.mk H;clear H
   go_upto_region 7 with (go_at_call 67;(with_reducible refine (r4above.calls _ _ _ l0 a1 t2 _ (Kd.C_below (Kd.C_drewN (Kd.C_alloc HC.out _) nd) HX2.out) HL.out A6_.out).mono ?_);rintro e w3 ⟨v3,rfl,hS,hb⟩;have HBX:=Az.mk hb;have HS3:=Az.mk (Kd.S_mono (Kd.S_bound hS) (fun k_ hk=>hk.2.1) : Kd.S k29 29 w3 w2.heap.size (fun k_=>w2.heap.size≤k_) v3 t2);clear hS hb)
   obtain ⟨g,c3_,rfl,gb,gl,_,_⟩:=Kd.S_form HS3.out (by omega);have hblk : w3.heap[w.heap.size]? = some (.cells #[.bool a2_0,.int .i64 a2_1,.int .i64 a2_2,.int .i64 a2_3,.int .i64 a2_4,.slice A2_5 l2_5.length c2_5] 29 (0,0)):=(HBX.out.block _ (Nat.lt_of_lt_of_le (by simp) HX2.out.size)).trans ((HX2.out.block _ (by simp)).trans heap_alloc_at);have lx0:=cell_of hblk 0;have lx1:=cell_of hblk 1;have lx2:=cell_of hblk 2;have lx3:=cell_of hblk 3;have lx4:=cell_of hblk 4;have lx5:=cell_of hblk 5;simp only [List.getElem?_toArray,List.getElem?_cons_zero,List.getElem?_cons_succ] at lx0 lx1 lx2 lx3 lx4 lx5;have HC53:=Az.mk (Kd.C_below (Kd.C_below (Kd.C_drewN (Kd.C_alloc HC5.out (.cells #[.bool a2_0,.int .i64 a2_1,.int .i64 a2_2,.int .i64 a2_3,.int .i64 a2_4,.slice A2_5 l2_5.length c2_5] 29)) nd) HX2.out) HBX.out);have GB:=Az.mk gb;have p0:=eq_true h0;have p1:=eq_true h1;have H0:=Az.mk h0;have H1:=Az.mk h1;clear gb gl hji h0 h1 hblk
   go_upto_region 8 with (first
    | (go_at_call 35;(with_reducible refine (r4Leaf.nil a2_0 a2_1 a2_2 a2_3 a2_4 A2_5 c2_5 l2_5 _ HC53.out HL5.out).mono ?_);rintro e w4 ⟨rfl,hb4⟩;have HS4:=Az.mk (Kd.S_below HS3.out hb4);have HB4:=Az.mk (bwT HBX.out hb4);clear hb4 lx0 lx1 lx2 lx3 lx4 lx5;obtain ⟨oki,ce,hcl,hM,hcc,hfr,hoki,hH⟩:=Kd.S_elem HS4.out z29 ji H0.out H1.out;obtain ⟨ve5,rfl,ge5⟩:=k29_openM hM;have HP:=Az.mk (Kd.S_seg0 hH H0.out H1.out (seg:=[.bool true,.int .i64 a2_1,.int .i64 a2_2,.int .i64 a2_3,.int .i64 a2_4,.slice none 0 0]) (j:=0) (show 6≤6 from by decide) (x':=(⟨true,a2_1,a2_2,a2_3,a2_4,([] : List Int)⟩ : S29)) (k29_mkM _ _ _ (⟨true,a2_1,a2_2,a2_3,a2_4,([] : List Int)⟩ : S29) (Kd.R_nil _ _ _ _ _)) (fun _ hk=>hk));have hx0 : w4.cell? ⟨g,ji.toNat * 6,none⟩ = some (.bool _):=hcc 0 _ rfl;have hx1 : w4.cell? ⟨g,ji.toNat * 6 + 1,none⟩ = some (.int .i64 _):=hcc 1 _ rfl;have hx2 : w4.cell? ⟨g,ji.toNat * 6 + 2,none⟩ = some (.int .i64 _):=hcc 2 _ rfl;have hx3 : w4.cell? ⟨g,ji.toNat * 6 + 3,none⟩ = some (.int .i64 _):=hcc 3 _ rfl;have hx4 : w4.cell? ⟨g,ji.toNat * 6 + 4,none⟩ = some (.int .i64 _):=hcc 4 _ rfl;have hx5 : w4.cell? ⟨g,ji.toNat * 6 + 5,none⟩ = some ve5:=hcc 5 _ rfl;have hf0 : w4.frozen? ⟨g,ji.toNat * 6,none⟩ = false:=hfr 0;have hf1 : w4.frozen? ⟨g,ji.toNat * 6 + 1,none⟩ = false:=hfr 1;have hf2 : w4.frozen? ⟨g,ji.toNat * 6 + 2,none⟩ = false:=hfr 2;have hf3 : w4.frozen? ⟨g,ji.toNat * 6 + 3,none⟩ = false:=hfr 3;have hf4 : w4.frozen? ⟨g,ji.toNat * 6 + 4,none⟩ = false:=hfr 4;have hf5 : w4.frozen? ⟨g,ji.toNat * 6 + 5,none⟩ = false:=hfr 5;clear hcl hM hcc hfr hoki hH ge5)
    | ((with_reducible refine gate_store (t:=29) (p:=46) rfl ?_);refine store_event (t:=29) (p:=46) (v:=?vo) (w1:=((((((w4.setCell ⟨g,ji.toNat * 6,none⟩ (.bool true)).setCell ⟨g,ji.toNat * 6 + 1,none⟩ (.int .i64 a2_1)).setCell ⟨g,ji.toNat * 6 + 2,none⟩ (.int .i64 a2_2)).setCell ⟨g,ji.toNat * 6 + 3,none⟩ (.int .i64 a2_3)).setCell ⟨g,ji.toNat * 6 + 4,none⟩ (.int .i64 a2_4)).setCell ⟨g,ji.toNat * 6 + 5,none⟩ (.slice none 0 0))) ?hg ?ho ?hn ?hr ?_;(case ho=>rfl);(case hg=>rfl);(case hn=>rfl);(case hr=>first | (go_simp;done) | (go_simp;rfl));intro w5 hw;have HS5:=Az.mk (show Kd.S k29 29 w5 w2.heap.size (fun k_=>w2.heap.size≤k_) (.slice (some ⟨g,0,none⟩) t2.length c3_) (t2.set ji.toNat (⟨true,a2_1,a2_2,a2_3,a2_4,([] : List Int)⟩ : S29)) from by rw [hw];exact HP.out.1);have HG5:=Az.mk (show w4.grownBy w5 (some g) from by rw [hw];exact HP.out.2);clear hw))
   obtain ⟨y,hy⟩ : ∃ y,y = (t2.set ji.toNat (⟨true,a2_1,a2_2,a2_3,a2_4,([] : List Int)⟩ : S29)):=⟨_,rfl⟩
   have hyl : y.length = t2.length:=by rw [hy,List.length_set]
   have HB5:=Az.mk (show Below w2.heap.size w2 w5 from pw_below_grown HB4.out (some g) (bwZ HB4.out) HG5.out (fun k_ e_=>by cases e_;exact GB.out));clear HP HG5 hyl hy y p0 p1 hx0 hx1 hx2 hx3 hx4 hx5 hf0 hf1 hf2 hf3 hf4 hf5;have HCp:=Az.mk (Kd.R_reads' HRp.out).2.2;clear HRp HB4 HS4 HS3 HBX HC53 HC5 HL5 H0 H1 GB HC HL HX2
   go_wp2
   go_loopg [15] k (fun kq v w'=>∃ (j : Int) (x : List (S29)),v = .int .i64 j∧Az (kq≤k)∧Az (r4Merge.l0 kq p l3 l4 x j = some (r1,r2))∧Az (Kd.S k29 29 w' w2.heap.size (fun k_=>w2.heap.size≤k_) (.slice (some ⟨g,0,none⟩) t2.length c3_) x)∧Az (Below w2.heap.size w2 w'))
   case atStart=>exact ⟨0,_,rfl,⟨Nat.le_refl _⟩,HH,HS5,HB5⟩
   case round=>
    clear HH HS5 HB5;obtain ⟨j,x,rfl,HK1,HR,HS,HB⟩:=hrel
    cases gk with
    | zero=>exact absurd HR.out (by simp [r4Merge.l0])
    | succ k1=>
     have H:=HR.out;simp only [r4Merge.l0] at H;have hxl:=(Kd.S_reads' HS.out).1;have HXL:=Az.mk hxl;clear HR hxl
     by_cases c1 : j < (p.length : Int)
     case neg=>
      rw [if_neg c1] at H;have c1b : decide (j < (p.length : Int)) = false:=decide_eq_false c1;simp only [Option.some.injEq,Prod.mk.injEq] at H;obtain ⟨rfl,rfl⟩:=H;clear c1
      go_wp2
      go_ret2
      exact ⟨_,rfl,Kd.S_mono (Kd.S_lower HS.out (bwZ HB2.out)) (fun k_ hk=>Nat.le_trans (bwZ HB2.out) hk),bwT HB2.out HB.out⟩
     rw [if_pos c1] at H
     by_cases c2 : 0≤j
     case neg=>rw [if_neg c2] at H;cases H
     rw [if_pos c2] at H
     by_cases c3 : j < (l3.length : Int)
     case neg=>rw [if_neg c3] at H;cases H
     rw [if_pos c3] at H
     by_cases c4 : j < (l4.length : Int)
     case neg=>rw [if_neg c4] at H;cases H
     rw [if_pos c4] at H
     by_cases c5 : 0≤rd p j
     case neg=>rw [if_neg c5] at H;cases H
     rw [if_pos c5] at H
     by_cases c6 : rd p j < (x.length : Int)
     case neg=>rw [if_neg c6] at H;cases H
     rw [if_pos c6] at H;have H':=Az.mk H;have c1b : decide (j < (p.length : Int)) = true:=decide_eq_true c1;obtain ⟨adp,ep,hcp⟩:=Kd.at_int (Kd.C_below HCp.out HB.out) j c2 c1;cases ep;obtain ⟨ad3,e3,hc3_⟩:=Kd.at_int (Kd.C_below HK3.out (bwT HB2.out HB.out)) j c2 c3;cases e3;obtain ⟨ad4,e4,hc4_⟩:=Kd.at_int (Kd.C_below HK4.out (bwT HB2.out HB.out)) j c2 c4;cases e4;obtain ⟨oki,ce,hcl,hM,hcc,hfr,hoki,hH⟩:=Kd.S_elem HS.out z29 (rd p j) c5 (by have:=HXL.out;omega);obtain ⟨ve5,rfl,ge5⟩:=k29_openM hM;have HP:=Az.mk (Kd.S_seg0 hH c5 (by have:=HXL.out;omega) (seg:=[.bool true,.int .i64 (rd l3 j),.int .i64 0,.int .i64 0,.int .i64 (rd l4 j),.slice none 0 0]) (j:=0) (show 6≤6 from by decide) (x':=(⟨true,rd l3 j,0,0,rd l4 j,([] : List Int)⟩ : S29)) (k29_mkM _ _ _ (⟨true,rd l3 j,0,0,rd l4 j,([] : List Int)⟩ : S29) (Kd.R_nil _ _ _ _ _)) (fun _ hk=>hk));have gbb : w2.heap.size≤g:=Kd.S_base HS.out g rfl;have hx0 : wr.cell? ⟨g,(rd p j).toNat * 6,none⟩ = some (.bool _):=hcc 0 _ rfl;have hx1 : wr.cell? ⟨g,(rd p j).toNat * 6 + 1,none⟩ = some (.int .i64 _):=hcc 1 _ rfl;have hx2 : wr.cell? ⟨g,(rd p j).toNat * 6 + 2,none⟩ = some (.int .i64 _):=hcc 2 _ rfl;have hx3 : wr.cell? ⟨g,(rd p j).toNat * 6 + 3,none⟩ = some (.int .i64 _):=hcc 3 _ rfl;have hx4 : wr.cell? ⟨g,(rd p j).toNat * 6 + 4,none⟩ = some (.int .i64 _):=hcc 4 _ rfl;have hx5 : wr.cell? ⟨g,(rd p j).toNat * 6 + 5,none⟩ = some ve5:=hcc 5 _ rfl;have hf0 : wr.frozen? ⟨g,(rd p j).toNat * 6,none⟩ = false:=hfr 0;have hf1 : wr.frozen? ⟨g,(rd p j).toNat * 6 + 1,none⟩ = false:=hfr 1;have hf2 : wr.frozen? ⟨g,(rd p j).toNat * 6 + 2,none⟩ = false:=hfr 2;have hf3 : wr.frozen? ⟨g,(rd p j).toNat * 6 + 3,none⟩ = false:=hfr 3;have hf4 : wr.frozen? ⟨g,(rd p j).toNat * 6 + 4,none⟩ = false:=hfr 4;have hf5 : wr.frozen? ⟨g,(rd p j).toNat * 6 + 5,none⟩ = false:=hfr 5;have p1:=eq_true c1;have p2:=eq_true c2;have p3:=eq_true c3;have p4:=eq_true c4;have p5:=eq_true c5;have p6:=eq_true (show rd p j < (t2.length : Int) by have:=HXL.out;omega);clear hcl hM hcc hfr hoki hH ge5 H c1 c2 c3 c4 c5 c6
     generalize hq : rd p j = q at *
     have HGB:=Az.mk gbb;clear HK3 HK4 HXL HE HN34 gbb
     go_wp2
     refine Mix.wp_region_mix (fun _=>True) (fun i=>[0,0,0,6,14,0,0,96,224,0,0,1536,3584,8160,16383,32767].getD i 0) (fun i=>[2,2,2,2,2,2,2,2,2,2,2,2,2,2,2,3].getD i 0) (by kernel_rfl) ⟨by kernel_rfl,by kernel_rfl,by kernel_rfl,by kernel_rfl,by kernel_rfl⟩ trivial ?_;simp only [Mix.whole,List.getD_cons_zero,List.getD_cons_succ,Nat.reduceAdd]
     repeat (first | (refine Mix.pin_no rfl rfl (fun K hK=>?_);go_step;refine hK _ ?_;clear hK K) | (refine Mix.pin_not rfl rfl rfl rfl (fun K hK=>?_);simp only [List.setIfInBounds_toArray,List.set_cons_zero,List.set_cons_succ];refine hK _ ?_;clear hK K) | (refine Mix.pin_yes rfl rfl rfl rfl (fun K hK=>?_);go_step;refine hK _ ?_;clear hK K))
     refine Mix.last_no rfl (fun K hK=>?_)
     go_step
     obtain ⟨wn,hwn⟩ : ∃ wn,wn = ((((((wr.setCell ⟨g,q.toNat * 6,none⟩ (.bool true)).setCell ⟨g,q.toNat * 6 + 1,none⟩ (.int .i64 (rd l3 j))).setCell ⟨g,q.toNat * 6 + 2,none⟩ (.int .i64 0)).setCell ⟨g,q.toNat * 6 + 3,none⟩ (.int .i64 0)).setCell ⟨g,q.toNat * 6 + 4,none⟩ (.int .i64 (rd l4 j))).setCell ⟨g,q.toNat * 6 + 5,none⟩ (.slice none 0 0)):=⟨_,rfl⟩
     have HSn:=Az.mk (show Kd.S k29 29 wn w2.heap.size (fun k_=>w2.heap.size≤k_) (.slice (some ⟨g,0,none⟩) t2.length c3_) (x.set q.toNat (⟨true,rd l3 j,0,0,rd l4 j,([] : List Int)⟩ : S29)) from by rw [hwn];exact HP.out.1);have HGn:=Az.mk (show wr.grownBy wn (some g) from by rw [hwn];exact HP.out.2);rw [← hwn];have HBn:=Az.mk (pw_below_grown HB.out (some g) (bwZ HB.out) HGn.out (fun k_ e_=>by cases e_;exact HGB.out));clear hwn HP hx0 hx1 hx2 hx3 hx4 hx5 hf0 hf1 hf2 hf3 hf4 hf5 hcp hc3_ hc4_ p1 p2 p3 p4 p5 p6 c1b HGn HS HB;refine hK _ _ ?_;clear hK K;refine Mix.walk_nil ?_
     go_wp2
     go_roundg k1
     case measure=>have:=HK1.out;omega
     case rel=>exact ⟨wrap64 (j + 1),_,rfl,⟨by have:=HK1.out;omega⟩,H',⟨Kd.S_drew HSn.out⟩,⟨below_drew HBn.out⟩⟩
end Go.Proofs.YtbblomnhobodkaaDoor.PTw
namespace Go.Proofs.YtbblomnhobodkaaDoor.PTw
open Go.RowKit Go.Proofs.YtbblomnhobodkaaDoorW.PW Go.Proofs.YtbblomnhobodkaaDoorW.PL Go.Proofs.YtbblomnhobodkaaDoorW.PM
attribute [local go_sem] max2_int min2_int max_two min_two max_three min_three max_four min_four   -- for this text's walks alone
set_option linter.unusedVariables false
set_option linter.unusedSimpArgs false
def w4grown.l0 : Nat→List (S29)→List (S32)→Int→Int→Option ((List (S29)))
 | 0,_,_,_,_=>none
 | k + 1,x5,x13,x14,x15=>if x15 < x14 then (if 0≤x15 then (if x15 < (x13.length : Int) then (if x15≥300 then (some x5) else (if ((rd_T32 x13 x15).f0) = 1 then ((r4Add.f k x5 ((rd_T32 x13 x15).f2.f0) ((rd_T32 x13 x15).f2.f1) ((rd_T32 x13 x15).f2.f2) ((rd_T32 x13 x15).f2.f3) ((rd_T32 x13 x15).f2.f4) ((rd_T32 x13 x15).f2.f5)).bind fun bt525=>(if (bt525.1.length : Int) > 0 then (w4grown.l0 k bt525.1 x13 x14 (wrap64 (x15 + 1))) else (w4grown.l0 k x5 x13 x14 (wrap64 (x15 + 1))))) else (if ((rd_T32 x13 x15).f0) = 2 then ((r4Update.f k x5 ((rd_T32 x13 x15).f1) ((rd_T32 x13 x15).f2.f0) ((rd_T32 x13 x15).f2.f1) ((rd_T32 x13 x15).f2.f2) ((rd_T32 x13 x15).f2.f3) ((rd_T32 x13 x15).f2.f4) ((rd_T32 x13 x15).f2.f5)).bind fun bt530=>(if (bt530.1.length : Int) > 0 then (w4grown.l0 k bt530.1 x13 x14 (wrap64 (x15 + 1))) else (w4grown.l0 k x5 x13 x14 (wrap64 (x15 + 1))))) else (if ((rd_T32 x13 x15).f0) = 3 then ((r4Remove.f k x5 ((rd_T32 x13 x15).f1)).bind fun bt534=>(if (bt534.1.length : Int) > 0 then (w4grown.l0 k bt534.1 x13 x14 (wrap64 (x15 + 1))) else (w4grown.l0 k x5 x13 x14 (wrap64 (x15 + 1))))) else (if ((rd_T32 x13 x15).f0) = 4 then ((w4keys.f k x5 ((rd_T32 x13 x15).f0) ((rd_T32 x13 x15).f1) ((rd_T32 x13 x15).f2.f0) ((rd_T32 x13 x15).f2.f1) ((rd_T32 x13 x15).f2.f2) ((rd_T32 x13 x15).f2.f3) ((rd_T32 x13 x15).f2.f4) ((rd_T32 x13 x15).f2.f5) 0).bind fun t538=>((r4Merge.f k x5 ((rd_T32 x13 x15).f1) ((rd_T32 x13 x15).f2.f0) ((rd_T32 x13 x15).f2.f1) ((rd_T32 x13 x15).f2.f2) ((rd_T32 x13 x15).f2.f3) ((rd_T32 x13 x15).f2.f4) ((rd_T32 x13 x15).f2.f5) t538 t538).bind fun bt541=>(if (bt541.1.length : Int) > 0 then (w4grown.l0 k bt541.1 x13 x14 (wrap64 (x15 + 1))) else (w4grown.l0 k x5 x13 x14 (wrap64 (x15 + 1)))))) else (if (([] : List (S29)).length : Int) > 0 then (w4grown.l0 k ([] : List (S29)) x13 x14 (wrap64 (x15 + 1))) else (w4grown.l0 k x5 x13 x14 (wrap64 (x15 + 1))))))))) else (none)) else (none)) else (some x5)
def w4grown.f (k : Nat) (a0_0 : Bool) (a0_1 : Int) (a0_2 : Int) (a0_3 : Int) (a0_4 : Int) (l0_5 : List Int) (l1 : List (S32)) : Option ((List (S29))):=(r4Leaf.f a0_0 a0_1 a0_2 a0_3 a0_4 l0_5).bind fun bt512=>(w4grown.l0 k (([(⟨bt512.1,bt512.2.1,bt512.2.2.1,bt512.2.2.2.1,bt512.2.2.2.2.1,bt512.2.2.2.2.2⟩ : S29)] : List (S29))) l1 (l1.length : Int) 0)
theorem w4grown.mono_l : ∀ k,(∀ y0 y1 y2 y3,LeO (w4grown.l0 k y0 y1 y2 y3) (w4grown.l0 (k + 1) y0 y1 y2 y3))
 | 0=>fun _ _ _ _ r h=>by simp [w4grown.l0] at h
 | k + 1=>by
  have ih0:=w4grown.mono_l k
  · intro y0 y1 y2 y3
    unfold w4grown.l0
    repeat' first
    | (with_reducible exact ih0 _ _ _ _)
    | (with_reducible exact w4keys.mono _ _ _ _ _ _ _ _ _ _ _)
    | (with_reducible exact r4Add.mono _ _ _ _ _ _ _ _)
    | (with_reducible exact r4Merge.mono _ _ _ _ _ _ _ _ _ _ _)
    | (with_reducible exact r4Remove.mono _ _ _)
    | (with_reducible exact r4Update.mono _ _ _ _ _ _ _ _ _)
    | (with_reducible exact LeO.refl _)
    | (with_reducible exact LeO.none _)
    | (with_reducible refine LeO.ite ?_ ?_)
    | (with_reducible refine LeO.bind ?_ (fun _=>?_))
    | exact ih0 _ _ _ _
    | exact w4keys.mono _ _ _ _ _ _ _ _ _ _ _
    | exact r4Add.mono _ _ _ _ _ _ _ _
    | exact r4Merge.mono _ _ _ _ _ _ _ _ _ _ _
    | exact r4Remove.mono _ _ _
    | exact r4Update.mono _ _ _ _ _ _ _ _ _
    | exact LeO.none _
    | refine LeO.ite ?_ ?_
    | refine LeO.bind ?_ (fun _=>?_)
theorem w4grown.mono : ∀ a0 a1 a2 a3 a4 a5 a6 k,LeO (w4grown.f k a0 a1 a2 a3 a4 a5 a6) (w4grown.f (k + 1) a0 a1 a2 a3 a4 a5 a6):=by
 intro a0 a1 a2 a3 a4 a5 a6 k;have ih0:=w4grown.mono_l k;unfold w4grown.f
 repeat' first
  | (with_reducible exact ih0 _ _ _ _)
  | (with_reducible exact w4keys.mono _ _ _ _ _ _ _ _ _ _ _)
  | (with_reducible exact r4Add.mono _ _ _ _ _ _ _ _)
  | (with_reducible exact r4Merge.mono _ _ _ _ _ _ _ _ _ _ _)
  | (with_reducible exact r4Remove.mono _ _ _)
  | (with_reducible exact r4Update.mono _ _ _ _ _ _ _ _ _)
  | (with_reducible exact LeO.refl _)
  | (with_reducible exact LeO.none _)
  | (with_reducible refine LeO.ite ?_ ?_)
  | (with_reducible refine LeO.bind ?_ (fun _=>?_))
  | exact ih0 _ _ _ _
  | exact w4keys.mono _ _ _ _ _ _ _ _ _ _ _
  | exact r4Add.mono _ _ _ _ _ _ _ _
  | exact r4Merge.mono _ _ _ _ _ _ _ _ _ _ _
  | exact r4Remove.mono _ _ _
  | exact r4Update.mono _ _ _ _ _ _ _ _ _
  | exact LeO.none _
  | refine LeO.ite ?_ ?_
  | refine LeO.bind ?_ (fun _=>?_)
end Go.Proofs.YtbblomnhobodkaaDoor.PTw
namespace Go.Proofs.YtbblomnhobodkaaDoor.PTw
open Go.RowKit Go.Proofs.YtbblomnhobodkaaDoorW.PW Go.Proofs.YtbblomnhobodkaaDoorW.PL Go.Proofs.YtbblomnhobodkaaDoorW.PM
attribute [local go_sem] max2_int min2_int max_two min_two max_three min_three max_four min_four   -- for this text's walks alone
set_option linter.unusedVariables false
set_option linter.unusedSimpArgs false
theorem grown_box {w2 w3 : World} {g t : Nat} {z0 z1 z2 z3 z4 z5 z6 z7 z8 v0 v1 v2 v3 v4 v5 v6 v7 v8 : Value} (hw : w3 = (((((((((w2.setCell ⟨g,0,none⟩ v0).setCell ⟨g,1,none⟩ v1).setCell ⟨g,2,none⟩ v2).setCell ⟨g,3,none⟩ v3).setCell ⟨g,4,none⟩ v4).setCell ⟨g,5,none⟩ v5).setCell ⟨g,6,none⟩ v6).setCell ⟨g,7,none⟩ v7).setCell ⟨g,8,none⟩ v8)) (h : w2.heap[g]? = some (.cells #[z0,z1,z2,z3,z4,z5,z6,z7,z8] t (0,0))) : w3.heap[g]? = some (.cells #[v0,v1,v2,v3,v4,v5,v6,v7,v8] t (0,0)):=by
 subst hw;have h0:=blk_put h 0 v0 (cs':=#[v0,z1,z2,z3,z4,z5,z6,z7,z8]) rfl;have h1:=blk_put h0 1 v1 (cs':=#[v0,v1,z2,z3,z4,z5,z6,z7,z8]) rfl;have h2:=blk_put h1 2 v2 (cs':=#[v0,v1,v2,z3,z4,z5,z6,z7,z8]) rfl;have h3:=blk_put h2 3 v3 (cs':=#[v0,v1,v2,v3,z4,z5,z6,z7,z8]) rfl;have h4:=blk_put h3 4 v4 (cs':=#[v0,v1,v2,v3,v4,z5,z6,z7,z8]) rfl;have h5:=blk_put h4 5 v5 (cs':=#[v0,v1,v2,v3,v4,v5,z6,z7,z8]) rfl;have h6:=blk_put h5 6 v6 (cs':=#[v0,v1,v2,v3,v4,v5,v6,z7,z8]) rfl;have h7:=blk_put h6 7 v7 (cs':=#[v0,v1,v2,v3,v4,v5,v6,v7,z8]) rfl;have h8:=blk_put h7 8 v8 (cs':=#[v0,v1,v2,v3,v4,v5,v6,v7,v8]) rfl;exact h8
theorem grown_below {w w2 w3 : World} {g : Nat} {v0 v1 v2 v3 v4 v5 v6 v7 v8 : Value} (hw : w3 = (((((((((w2.setCell ⟨g,0,none⟩ v0).setCell ⟨g,1,none⟩ v1).setCell ⟨g,2,none⟩ v2).setCell ⟨g,3,none⟩ v3).setCell ⟨g,4,none⟩ v4).setCell ⟨g,5,none⟩ v5).setCell ⟨g,6,none⟩ v6).setCell ⟨g,7,none⟩ v7).setCell ⟨g,8,none⟩ v8)) (hb : Below w.heap.size w w2) (hg : w.heap.size≤g) : Below w.heap.size w w3:=by
 subst hw;exact (bwS (bwS (bwS (bwS (bwS (bwS (bwS (bwS (bwS hb hg) hg) hg) hg) hg) hg) hg) hg) hg)
theorem V_int {w : World} {A : Option Addr} {l : List Int} {c base : Nat} (hl : l.length≤c) (h : (Kd.int .i64).C w A l.length l) : Kd.V (Kd.int .i64) 3 w base (fun _=>True) (.slice A l.length c) l:=Kd.V_mk hl (fun W' hW=>Kd.Heap.C (Kd.heap_int .i64) (fun k_ hk=>hW k_ trivial hk) h)
end Go.Proofs.YtbblomnhobodkaaDoor.PTw
namespace Go.Proofs.YtbblomnhobodkaaDoor.PTw
open Go.RowKit Go.Proofs.YtbblomnhobodkaaDoorW.PW Go.Proofs.YtbblomnhobodkaaDoorW.PL Go.Proofs.YtbblomnhobodkaaDoorW.PM
attribute [local go_sem] max2_int min2_int max_two min_two max_three min_three max_four min_four   -- for this text's walks alone
set_option linter.unusedVariables false
set_option linter.unusedSimpArgs false
set_option maxHeartbeats 8000000 in
set_option maxRecDepth 100000 in
theorem w4grown.calls (k : Nat) (a0_0 : Bool) (a0_1 : Int) (a0_2 : Int) (a0_3 : Int) (a0_4 : Int) (A0_5 : Option Addr) (c0_5 : Nat) (l0_5 : List Int) (P1_ : Nat→Prop) (A1 : Option Addr) (c1 : Nat) (l1 : List (S32)) (r : List (S29)) (w : World) (hr0_5 : Kd.C (Kd.int .i64) w A0_5 l0_5.length l0_5) (hc0_5 : l0_5.length≤c0_5) (hs1 : Kd.V k32 32 w w.heap.size (fun k_=>P1_ k_) (.slice A1 l1.length c1) l1) (h : w4grown.f k a0_0 a0_1 a0_2 a0_3 a0_4 l0_5 l1 = some r) :
 Calls Tryd.prog 18 #[.agg #[.bool a0_0,.int .i64 a0_1,.int .i64 a0_2,.int .i64 a0_3,.int .i64 a0_4,.slice A0_5 l0_5.length c0_5],.slice A1 l1.length c1] w fun e w'=>∃ v0_ : Value,e = .returned (v0_)∧Kd.N k29 29 w' w.heap.size (fun k_=>(P1_ k_∨w.heap.size≤k_)) v0_ r∧Below w.heap.size w w':=by
 have hu29:=Tryd.underlying29;have hu32:=Tryd.underlying32;have HR0_5:=Az.mk hr0_5;have HC0_5:=Az.mk hc0_5;clear hr0_5 hc0_5;have HO1:=Az.mk (show Kd.V k32 32 w w.heap.size (fun k_=>(P1_ k_∨w.heap.size≤k_)) (.slice A1 l1.length c1) l1 from Kd.V_mono hs1 (fun k_ hk=>.inl hk));have HB:=Az.mk (Below.refl w.heap.size w);have H : ((r4Leaf.f a0_0 a0_1 a0_2 a0_3 a0_4 l0_5).bind fun bt512=>(w4grown.l0 k (([(⟨bt512.1,bt512.2.1,bt512.2.2.1,bt512.2.2.2.1,bt512.2.2.2.2.1,bt512.2.2.2.2.2⟩ : S29)] : List (S29))) l1 (l1.length : Int) 0)) = some r:=h;clear h;replace H:=Option.bind_eq_some_iff.mp H;obtain ⟨⟨t512,t513,t514,t515,t516,t517⟩,A30,H⟩:=H;(try dsimp only at H);have A3:=Az.mk A30;clear A30
 obtain ⟨y520,hy520⟩ : ∃ y_ : List (S29),y_ = (([(⟨t512,t513,t514,t515,t516,t517⟩ : S29)] : List (S29))):=⟨_,rfl⟩
 replace H : (w4grown.l0 k y520 l1 (l1.length : Int) 0) = some r:=by first | (rw [hy520];with_reducible exact H) | (have H2_:=(Option.bind_some _ _).symm.trans H;rw [hy520];with_reducible exact H2_) | (have H2_:=(Option.bind_some _ _).symm.trans H;with_reducible exact H2_) | with_reducible exact H | (rw [hy520];exact H) | exact H
 have Ny520:=Az.mk hy520;clear hy520;have H':=Az.mk H;clear H
 go_enter Tryd.func18,Tryd.ntmps18
 go_wp2_with (first | ((with_reducible refine gate_dst (N:=2) rfl ?_);refine box_event ?hg (N:=2) ?hd (cs:=#[.bool a0_0,.int .i64 a0_1,.int .i64 a0_2,.int .i64 a0_3,.int .i64 a0_4,.slice A0_5 l0_5.length c0_5]) (t:=29) ?hr ?_;(case hd=>rfl);(case hg=>rfl);(case hr=>exact gr_);intro gb511 hg w4 hbox hb;have BK511:=Az.mk (hbox);have GW511:=Az.mk ((by rw [hg];exact (bwZ (by repeat (first | (with_reducible first | exact HB.out | apply bwA | apply bwN | apply bw1) | exact HB.out))) : w.heap.size≤gb511));have GE511:=Az.mk ((by rw [hg];exact (bwZ (by repeat (first | (with_reducible first | exact HB.out | apply bwA | apply bwN | apply bw1) | exact HB.out))) : w.heap.size≤gb511));replace HO1:=Az.mk (Kd.V_below (Kd.V_elderB (by (with_reducible repeat (first | apply Kd.V_alloc | apply Kd.V_drewN | apply Kd.V_drew));exact HO1.out) gb511 (Nat.le_of_eq hg.symm)) hb);replace HB:=Az.mk (bwT (by repeat (first | (with_reducible first | exact HB.out | apply bwA | apply bwN | apply bw1) | exact HB.out)) hb);clear hb hbox hg;have hcz5_0 : w4.cell? ⟨gb511,0,none⟩ = some (.bool a0_0):=(kC BK511.out 0).trans rfl;have hcz5_1 : w4.cell? ⟨gb511,1,none⟩ = some (.int .i64 a0_1):=(kC BK511.out 1).trans rfl;have hcz5_2 : w4.cell? ⟨gb511,2,none⟩ = some (.int .i64 a0_2):=(kC BK511.out 2).trans rfl;have hcz5_3 : w4.cell? ⟨gb511,3,none⟩ = some (.int .i64 a0_3):=(kC BK511.out 3).trans rfl;have hcz5_4 : w4.cell? ⟨gb511,4,none⟩ = some (.int .i64 a0_4):=(kC BK511.out 4).trans rfl;have hcz5_5 : w4.cell? ⟨gb511,5,none⟩ = some (.slice A0_5 l0_5.length c0_5):=(kC BK511.out 5).trans rfl;have hfz5_0:=kF BK511.out 0;have hfz5_1:=kF BK511.out 1;have hfz5_2:=kF BK511.out 2;have hfz5_3:=kF BK511.out 3;have hfz5_4:=kF BK511.out 4;have hfz5_5:=kF BK511.out 5) | ((with_reducible refine gate_callee (f:=35) rfl ?_);refine goesL_ (some 11) rfl rfl Tryd.func35 (by kernel_rfl) rfl #[.agg #[.bool a0_0,.int .i64 a0_1,.int .i64 a0_2,.int .i64 a0_3,.int .i64 a0_4,.slice A0_5 l0_5.length c0_5]] rfl tl_ ?_;(with_reducible refine (r4Leaf.calls a0_0 a0_1 a0_2 a0_3 a0_4 _ _ l0_5 t512 t513 t514 t515 t516 t517 _ ?side1 ?side2 A3.out).mono ?_);(case side1=>repeat (first | exact (Kd.C_below HR0_5.out HB.out) | (with_reducible refine Kd.C_alloc ?_ _) | (with_reducible refine Kd.C_drewN ?_ _) | (with_reducible refine Kd.C_drew ?_)));(case side2=>exact HC0_5.out);rintro e w6 ⟨v518,rfl,ho0,hb⟩;refine ⟨_,rfl,?_⟩;obtain ⟨Av_,cv_,hv_⟩:=Kd.R_slice ho0;have HV518:=Az.mk hv_;clear hv_;have HO519:=Az.mk (Kd.R_lower (Kd.R_newM (M:=fun k_=>(w.heap.size≤k_)) ho0 (bwZ (by repeat (first | (with_reducible first | exact HB.out | apply bwA | apply bwN | apply bw1 | refine bwS ?_ GE511.out) | exact HB.out))) (fun k_ h_=>h_)) (bwZ (by repeat (first | (with_reducible first | exact HB.out | apply bwA | apply bwN | apply bw1 | refine bwS ?_ GE511.out) | exact HB.out))));replace HO1:=Az.mk (Kd.V_elder' (by (with_reducible repeat (first | apply Kd.V_alloc | apply Kd.V_drewN | apply Kd.V_drew));exact HO1.out) (Kd.R_base ho0) hb);replace BK511:=Az.mk (kB (g:=gb511) (o:=.cells #[.bool a0_0,.int .i64 a0_1,.int .i64 a0_2,.int .i64 a0_3,.int .i64 a0_4,.slice A0_5 l0_5.length c0_5] 29 (0,0)) (by (with_reducible repeat (first | refine kN ?_ _ | refine kD ?_ | refine kA ?_ _));exact BK511.out) hb);replace HB:=Az.mk (bwT (by repeat (first | (with_reducible first | exact HB.out | apply bwA | apply bwN | apply bw1 | refine bwS ?_ GE511.out) | exact HB.out)) hb);(try clear hb);(try clear hb2);(try clear hk);(try clear hi);(try clear ho0);obtain ⟨Ao7,co7,eo7⟩:=Kd.R_slice HO519.out;subst eo7) | ((with_reducible refine gate_dst (N:=12) rfl ?_);refine Kd.N_lit k29 _ 29 ?hg (N':=12) ?hd (xs:=([(⟨t512,t513,t514,t515,t516,t517⟩ : S29)] : List (S29))) (inner:=[.bool t512,.int .i64 t513,.int .i64 t514,.int .i64 t515,.int .i64 t516,.slice Ao7 t517.length co7]) (ok:=(fun k_=>(P1_ k_∨w.heap.size≤k_)∧k_≠gb511)) (okp:=(fun k_=>(P1_ k_∨w.heap.size≤k_)∧k_≠gb511)) ?hr ?hp (fun _ hk=>hk) ((show ∀ k_,w6.heap.size≤k_→(fun k_=>(P1_ k_∨w.heap.size≤k_)∧k_≠gb511) k_ from fun k_ hk=>⟨(.inr (Nat.le_trans (bwZ (by repeat (first | (with_reducible first | exact HB.out | apply bwA | apply bwN | apply bw1 | refine bwS ?_ GE511.out) | exact HB.out))) hk)),Kd.freshB (g:=gb511) (o:=.cells #[.bool a0_0,.int .i64 a0_1,.int .i64 a0_2,.int .i64 a0_3,.int .i64 a0_4,.slice A0_5 l0_5.length c0_5] 29 (0,0)) (by (with_reducible repeat (first | refine kN ?_ _ | refine kD ?_ | refine kA ?_ _));exact BK511.out) k_ hk⟩) _ (Nat.le_refl _)) (Below.refl _ _) (Nat.le_refl _) (by simp) ?_;(case hd=>rfl);(case hg=>rfl);(case hr=>exact gr_);(case hp=>exact (Reps.c6 (show Kd.FK k29 _ _ (⟨t512,t513,t514,t515,t516,t517⟩ : S29) [.bool t512,.int .i64 t513,.int .i64 t514,.int .i64 t515,.int .i64 t516,.slice Ao7 t517.length co7] from (k29_mkF _ _ (⟨t512,t513,t514,t515,t516,t517⟩ : S29) (Kd.R_reads' (Kd.R_mono (ok':=(fun k_=>(P1_ k_∨w.heap.size≤k_)∧k_≠gb511)) (Kd.R_types (HO519.out) BK511.out (by decide)) (fun k_ hk=>⟨(.inr (hk.1.1)),hk.2⟩))).2.1 (Kd.R_F (Kd.R_mono (ok':=(fun k_=>(P1_ k_∨w.heap.size≤k_)∧k_≠gb511)) (Kd.R_types (HO519.out) BK511.out (by decide)) (fun k_ hk=>⟨(.inr (hk.1.1)),hk.2⟩))))) (Reps.none _ _)));intro v521 w8 ho9 hb hg_ hnew_;clear hg_ hnew_;(first | rw [← Ny520.out] at ho9 | (simp only [Int.reduceToNat] at ho9;rw [← Ny520.out] at ho9));have HO522:=Az.mk (Kd.N_lower ho9 (bwZ (by repeat (first | (with_reducible first | exact HB.out | apply bwA | apply bwN | apply bw1 | refine bwS ?_ GE511.out) | exact HB.out))));replace HO1:=Az.mk (Kd.V_elder' (by (with_reducible repeat (first | apply Kd.V_alloc | apply Kd.V_drewN | apply Kd.V_drew));exact HO1.out) (Kd.N_base ho9) hb);replace BK511:=Az.mk (kB (g:=gb511) (o:=.cells #[.bool a0_0,.int .i64 a0_1,.int .i64 a0_2,.int .i64 a0_3,.int .i64 a0_4,.slice A0_5 l0_5.length c0_5] 29 (0,0)) (by (with_reducible repeat (first | refine kN ?_ _ | refine kD ?_ | refine kA ?_ _));exact BK511.out) hb);replace HB:=Az.mk (bwT (by repeat (first | (with_reducible first | exact HB.out | apply bwA | apply bwN | apply bw1 | refine bwS ?_ GE511.out) | exact HB.out)) hb);clear HO519;clear hb ho9))
 go_loopg [5,15] k (fun kq v5 v15 w'=>∃ (x5_1 : List (S29)) (x15_1 : Int),v15 = .int .i64 x15_1∧Az (w4grown.l0 kq x5_1 l1 (l1.length : Int) x15_1 = some r)∧Az (kq≤k)∧Az (Kd.N k29 29 w' w.heap.size (fun k_=>(P1_ k_∨w.heap.size≤k_)) v5 x5_1)∧Az (Kd.C k32 w' A1 l1.length l1)∧Az (Below w.heap.size w w'))
 case atStart=>exact ⟨y520,0,rfl,H',⟨Nat.le_refl _⟩,⟨by (with_reducible repeat (first | apply Kd.N_alloc | apply Kd.N_drewN | apply Kd.N_drew));exact Kd.N_mono HO522.out (fun _ h_=>h_.1)⟩,⟨by (with_reducible repeat (first | refine Kd.C_alloc ?_ _ | refine Kd.C_drewN ?_ _ | refine Kd.C_drew ?_));exact (Kd.V_reads' HO1.out).2.2⟩,⟨by repeat (first | (with_reducible first | exact HB.out | apply bwA | apply bwN | apply bw1))⟩⟩
 case round=>
  clear H' HO1 HO522 BK511 HB;obtain ⟨x5,x15,rfl,HA,HK1,HN,HCS,HB⟩:=hrel
  cases gk with
  | zero=>exact absurd HA.out (by simp [w4grown.l0])
  | succ k1=>
   have H:=HA.out;clear HA;simp only [w4grown.l0] at H;obtain ⟨A5,c5,rfl⟩:=Kd.N_slice HN.out;have HX5:=Az.mk (Kd.N_reads' HN.out).2.2;have HL5:=Az.mk (Kd.N_reads' HN.out).2.1
   by_cases c1 : x15 < (l1.length : Int)
   case neg=>
    rw [if_neg c1] at H;have c1b : decide (x15 < (l1.length : Int)) = false:=decide_eq_false c1;obtain rfl:=Option.some.inj H;clear c1 H
    go_wp2
    go_ret
    exact ⟨_,rfl,by (with_reducible repeat (first | apply Kd.N_alloc | apply Kd.N_drewN | apply Kd.N_drew));exact HN.out,by repeat (first | (with_reducible first | exact HB.out | apply bwA | apply bwN | apply bw1))⟩
   rw [if_pos c1] at H
   by_cases c2 : 0≤x15
   case neg=>rw [if_neg c2] at H;cases H
   rw [if_pos c2,if_pos c1] at H;have H':=Az.mk H;clear H;have c1b : decide (x15 < (l1.length : Int)) = true:=decide_eq_true c1;obtain ⟨ad,A7,c7,e0,hx0,hx1,hx2,hx3,hx4,hx5,hx6,hx7,hx8,hl7,hi7⟩:=at_T32 HCS.out x15 c2 c1;cases e0;have p1:=eq_true c1;have p2:=eq_true c2;have HL7:=Az.mk hl7;have HI7:=Az.mk hi7;clear hl7 hi7 c1 c2
   generalize hq : rd_T32 l1 x15 = q at *
   clear hq
   go_upto_region 5 with (first
    | ((with_reducible refine gate_dst (N:=7) rfl ?_);refine box_event ?hg (N:=7) ?hd (cs:=#[.int .i64 0,.int .i64 0,.bool false,.int .i64 0,.int .i64 0,.int .i64 0,.int .i64 0,.slice none 0 0,.int .i64 0]) (t:=32) ?hr ?_;(case hd=>rfl);(case hg=>rfl);(case hr=>exact gr_);intro g hg w2 hbox hb;have BK:=Az.mk hbox;have HB2:=Az.mk (show Below wr.heap.size wr w2 from hb);have GE:=Az.mk (show wr.heap.size≤g from Nat.le_of_eq hg.symm);clear hb hbox hg;have hcz0 : w2.cell? ⟨g,0,none⟩ = some (.int .i64 0):=(kC BK.out 0).trans rfl;have hcz1 : w2.cell? ⟨g,1,none⟩ = some (.int .i64 0):=(kC BK.out 1).trans rfl;have hcz2 : w2.cell? ⟨g,2,none⟩ = some (.bool false):=(kC BK.out 2).trans rfl;have hcz3 : w2.cell? ⟨g,3,none⟩ = some (.int .i64 0):=(kC BK.out 3).trans rfl;have hcz4 : w2.cell? ⟨g,4,none⟩ = some (.int .i64 0):=(kC BK.out 4).trans rfl;have hcz5 : w2.cell? ⟨g,5,none⟩ = some (.int .i64 0):=(kC BK.out 5).trans rfl;have hcz6 : w2.cell? ⟨g,6,none⟩ = some (.int .i64 0):=(kC BK.out 6).trans rfl;have hcz7 : w2.cell? ⟨g,7,none⟩ = some (.slice none 0 0):=(kC BK.out 7).trans rfl;have hcz8 : w2.cell? ⟨g,8,none⟩ = some (.int .i64 0):=(kC BK.out 8).trans rfl;have hfz0:=kF BK.out 0;have hfz1:=kF BK.out 1;have hfz2:=kF BK.out 2;have hfz3:=kF BK.out 3;have hfz4:=kF BK.out 4;have hfz5:=kF BK.out 5;have hfz6:=kF BK.out 6;have hfz7:=kF BK.out 7;have hfz8:=kF BK.out 8)
    | ((with_reducible refine gate_store (t:=32) (p:=7) rfl ?_);refine store_event (t:=32) (p:=7) (v:=?vo_w23) (w1:=(((((((((w2.setCell ⟨g,0,none⟩ (.int .i64 q.f0)).setCell ⟨g,1,none⟩ (.int .i64 q.f1)).setCell ⟨g,2,none⟩ (.bool q.f2.f0)).setCell ⟨g,3,none⟩ (.int .i64 q.f2.f1)).setCell ⟨g,4,none⟩ (.int .i64 q.f2.f2)).setCell ⟨g,5,none⟩ (.int .i64 q.f2.f3)).setCell ⟨g,6,none⟩ (.int .i64 q.f2.f4)).setCell ⟨g,7,none⟩ (.slice A7 q.f2.f5.length c7)).setCell ⟨g,8,none⟩ (.int .i64 q.f3))) ?hg ?ho ?hn ?hr ?_;(case ho=>rfl);(case hg=>rfl);(case hn=>rfl);(case hr=>first | (go_simp;done) | (go_simp;rfl));intro w3 hw;have BK3:=Az.mk (grown_box hw BK.out);have HB3:=Az.mk (grown_below hw HB2.out GE.out);clear hw hcz0 hcz1 hcz2 hcz3 hcz4 hcz5 hcz6 hcz7 hcz8 hfz0 hfz1 hfz2 hfz3 hfz4 hfz5 hfz6 hfz7 hfz8 BK HB2))
   clear hx0 hx1 hx2 hx3 hx4 hx5 hx6 hx7 hx8 hs1 HR0_5 HC0_5 A3 Ny520 HV518 GW511 GE511;clear hcz5_0 hcz5_1 hcz5_2 hcz5_3 hcz5_4 hcz5_5 hfz5_0 hfz5_1 hfz5_2 hfz5_3 hfz5_4 hfz5_5 p1 p2;have HX3:=Az.mk (Kd.C_below HX5.out HB3.out);have HI3:=Az.mk (Kd.C_below HI7.out HB3.out);have HS3:=Az.mk (Kd.C_below HCS.out HB3.out);have HX6:=HX5;have HI6:=HI7;clear HX5 HI7;have H:=H'.out;clear H'
   by_cases c3 : x15≥300
   case pos=>
    rw [if_pos c3] at H;obtain rfl:=Option.some.inj H;have c3b : decide (300≤x15) = true:=decide_eq_true c3;clear c3 H
    go_wp2
    go_ret
    exact ⟨_,rfl,by (with_reducible repeat (first | apply Kd.N_alloc | apply Kd.N_drewN | apply Kd.N_drew));exact Kd.N_below HN.out HB3.out,by repeat (first | (with_reducible first | exact (bwT HB.out HB3.out) | apply bwA | apply bwN | apply bw1))⟩
   rw [if_neg c3] at H;have c3b : decide (300≤x15) = false:=decide_eq_false c3;have HH:=Az.mk H;clear c3 H;have hy0 : w3.cell? ⟨g,0,none⟩ = some (.int .i64 q.f0):=(kC BK3.out 0).trans rfl;have hy1 : w3.cell? ⟨g,1,none⟩ = some (.int .i64 q.f1):=(kC BK3.out 1).trans rfl;have hy2 : w3.cell? ⟨g,2,none⟩ = some (.bool q.f2.f0):=(kC BK3.out 2).trans rfl;have hy3 : w3.cell? ⟨g,3,none⟩ = some (.int .i64 q.f2.f1):=(kC BK3.out 3).trans rfl;have hy4 : w3.cell? ⟨g,4,none⟩ = some (.int .i64 q.f2.f2):=(kC BK3.out 4).trans rfl;have hy5 : w3.cell? ⟨g,5,none⟩ = some (.int .i64 q.f2.f3):=(kC BK3.out 5).trans rfl;have hy6 : w3.cell? ⟨g,6,none⟩ = some (.int .i64 q.f2.f4):=(kC BK3.out 6).trans rfl;have hy7 : w3.cell? ⟨g,7,none⟩ = some (.slice A7 q.f2.f5.length c7):=(kC BK3.out 7).trans rfl;have hy8 : w3.cell? ⟨g,8,none⟩ = some (.int .i64 q.f3):=(kC BK3.out 8).trans rfl;have hfy8:=kF BK3.out 8
   go_upto_block 2 with fail
   go_cut [8] (fun v8 wx=>∃ x8 : List S29,Az (Kd.N k29 29 wx wr.heap.size (fun k_=>wr.heap.size≤k_) v8 x8)∧Az (Below wr.heap.size wr wx)∧Az ((if (x8.length : Int) > 0 then w4grown.l0 k1 x8 l1 (l1.length : Int) (wrap64 (x15 + 1)) else w4grown.l0 k1 x5 l1 (l1.length : Int) (wrap64 (x15 + 1))) = some r))
   case first=>as_aux_lemma=>
    have H:=HH.out;clear HH
    by_cases q1 : q.f0 = 1
    case pos=>
     rw [if_pos q1] at H;obtain ⟨⟨t,t2,t3⟩,A90,H⟩:=Option.bind_eq_some_iff.mp H;have A9:=Az.mk A90;have HH:=Az.mk H;have q1b : (q.f0 == 1) = true:=beq_iff_eq.mpr q1;clear A90 H q1
     go_wp2_with (go_at_call 20;(with_reducible refine (r4Add.calls k1 A5 c5 x5 q.f2.f0 q.f2.f1 q.f2.f2 q.f2.f3 q.f2.f4 (fun _=>True) A7 c7 q.f2.f5 t t2 t3 _ (by repeat (first | (with_reducible exact HX3.out) | (with_reducible refine Kd.C_alloc ?_ _) | (with_reducible refine Kd.C_drewN ?_ _) | (with_reducible refine Kd.C_drew ?_))) HL5.out (V_int HL7.out (by repeat (first | (with_reducible exact HI3.out) | (with_reducible refine Kd.C_alloc ?_ _) | (with_reducible refine Kd.C_drewN ?_ _) | (with_reducible refine Kd.C_drew ?_)))) A9.out).mono ?_);rintro e w4 ⟨v8,rfl,hS,hb⟩;have HS4:=Az.mk hS;have HB4:=Az.mk (bwT (by repeat (first | (with_reducible first | exact HB3.out | apply bwA | apply bwN | apply bw1))) hb);have HZ:=Az.mk (bwZ (by repeat (first | (with_reducible first | exact HB3.out | apply bwA | apply bwN | apply bw1))));clear hS hb)
     go_meet
     exact ⟨t,⟨Kd.N_mono (Kd.N_lower (Kd.S_N HS4.out) HZ.out) (fun k_ hk=>Nat.le_trans HZ.out hk)⟩,HB4,HH⟩
    rw [if_neg q1] at H;have q1b : (q.f0 == 1) = false:=beq_eq_false_iff_ne.mpr q1;clear q1
    by_cases q2 : q.f0 = 2
    case pos=>
     rw [if_pos q2] at H;obtain ⟨⟨t,t2⟩,A90,H⟩:=Option.bind_eq_some_iff.mp H;have A9:=Az.mk A90;have HH:=Az.mk H;have q2b : (q.f0 == 2) = true:=beq_iff_eq.mpr q2;clear A90 H q2
     go_wp2_with (go_at_call 47;(with_reducible refine (r4Update.calls k1 A5 c5 x5 q.f1 q.f2.f0 q.f2.f1 q.f2.f2 q.f2.f3 q.f2.f4 A7 c7 q.f2.f5 t t2 _ (by repeat (first | (with_reducible exact HX3.out) | (with_reducible refine Kd.C_alloc ?_ _) | (with_reducible refine Kd.C_drewN ?_ _) | (with_reducible refine Kd.C_drew ?_))) HL5.out (by repeat (first | (with_reducible exact HI3.out) | (with_reducible refine Kd.C_alloc ?_ _) | (with_reducible refine Kd.C_drewN ?_ _) | (with_reducible refine Kd.C_drew ?_))) HL7.out A9.out).mono ?_);rintro e w4 ⟨v8,rfl,hS,hb⟩;have HS4:=Az.mk hS;have HB4:=Az.mk (bwT (by repeat (first | (with_reducible first | exact HB3.out | apply bwA | apply bwN | apply bw1))) hb);have HZ:=Az.mk (bwZ (by repeat (first | (with_reducible first | exact HB3.out | apply bwA | apply bwN | apply bw1))));clear hS hb)
     go_meet
     exact ⟨t,⟨Kd.N_mono (Kd.N_lower (Kd.S_N (Kd.S_bound HS4.out)) HZ.out) (fun k_ hk=>Nat.le_trans HZ.out hk.2.1)⟩,HB4,HH⟩
    rw [if_neg q2] at H;have q2b : (q.f0 == 2) = false:=beq_eq_false_iff_ne.mpr q2;clear q2
    by_cases q3 : q.f0 = 3
    case pos=>
     rw [if_pos q3] at H;obtain ⟨⟨t,t2⟩,A90,H⟩:=Option.bind_eq_some_iff.mp H;have A9:=Az.mk A90;have HH:=Az.mk H;have q3b : (q.f0 == 3) = true:=beq_iff_eq.mpr q3;clear A90 H q3
     go_wp2_with (go_at_call 48;(with_reducible refine (r4Remove.calls k1 A5 c5 x5 q.f1 t t2 _ (by repeat (first | (with_reducible exact HX3.out) | (with_reducible refine Kd.C_alloc ?_ _) | (with_reducible refine Kd.C_drewN ?_ _) | (with_reducible refine Kd.C_drew ?_))) HL5.out A9.out).mono ?_);rintro e w4 ⟨v8,rfl,hS,hb⟩;have HS4:=Az.mk hS;have HB4:=Az.mk (bwT (by repeat (first | (with_reducible first | exact HB3.out | apply bwA | apply bwN | apply bw1))) hb);have HZ:=Az.mk (bwZ (by repeat (first | (with_reducible first | exact HB3.out | apply bwA | apply bwN | apply bw1))));clear hS hb)
     go_meet
     exact ⟨t,⟨Kd.N_mono (Kd.N_lower (Kd.S_N (Kd.S_bound HS4.out)) HZ.out) (fun k_ hk=>Nat.le_trans HZ.out hk.2.1)⟩,HB4,HH⟩
    rw [if_neg q3] at H;have q3b : (q.f0 == 3) = false:=beq_eq_false_iff_ne.mpr q3;clear q3
    by_cases q4 : q.f0 = 4
    case neg=>
     rw [if_neg q4] at H;have q4b : (q.f0 == 4) = false:=beq_eq_false_iff_ne.mpr q4;have HH:=Az.mk H;clear H q4
     go_wp2
     go_meet
     exact ⟨[],⟨Kd.N_nil _ _ _ _ _⟩,⟨(by repeat (first | (with_reducible first | exact HB3.out | apply bwA | apply bwN | apply bw1)))⟩,HH⟩
    rw [if_pos q4] at H;obtain ⟨ks,A80,H⟩:=Option.bind_eq_some_iff.mp H;obtain ⟨⟨t,t2⟩,A90,H⟩:=Option.bind_eq_some_iff.mp H;have A8:=Az.mk A80;have A9:=Az.mk A90;have HH:=Az.mk H;have q4b : (q.f0 == 4) = true:=beq_iff_eq.mpr q4;clear A80 A90 H q4
    go_upto_region 16 with ((with_reducible refine gate_store (t:=3) (p:=56) rfl ?_);refine store_event (t:=3) (p:=56) (v:=?vo_w24) (w1:=(w3.setCell ⟨g,8,none⟩ (.int .i64 0))) ?hg ?ho ?hn ?hr ?_;(case ho=>rfl);(case hg=>rfl);(case hn=>rfl);(case hr=>first | (go_simp;done) | (go_simp;rfl));intro w5 hw;have BK5:=Az.mk (show w5.heap[g]? = some (.cells #[.int .i64 q.f0,.int .i64 q.f1,.bool q.f2.f0,.int .i64 q.f2.f1,.int .i64 q.f2.f2,.int .i64 q.f2.f3,.int .i64 q.f2.f4,.slice A7 q.f2.f5.length c7,.int .i64 0] 32 (0,0)) from by rw [hw];exact blk_put BK3.out 8 _ rfl);have HB5:=Az.mk (show Below wr.heap.size wr w5 from by rw [hw];exact bwS HB3.out GE.out);clear hw)
    clear hy0 hy1 hy2 hy3 hy4 hy5 hy6 hy7 hy8 hfy8 HX3 HI3 HS3 BK3 HB3;have HX3:=Az.mk (Kd.C_below HX6.out HB5.out);have HI3:=Az.mk (Kd.C_below HI6.out HB5.out);have HB3:=HB5;have hz0 : w5.cell? ⟨g,0,none⟩ = some (.int .i64 q.f0):=(kC BK5.out 0).trans rfl;have hz1 : w5.cell? ⟨g,1,none⟩ = some (.int .i64 q.f1):=(kC BK5.out 1).trans rfl;have hz2 : w5.cell? ⟨g,2,none⟩ = some (.bool q.f2.f0):=(kC BK5.out 2).trans rfl;have hz3 : w5.cell? ⟨g,3,none⟩ = some (.int .i64 q.f2.f1):=(kC BK5.out 3).trans rfl;have hz4 : w5.cell? ⟨g,4,none⟩ = some (.int .i64 q.f2.f2):=(kC BK5.out 4).trans rfl;have hz5 : w5.cell? ⟨g,5,none⟩ = some (.int .i64 q.f2.f3):=(kC BK5.out 5).trans rfl;have hz6 : w5.cell? ⟨g,6,none⟩ = some (.int .i64 q.f2.f4):=(kC BK5.out 6).trans rfl;have hz7 : w5.cell? ⟨g,7,none⟩ = some (.slice A7 q.f2.f5.length c7):=(kC BK5.out 7).trans rfl;have hz8 : w5.cell? ⟨g,8,none⟩ = some (.int .i64 0):=(kC BK5.out 8).trans rfl
    go_upto_region 17 with (go_at_call 39;(with_reducible refine (w4keys.calls k1 A5 c5 x5 q.f0 q.f1 q.f2.f0 q.f2.f1 q.f2.f2 q.f2.f3 q.f2.f4 A7 c7 q.f2.f5 0 ks _ (by repeat (first | (with_reducible exact HX3.out) | (with_reducible refine Kd.C_alloc ?_ _) | (with_reducible refine Kd.C_drewN ?_ _) | (with_reducible refine Kd.C_drew ?_))) HL5.out (by repeat (first | (with_reducible exact HI3.out) | (with_reducible refine Kd.C_alloc ?_ _) | (with_reducible refine Kd.C_drewN ?_ _) | (with_reducible refine Kd.C_drew ?_))) HL7.out A8.out).mono ?_);rintro e w6 ⟨v9,rfl,hR,hb⟩;have HR6:=Az.mk hR;have BK6:=Az.mk (kB BK5.out hb);have HB6:=Az.mk (bwT (by repeat (first | (with_reducible first | exact HB3.out | apply bwA | apply bwN | apply bw1))) hb);clear hR hb)
    clear hz0 hz1 hz2 hz3 hz4 hz5 hz6 hz7 hz8 HX3 HI3 HB3 HB5 BK5;have HX3:=Az.mk (Kd.C_below HX6.out HB6.out);have HI3:=Az.mk (Kd.C_below HI6.out HB6.out);have HB3:=HB6;obtain ⟨Ak,ck,rfl⟩:=Kd.R_slice HR6.out;have HK6:=Az.mk (Kd.R_reads' HR6.out).2.2;have HKL:=Az.mk (Kd.R_reads' HR6.out).2.1;have hu0 : w6.cell? ⟨g,0,none⟩ = some (.int .i64 q.f0):=(kC BK6.out 0).trans rfl;have hu1 : w6.cell? ⟨g,1,none⟩ = some (.int .i64 q.f1):=(kC BK6.out 1).trans rfl;have hu2 : w6.cell? ⟨g,2,none⟩ = some (.bool q.f2.f0):=(kC BK6.out 2).trans rfl;have hu3 : w6.cell? ⟨g,3,none⟩ = some (.int .i64 q.f2.f1):=(kC BK6.out 3).trans rfl;have hu4 : w6.cell? ⟨g,4,none⟩ = some (.int .i64 q.f2.f2):=(kC BK6.out 4).trans rfl;have hu5 : w6.cell? ⟨g,5,none⟩ = some (.int .i64 q.f2.f3):=(kC BK6.out 5).trans rfl;have hu6 : w6.cell? ⟨g,6,none⟩ = some (.int .i64 q.f2.f4):=(kC BK6.out 6).trans rfl;have hu7 : w6.cell? ⟨g,7,none⟩ = some (.slice A7 q.f2.f5.length c7):=(kC BK6.out 7).trans rfl;have hu8 : w6.cell? ⟨g,8,none⟩ = some (.int .i64 0):=(kC BK6.out 8).trans rfl
    go_wp2_with (go_at_call 49;(with_reducible refine (r4Merge.calls k1 A5 c5 x5 q.f1 q.f2.f0 q.f2.f1 q.f2.f2 q.f2.f3 q.f2.f4 (fun _=>True) A7 c7 q.f2.f5 Ak ck ks Ak ck ks t t2 _ (by repeat (first | (with_reducible exact HX3.out) | (with_reducible refine Kd.C_alloc ?_ _) | (with_reducible refine Kd.C_drewN ?_ _) | (with_reducible refine Kd.C_drew ?_))) HL5.out (V_int HL7.out (by repeat (first | (with_reducible exact HI3.out) | (with_reducible refine Kd.C_alloc ?_ _) | (with_reducible refine Kd.C_drewN ?_ _) | (with_reducible refine Kd.C_drew ?_)))) (by repeat (first | (with_reducible exact HK6.out) | (with_reducible refine Kd.C_alloc ?_ _) | (with_reducible refine Kd.C_drewN ?_ _) | (with_reducible refine Kd.C_drew ?_))) HKL.out (by repeat (first | (with_reducible exact HK6.out) | (with_reducible refine Kd.C_alloc ?_ _) | (with_reducible refine Kd.C_drewN ?_ _) | (with_reducible refine Kd.C_drew ?_))) HKL.out A9.out).mono ?_);rintro e w4 ⟨v8,rfl,hS,hb⟩;have HS4:=Az.mk hS;have HB4:=Az.mk (bwT (by repeat (first | (with_reducible first | exact HB3.out | apply bwA | apply bwN | apply bw1))) hb);have HZ:=Az.mk (bwZ (by repeat (first | (with_reducible first | exact HB3.out | apply bwA | apply bwN | apply bw1))));clear hS hb)
    go_meet
    exact ⟨t,⟨Kd.N_mono (Kd.N_lower (Kd.S_N HS4.out) HZ.out) (fun k_ hk=>Nat.le_trans HZ.out hk)⟩,HB4,HH⟩
   case rest=>
   obtain ⟨x8,HN8,HB8,HH⟩:=hcut;clear hy0 hy1 hy2 hy3 hy4 hy5 hy6 hy7 hy8 hfy8 HX3 HI3 HS3 BK3 HB3;have H:=HH.out;clear HH;obtain ⟨A8,c8,rfl⟩:=Kd.N_slice HN8.out
   by_cases c9 : (x8.length : Int) > 0
   · rw [if_pos c9] at H
     have HH:=Az.mk H;have c9b : decide (0 < (x8.length : Int)) = true:=decide_eq_true c9;have c9n : decide (0 < x8.length) = true:=decide_eq_true (by omega);clear c9 H
     go_wp2
     go_roundg k1
     case measure=>have:=HK1.out;omega
     case rel=>exact ⟨x8,wrap64 (x15 + 1),rs_,HH,⟨by have:=HK1.out;omega⟩,⟨by (with_reducible repeat (first | apply Kd.N_alloc | apply Kd.N_drewN | apply Kd.N_drew));exact Kd.N_mono (Kd.N_lower HN8.out (bwZ HB.out)) (fun k_ hk=>.inr (Nat.le_trans (bwZ HB.out) hk))⟩,⟨by (with_reducible repeat (first | refine Kd.C_alloc ?_ _ | refine Kd.C_drewN ?_ _ | refine Kd.C_drew ?_));exact Kd.C_below HCS.out HB8.out⟩,⟨by repeat (first | (with_reducible first | exact (bwT HB.out HB8.out) | apply bwA | apply bwN | apply bw1))⟩⟩
   · rw [if_neg c9] at H
     have HH:=Az.mk H;have c9b : decide (0 < (x8.length : Int)) = false:=decide_eq_false c9;have c9n : decide (0 < x8.length) = false:=decide_eq_false (by omega);clear c9 H
     go_wp2
     go_roundg k1
     case measure=>have:=HK1.out;omega
     case rel=>exact ⟨x5,wrap64 (x15 + 1),rs_,HH,⟨by have:=HK1.out;omega⟩,⟨by (with_reducible repeat (first | apply Kd.N_alloc | apply Kd.N_drewN | apply Kd.N_drew));exact Kd.N_below HN.out HB8.out⟩,⟨by (with_reducible repeat (first | refine Kd.C_alloc ?_ _ | refine Kd.C_drewN ?_ _ | refine Kd.C_drew ?_));exact Kd.C_below HCS.out HB8.out⟩,⟨by repeat (first | (with_reducible first | exact (bwT HB.out HB8.out) | apply bwA | apply bwN | apply bw1))⟩⟩
end Go.Proofs.YtbblomnhobodkaaDoor.PTw
namespace Go.Proofs.YtbblomnhobodkaaDoor.PTw
open Go.RowKit Go.Proofs.YtbblomnhobodkaaDoorW.PW Go.Proofs.YtbblomnhobodkaaDoorW.PL Go.Proofs.YtbblomnhobodkaaDoorW.PM
attribute [local go_sem] max2_int min2_int max_two min_two max_three min_three max_four min_four   -- for this text's walks alone
set_option linter.unusedVariables false
set_option linter.unusedSimpArgs false
structure WfOp (o : S32) : Prop where
 f0 : (Lit.int .i64 o.f0).wf = true
 f1 : (Lit.int .i64 o.f1).wf = true
 v1 : (Lit.int .i64 o.f2.f1).wf = true
 v2 : (Lit.int .i64 o.f2.f2).wf = true
 v3 : (Lit.int .i64 o.f2.f3).wf = true
 v4 : (Lit.int .i64 o.f2.f4).wf = true
 f3 : (Lit.int .i64 o.f3).wf = true
 late : o.f2.f5.length≤maxLen∧∀ x ∈ o.f2.f5,(Lit.int .i64 x).wf = true
end Go.Proofs.YtbblomnhobodkaaDoor.PTw
