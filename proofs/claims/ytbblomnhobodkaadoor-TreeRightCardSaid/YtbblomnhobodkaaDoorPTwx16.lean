/- What this claim reaches of longer texts of this session. -/
import Derived.Test.YtbblomnhobodkaaDoorPTwx0
import Derived.Test.YtbblomnhobodkaaDoorPTwx1
import Derived.Test.YtbblomnhobodkaaDoorPTwx8
namespace Go.Proofs.YtbblomnhobodkaaDoor.PTw
open Go.RowKit Go.Proofs.YtbblomnhobodkaaDoorW.PW Go.Proofs.YtbblomnhobodkaaDoorW.PL Go.Proofs.YtbblomnhobodkaaDoorW.PM
attribute [local go_sem] max2_int min2_int max_two min_two max_three min_three max_four min_four   -- for this text's walks alone
set_option linter.unusedVariables false
set_option linter.unusedSimpArgs false
mutual
def r4Resolution.j0 : Nat→List (S29)→Int→List Int→Bool→Option (List Int)
 | 0,_,_,_,_=>none
 | k + 1,x0,x1,x5,x17=>if x17 = true then (some x5) else (r4Resolution.l0 k x0 x5 (([x1] : List Int)))
def r4Resolution.l0 : Nat→List (S29)→List Int→List Int→Option (List Int)
 | 0,_,_,_=>none
 | k + 1,x0,x5,x6=>if (x6.length : Int) > 0 then (if 0≤(wrap64 ((x6.length : Int) - 1)) then (if (wrap64 ((x6.length : Int) - 1)) < (x6.length : Int) then (if (wrap64 ((x6.length : Int) - 1))≤(x6.length : Int) then ((some (x6.take ((wrap64 ((x6.length : Int) - 1)) : Int).toNat : List Int)).bind fun y384=>(if 0≤(rd x6 (wrap64 ((x6.length : Int) - 1))) then (if (rd x6 (wrap64 ((x6.length : Int) - 1))) < (x0.length : Int) then (if (rd_T29 x0 (rd x6 (wrap64 ((x6.length : Int) - 1)))).f0 = true then (if x5.length < 17592186044416 then (r4Resolution.l1 k x0 (x5 ++ [rd x6 (wrap64 ((x6.length : Int) - 1))]) y384 (rd x6 (wrap64 ((x6.length : Int) - 1))) 0) else (none)) else ((r3Width.f k (rd x6 (wrap64 ((x6.length : Int) - 1)))).bind fun t397=>(if (wrap64 (Int.tdiv (wrap64 (t397 + 1)) 2)) > 0 then (if y384.length < 17592186044416 then ((some (y384 ++ [wrap64 ((rd x6 (wrap64 ((x6.length : Int) - 1))) + (wrap64 (Int.tdiv (wrap64 (t397 + 1)) 2)))] : List Int)).bind fun y398=>(if y398.length < 17592186044416 then (r4Resolution.l0 k x0 x5 (y398 ++ [wrap64 ((rd x6 (wrap64 ((x6.length : Int) - 1))) - (wrap64 (Int.tdiv (wrap64 (t397 + 1)) 2)))])) else (none))) else (none)) else (r4Resolution.l0 k x0 x5 y384)))) else (none)) else (none))) else (none)) else (none)) else (none)) else (some x5)
def r4Resolution.l1 : Nat→List (S29)→List Int→List Int→Int→Int→Option (List Int)
 | 0,_,_,_,_,_=>none
 | k + 1,x0,x5,x6,x7,x8=>if 0≤x7 then (if x7 < (x0.length : Int) then (if x8 < (((rd_T29 x0 x7).f5).length : Int) then (if 0≤x8 then (if x5.length < 17592186044416 then (r4Resolution.l1 k x0 (x5 ++ [wrap64 (2 * (rd ((rd_T29 x0 x7).f5) x8))]) x6 x7 (wrap64 (x8 + 1))) else (none)) else (none)) else (r4Resolution.l0 k x0 x5 x6)) else (none)) else (none)
end
def r4Resolution.f (k : Nat) (l0 : List (S29)) (a1 : Int) : Option (List Int):=if a1 < 0 then (r4Resolution.j0 k l0 a1 ([] : List Int) true) else (r4Resolution.j0 k l0 a1 ([] : List Int) (decide (a1≥(l0.length : Int))))
theorem r4Resolution.mono_l : ∀ k,(∀ y0 y1 y2 y3,LeO (r4Resolution.j0 k y0 y1 y2 y3) (r4Resolution.j0 (k + 1) y0 y1 y2 y3))∧(∀ y0 y1 y2,LeO (r4Resolution.l0 k y0 y1 y2) (r4Resolution.l0 (k + 1) y0 y1 y2))∧(∀ y0 y1 y2 y3 y4,LeO (r4Resolution.l1 k y0 y1 y2 y3 y4) (r4Resolution.l1 (k + 1) y0 y1 y2 y3 y4))
 | 0=>⟨fun _ _ _ _ r h=>by simp [r4Resolution.j0] at h,fun _ _ _ r h=>by simp [r4Resolution.l0] at h,fun _ _ _ _ _ r h=>by simp [r4Resolution.l1] at h⟩
 | k + 1=>by
  obtain ⟨ih0,ih1,ih2⟩:=r4Resolution.mono_l k;refine ⟨?_,?_,?_⟩;intro y0 y1 y2 y3;unfold r4Resolution.j0;rotate_left;intro y0 y1 y2;unfold r4Resolution.l0;rotate_left;intro y0 y1 y2 y3 y4;unfold r4Resolution.l1;rotate_left
  repeat' first
   | (with_reducible exact ih0 _ _ _ _)
   | (with_reducible exact ih1 _ _ _)
   | (with_reducible exact ih2 _ _ _ _ _)
   | (with_reducible exact r3Width.mono _ _)
   | (with_reducible exact LeO.refl _)
   | (with_reducible exact LeO.none _)
   | (with_reducible refine LeO.ite ?_ ?_)
   | (with_reducible refine LeO.bind ?_ (fun _=>?_))
   | exact ih0 _ _ _ _
   | exact ih1 _ _ _
   | exact ih2 _ _ _ _ _
   | exact r3Width.mono _ _
   | exact LeO.none _
   | refine LeO.ite ?_ ?_
   | refine LeO.bind ?_ (fun _=>?_)
theorem r4Resolution.mono : ∀ a0 a1 k,LeO (r4Resolution.f k a0 a1) (r4Resolution.f (k + 1) a0 a1):=by
 intro a0 a1 k;obtain ⟨ih0,ih1,ih2⟩:=r4Resolution.mono_l k;unfold r4Resolution.f
 repeat' first
  | (with_reducible exact ih0 _ _ _ _)
  | (with_reducible exact ih1 _ _ _)
  | (with_reducible exact ih2 _ _ _ _ _)
  | (with_reducible exact r3Width.mono _ _)
  | (with_reducible exact LeO.refl _)
  | (with_reducible exact LeO.none _)
  | (with_reducible refine LeO.ite ?_ ?_)
  | (with_reducible refine LeO.bind ?_ (fun _=>?_))
  | exact ih0 _ _ _ _
  | exact ih1 _ _ _
  | exact ih2 _ _ _ _ _
  | exact r3Width.mono _ _
  | exact LeO.none _
  | refine LeO.ite ?_ ?_
  | refine LeO.bind ?_ (fun _=>?_)
set_option maxHeartbeats 8000000 in
set_option maxRecDepth 100000 in
theorem r4Resolution.calls (k : Nat) (A0 : Option Addr) (c0 : Nat) (l0 : List (S29)) (a1 : Int) (r : List Int) (w : World) (hr0 : Kd.C k29 w A0 l0.length l0) (hc0 : l0.length≤c0) (h : r4Resolution.f k l0 a1 = some r) :
 Calls Tryd.prog 38 #[.slice A0 l0.length c0,.int .i64 a1] w fun e w'=>∃ v0_ : Value,e = .returned (v0_)∧Kd.R (Kd.int .i64) 3 w' w.heap.size (fun _=>True) v0_ r∧Below w.heap.size w w':=by
 have HR0:=Az.mk hr0;have HC0:=Az.mk hc0;clear hr0 hc0;have HB:=Az.mk (Below.refl w.heap.size w);have H : (if a1 < 0 then (r4Resolution.j0 k l0 a1 ([] : List Int) true) else (r4Resolution.j0 k l0 a1 ([] : List Int) (decide (a1≥(l0.length : Int))))) = some r:=h;clear h;have HC3:=Az.mk H;clear H
 go_enter Tryd.func38,Tryd.ntmps38
 go_upto_region 2 with (fail)
 go_cut [17] (fun v17 wc=>∃ (kq : Nat) (x17_2 : Bool),v17 = .bool x17_2∧Az (r4Resolution.j0 kq l0 a1 ([] : List Int) x17_2 = some r)∧Az (kq≤k)∧Az (Kd.R (Kd.int .i64) 3 wc w.heap.size (fun _=>True) (.slice none 0 0) ([] : List Int))∧Az (Below w.heap.size w wc))
 case first=>
  have H:=HC3.out;clear HC3
  by_cases c4 : a1 < 0
  · rw [if_pos c4] at H
    have c4b0 : decide (a1 < 0) = true:=decide_eq_true c4;clear c4
    (first | rw [c4b0] | (simp only [i64_w,i32_w];rw [c4b0]) | skip)
    have H':=Az.mk H;clear H
    go_wp2
    go_meet
    case rel=>exact ⟨_,(true),rs_,H',⟨by first | omega | exact Nat.le_refl _⟩,⟨by first | exact Kd.R_nil _ _ _ _ _ | exact Kd.N_nil _ _ _ _ _ | exact Kd.V_nil _ _ _ _ _ | exact Kd.Q_nil _ _ _ _ _ | exact Kd.S_nil _ _ _ _ _⟩,⟨bmv HB.out⟩⟩
  · rw [if_neg c4] at H
    have c4b0 : decide (a1 < 0) = false:=decide_eq_false c4;clear c4
    (first | rw [c4b0] | (simp only [i64_w,i32_w];rw [c4b0]) | skip)
    have H':=Az.mk H;clear H
    go_wp2
    go_meet
    case rel=>exact ⟨_,(decide (a1≥(l0.length : Int))),rs_,H',⟨by first | omega | exact Nat.le_refl _⟩,⟨by first | exact Kd.R_nil _ _ _ _ _ | exact Kd.N_nil _ _ _ _ _ | exact Kd.V_nil _ _ _ _ _ | exact Kd.Q_nil _ _ _ _ _ | exact Kd.S_nil _ _ _ _ _⟩,⟨bmv HB.out⟩⟩
 case rest=>
  clear HC3;(try clear c4);(try clear c4b0);obtain ⟨kq,x17_2,rfl,HA,HJ2,HO_5,HB⟩:=hcut
  cases kq with
  | zero=>exact absurd HA.out (by simp [r4Resolution.j0])
  | succ kj2=>
   have H:=HA.out;clear HA;simp only [r4Resolution.j0] at H
   by_cases c5 : x17_2 = true
   · subst c5
     rw [if_pos rfl] at H;obtain rfl:=Option.some.inj H
     go_wp2
     go_ret
     exact ⟨_,by first | rfl | (simp [errW_none,errW_some] <;> rfl) | (simp [*,errW_none,errW_some] <;> rfl),R_mv HO_5.out,bmv HB.out⟩
   · replace c5:=Bool.eq_false_iff.mpr c5
     subst c5;rw [if_neg (show ¬ (false = true) by decide)] at H
     obtain ⟨y380,hy380⟩ : ∃ y_ : List Int,y_ = (([a1] : List Int)):=⟨_,rfl⟩
     replace H : (r4Resolution.l0 kj2 l0 ([] : List Int) y380) = some r:=by first | (rw [hy380];with_reducible exact H) | (have H2_:=(Option.bind_some _ _).symm.trans H;rw [hy380];with_reducible exact H2_) | (have H2_:=(Option.bind_some _ _).symm.trans H;with_reducible exact H2_) | with_reducible exact H | (rw [hy380];exact H) | exact H
     have Ny380:=Az.mk hy380;clear hy380;have H':=Az.mk H;clear H
     go_wp2_with (first | ((with_reducible refine gate_dst (N:=20) rfl ?_);(try (refine gate_guard (by rfl) ?_;dsimp only));refine Kd.R_lit (Kd.int .i64) _ 3 ?hg (N:=20) ?hd (xs:=([a1] : List Int)) (inner:=[.int .i64 a1]) (ok:=fun _=>True) (okp:=fun _=>True) ?hr ?hp (fun _ hk=>hk) trivial (Below.refl _ _) (Nat.le_refl _) (by simp) ?_;(case hd=>rfl);(case hg=>rfl);(case hr=>exact gr_);(case hp=>exact (Reps.one (show Kd.M (Kd.int .i64) _ _ _ a1 [.int .i64 a1] from rfl) (Reps.none _ _)));intro v381 w6 ho7 hb hg_ hnew_;clear hg_ hnew_;(first | rw [← Ny380.out] at ho7 | (simp only [Int.reduceToNat] at ho7;rw [← Ny380.out] at ho7));have HO382:=Az.mk (Kd.R_lower (Kd.R_new' ho7 (Kd.R_lt (R_mv HO_5.out))) (bwZ (bmv HB.out)));replace HO_5:=Az.mk (Kd.R_elder' (R_mv HO_5.out) (Kd.R_base ho7) hb);replace HB:=Az.mk (bwT (bmv HB.out) hb);clear hb ho7))
     go_loopg [5,6] kj2 (fun kq v5 v6 w'=>∃ (x5_2 : List Int) (x6_2 : List Int),Az (r4Resolution.l0 kq l0 x5_2 x6_2 = some r)∧Az (kq≤kj2)∧Az (Kd.R (Kd.int .i64) 3 w' w.heap.size (fun k_=>some k_≠(v6 : Value).ownBlock) v5 x5_2)∧Az (Kd.R (Kd.int .i64) 3 w' w.heap.size (fun k_=>some k_≠(v5 : Value).ownBlock) v6 x6_2)∧Az (Below w.heap.size w w'))
     case atStart=>exact ⟨(([] : List Int)),(y380),H',⟨Nat.le_refl _⟩,⟨R_mv (Kd.R_mono HO_5.out (fun _ hk=>hk.2))⟩,⟨R_mv (Kd.R_mono HO382.out (fun _ hk=>hk.2))⟩,⟨bmv HB.out⟩⟩
     case round=>
      clear H';(try clear c4);(try clear c4b0);(try clear c5);obtain ⟨x5_2,x6_2,HA,HK2,HO_5,HO_6,HB⟩:=hrel
      cases gk with
      | zero=>exact absurd HA.out (by simp [r4Resolution.l0])
      | succ k2=>
       have H:=HA.out;clear HA;simp only [r4Resolution.l0] at H
       by_cases c8 : (x6_2.length : Int) > 0
       · rw [if_pos c8] at H
         have c8b0 : decide (0 < (x6_2.length : Int)) = true:=decide_eq_true c8;have c8b1 : decide (0 < x6_2.length) = true:=decide_eq_true (by omega);clear c8
         obtain ⟨ji9,hji9⟩ : ∃ j_ : Int,(wrap64 ((x6_2.length : Int) - 1)) = j_:=⟨_,rfl⟩
         replace H : (if 0≤(ji9) then (if (ji9) < (x6_2.length : Int) then (if (ji9)≤(x6_2.length : Int) then ((some (x6_2.take ((ji9) : Int).toNat : List Int)).bind fun y384=>(if 0≤(rd x6_2 (ji9)) then (if (rd x6_2 (ji9)) < (l0.length : Int) then (if (rd_T29 l0 (rd x6_2 (ji9))).f0 = true then (if x5_2.length < 17592186044416 then (r4Resolution.l1 k2 l0 (x5_2 ++ [rd x6_2 (ji9)]) y384 (rd x6_2 (ji9)) 0) else (none)) else ((r3Width.f k2 (rd x6_2 (ji9))).bind fun t397=>(if (wrap64 (Int.tdiv (wrap64 (t397 + 1)) 2)) > 0 then (if y384.length < 17592186044416 then ((some (y384 ++ [wrap64 ((rd x6_2 (ji9)) + (wrap64 (Int.tdiv (wrap64 (t397 + 1)) 2)))] : List Int)).bind fun y398=>(if y398.length < 17592186044416 then (r4Resolution.l0 k2 l0 x5_2 (y398 ++ [wrap64 ((rd x6_2 (ji9)) - (wrap64 (Int.tdiv (wrap64 (t397 + 1)) 2)))])) else (none))) else (none)) else (r4Resolution.l0 k2 l0 x5_2 y384)))) else (none)) else (none))) else (none)) else (none)) else (none)) = some r:=by first | (rw [hji9] at H;exact H) | (simp only [hji9] at H ⊢;exact H)
         have hji9w : (IntKind.i64.wrap ((x6_2.length : Int) - 1)) = ji9:=(i64_w _).trans hji9
         by_cases c10 : 0≤(ji9)
         · rw [if_pos c10] at H
           have c10b0 : decide (0≤(ji9)) = true:=decide_eq_true c10;clear c10
           by_cases c11 : (ji9) < (x6_2.length : Int)
           · rw [if_pos c11] at H
             have c11b0 : decide ((ji9) < (x6_2.length : Int)) = true:=decide_eq_true c11;clear c11
             by_cases c12 : (ji9)≤(x6_2.length : Int)
             · rw [if_pos c12] at H
               have c12b0:=eq_true c12;have c12b1 : decide ((ji9)≤(x6_2.length : Int)) = true:=decide_eq_true c12;clear c12
               obtain ⟨y384,hy384⟩ : ∃ y_ : List Int,y_ = (x6_2.take ((ji9) : Int).toNat):=⟨_,rfl⟩
               replace H : (if 0≤(rd x6_2 (ji9)) then (if (rd x6_2 (ji9)) < (l0.length : Int) then (if (rd_T29 l0 (rd x6_2 (ji9))).f0 = true then (if x5_2.length < 17592186044416 then (r4Resolution.l1 k2 l0 (x5_2 ++ [rd x6_2 (ji9)]) y384 (rd x6_2 (ji9)) 0) else (none)) else ((r3Width.f k2 (rd x6_2 (ji9))).bind fun t397=>(if (wrap64 (Int.tdiv (wrap64 (t397 + 1)) 2)) > 0 then (if y384.length < 17592186044416 then ((some (y384 ++ [wrap64 ((rd x6_2 (ji9)) + (wrap64 (Int.tdiv (wrap64 (t397 + 1)) 2)))] : List Int)).bind fun y398=>(if y398.length < 17592186044416 then (r4Resolution.l0 k2 l0 x5_2 (y398 ++ [wrap64 ((rd x6_2 (ji9)) - (wrap64 (Int.tdiv (wrap64 (t397 + 1)) 2)))])) else (none))) else (none)) else (r4Resolution.l0 k2 l0 x5_2 y384)))) else (none)) else (none)) = some r:=by first | (rw [hy384];with_reducible exact H) | (have H2_:=(Option.bind_some _ _).symm.trans H;rw [hy384];with_reducible exact H2_) | (have H2_:=(Option.bind_some _ _).symm.trans H;with_reducible exact H2_) | with_reducible exact H | (rw [hy384];exact H) | exact H
               have Ny384:=Az.mk hy384;clear hy384
               by_cases c13 : 0≤(rd x6_2 (ji9))
               · rw [if_pos c13] at H
                 have c13b0 : decide (0≤(rd x6_2 (ji9))) = true:=decide_eq_true c13;clear c13
                 by_cases c14 : (rd x6_2 (ji9)) < (l0.length : Int)
                 · rw [if_pos c14] at H
                   have c14b0 : decide ((rd x6_2 (ji9)) < (l0.length : Int)) = true:=decide_eq_true c14;clear c14
                   obtain ⟨bq15,hbq15⟩ : ∃ b_ : Bool,b_ = ((rd_T29 l0 (rd x6_2 (ji9))).f0):=⟨_,rfl⟩
                   replace H : (if bq15 = true then (if x5_2.length < 17592186044416 then (r4Resolution.l1 k2 l0 (x5_2 ++ [rd x6_2 (ji9)]) y384 (rd x6_2 (ji9)) 0) else (none)) else ((r3Width.f k2 (rd x6_2 (ji9))).bind fun t397=>(if (wrap64 (Int.tdiv (wrap64 (t397 + 1)) 2)) > 0 then (if y384.length < 17592186044416 then ((some (y384 ++ [wrap64 ((rd x6_2 (ji9)) + (wrap64 (Int.tdiv (wrap64 (t397 + 1)) 2)))] : List Int)).bind fun y398=>(if y398.length < 17592186044416 then (r4Resolution.l0 k2 l0 x5_2 (y398 ++ [wrap64 ((rd x6_2 (ji9)) - (wrap64 (Int.tdiv (wrap64 (t397 + 1)) 2)))])) else (none))) else (none)) else (r4Resolution.l0 k2 l0 x5_2 y384)))) = some r:=by rw [← hbq15] at H;exact H
                   have Nbq15:=Az.mk hbq15;clear hbq15
                   by_cases c16 : bq15 = true
                   · subst c16
                     rw [if_pos rfl] at H
                     by_cases c17 : x5_2.length < 17592186044416
                     · rw [if_pos c17] at H
                       have LMc17:=Az.mk c17;clear c17
                       obtain ⟨y388,hy388⟩ : ∃ y_ : List Int,y_ = (x5_2 ++ [rd x6_2 (ji9)]):=⟨_,rfl⟩
                       replace H : (r4Resolution.l1 k2 l0 y388 y384 (rd x6_2 (ji9)) 0) = some r:=by first | (rw [hy388];with_reducible exact H) | (have H2_:=(Option.bind_some _ _).symm.trans H;rw [hy388];with_reducible exact H2_) | (have H2_:=(Option.bind_some _ _).symm.trans H;with_reducible exact H2_) | with_reducible exact H | (rw [hy388];exact H) | exact H
                       have Ny388:=Az.mk hy388;clear hy388;have H':=Az.mk H;clear H;obtain ⟨Ao18,co18,eo18⟩:=Kd.R_slice HO_6.out;subst eo18;have p383 : 0≤((ji9) : Int):=dt_;have q383 : (ji9) < (x6_2.length : Int):=dt_;obtain ⟨ad383,e383,hx383_0⟩:=Kd.at_int (Kd.R_reads' HO_6.out).2.2 (ji9) p383 q383;cases e383;replace p383:=eq_true p383;replace q383:=eq_true q383;have q19 : ((ji9) : Int)≤((x6_2.length : Int) : Int):=dt_;obtain ⟨i019,hi019,_,hsz19,_⟩:=info_parts info3;have hcut19:=cut_to (P:=Tryd.prog) 27 3 .i64 Tryd.underlying27 hi019 (some ad383) x6_2.length co18 (ji9) (dt_) q19 (Kd.R_reads' HO_6.out).2.1;have hr19:=Kd.R_take (m:=((ji9) : Int).toNat) HO_6.out (by omega);have hy19 : y384.length = ((ji9) : Int).toNat:=(by rw [Ny384.out,List.length_take];omega);rw [← Ny384.out] at hr19;rw [← hy19] at hr19 hcut19;clear hy19 hi019 hsz19 HO_6;have HO386:=Az.mk hr19;clear hr19;replace q19:=eq_true q19;have p387 : 0≤((rd x6_2 (ji9)) : Int):=dt_;have q387 : (rd x6_2 (ji9)) < (l0.length : Int):=dt_;obtain ⟨ad387,A387_5,c387_5,e387,hx387_0,hx387_1,hx387_2,hx387_3,hx387_4,hx387_5,hl387_5,hi387_5⟩:=at_T29 HR0.out (rd x6_2 (ji9)) p387 q387
                       (try rw [← Nbq15.out] at hx387_0)
                       cases e387;replace hx387_0:=hbc HB.out hx387_0;replace hx387_1:=hbc HB.out hx387_1;replace hx387_2:=hbc HB.out hx387_2;replace hx387_3:=hbc HB.out hx387_3;replace hx387_4:=hbc HB.out hx387_4;replace hx387_5:=hbc HB.out hx387_5;have HR387_5:=Az.mk hi387_5;have HC387_5:=Az.mk hl387_5;clear hi387_5 hl387_5;replace p387:=eq_true p387;replace q387:=eq_true q387
                       go_wp2_with (first | ((with_reducible refine gate_builtin (b:=.append) (xs:=#[.tmp 40,.tmp 42]) rfl ?_);(try (refine gate_guard (by rfl) ?_;dsimp only));at_builtin;refine Kd.R_append (Kd.int .i64) (w0:=w) w.heap.size rfl (.tmp 40) (.tmp 42) 27 3 (.int .i64 0) 8 rfl Tryd.underlying27 info3 rfl (by decide) (by omega) u5 x5_2 (rd x6_2 (ji9)) [.int .i64 (rd x6_2 (ji9))] (fun k_=>some k_≠(.slice (some ad383) y384.length co18 : Value).ownBlock) (fun _=>False) rfl rfl ?aP (fun _ hk=>hk.elim) ?aF ?aO ?aB ?aS ?aL ?_;(case aP=>exact rfl);(case aB=>exact (bmv HB.out));(case aF=>exact (fun k_ hk=>Kd.fresh' (Kd.R_lt (R_mv HO386.out)) k_ hk));(case aO=>exact (R_mv HO_5.out));(case aS=>exact (bwZ (bmv HB.out)));(case aL=>have:=LMc17.out;omega);intro v389 w20 ho hb hg hat;rw [← Ny388.out] at ho;have HO390:=Az.mk (ho);replace HO386:=Az.mk (Kd.R_after (ok:=(fun _=>True)) (R_mv (Kd.R_mono HO386.out (fun _ hk=>⟨trivial,hk⟩))) hg hat);replace HB:=Az.mk (hb);clear HO_5;clear ho hb hg hat))
                       go_loopg [5,8] k2 (fun kq v5 v8 w'=>∃ (x5_3 : List Int) (x8_3 : Int),v8 = .int .i64 x8_3∧Az (r4Resolution.l1 kq l0 x5_3 y384 (rd x6_2 (ji9)) x8_3 = some r)∧Az (kq≤k2)∧Az (Kd.R (Kd.int .i64) 3 w' w.heap.size (fun k_=>some k_≠((.slice (some ad383) y384.length co18) : Value).ownBlock) v5 x5_3)∧Az (Kd.R (Kd.int .i64) 3 w' w.heap.size (fun k_=>some k_≠(v5 : Value).ownBlock) (.slice (some ad383) y384.length co18) y384)∧Az (Below w.heap.size w w'))
                       case atStart=>exact ⟨(y388),(0),rs_,H',⟨Nat.le_refl _⟩,⟨R_mv HO390.out⟩,⟨R_mv (Kd.R_mono HO386.out (fun _ hk=>hk.2))⟩,⟨bmv HB.out⟩⟩
                       case round=>
                        clear H';(try clear c4);(try clear c4b0);(try clear c5);(try clear c8);(try clear c8b0);(try clear c8b1);(try clear c10);(try clear c10b0);(try clear c11);(try clear c11b0);(try clear c12);(try clear c12b0);(try clear c12b1);(try clear c13);(try clear c13b0);(try clear c14);(try clear c14b0);(try clear c16);(try clear c17);(try clear q19);(try clear hx383_0);(try clear hx387_0);(try clear hx387_1);(try clear hx387_2);(try clear hx387_3);(try clear hx387_4);(try clear hx387_5);(try clear p383);(try clear p387);(try clear q19);(try clear q383);(try clear q387);obtain ⟨x5_3,x8_3,rfl,HA,HK3,HO_5,HO_6,HB⟩:=hrel
                        cases gk with
                        | zero=>exact absurd HA.out (by simp [r4Resolution.l1])
                        | succ k3=>
                         have H:=HA.out;clear HA;simp only [r4Resolution.l1] at H
                         by_cases c21 : 0≤(rd x6_2 (ji9))
                         · rw [if_pos c21] at H
                           have c21b0 : decide (0≤(rd x6_2 (ji9))) = true:=decide_eq_true c21;clear c21
                           by_cases c22 : (rd x6_2 (ji9)) < (l0.length : Int)
                           · rw [if_pos c22] at H
                             have c22b0 : decide ((rd x6_2 (ji9)) < (l0.length : Int)) = true:=decide_eq_true c22;clear c22
                             by_cases c23 : x8_3 < (((rd_T29 l0 (rd x6_2 (ji9))).f5).length : Int)
                             · rw [if_pos c23] at H
                               have c23b0 : decide (x8_3 < (((rd_T29 l0 (rd x6_2 (ji9))).f5).length : Int)) = true:=decide_eq_true c23;clear c23
                               by_cases c24 : 0≤x8_3
                               · rw [if_pos c24] at H
                                 have c24b0 : decide (0≤x8_3) = true:=decide_eq_true c24;clear c24
                                 by_cases c25 : x5_3.length < 17592186044416
                                 · rw [if_pos c25] at H
                                   have LMc25:=Az.mk c25;clear c25
                                   obtain ⟨y394,hy394⟩ : ∃ y_ : List Int,y_ = (x5_3 ++ [wrap64 (2 * (rd ((rd_T29 l0 (rd x6_2 (ji9))).f5) x8_3))]):=⟨_,rfl⟩
                                   replace H : (r4Resolution.l1 k3 l0 y394 y384 (rd x6_2 (ji9)) (wrap64 (x8_3 + 1))) = some r:=by first | (rw [hy394];with_reducible exact H) | (have H2_:=(Option.bind_some _ _).symm.trans H;rw [hy394];with_reducible exact H2_) | (have H2_:=(Option.bind_some _ _).symm.trans H;with_reducible exact H2_) | with_reducible exact H | (rw [hy394];exact H) | exact H
                                   have Ny394:=Az.mk hy394;clear hy394;have H':=Az.mk H;clear H;have p391 : 0≤((rd x6_2 (ji9)) : Int):=dt_;have q391 : (rd x6_2 (ji9)) < (l0.length : Int):=dt_;obtain ⟨ad391,A391_5,c391_5,e391,hx391_0,hx391_1,hx391_2,hx391_3,hx391_4,hx391_5,hl391_5,hi391_5⟩:=at_T29 HR0.out (rd x6_2 (ji9)) p391 q391
                                   (try rw [← Nbq15.out] at hx391_0)
                                   obtain rfl : ad387 = ad391:=(by injection e391);replace hx391_0:=hbc HB.out hx391_0;replace hx391_1:=hbc HB.out hx391_1;replace hx391_2:=hbc HB.out hx391_2;replace hx391_3:=hbc HB.out hx391_3;replace hx391_4:=hbc HB.out hx391_4;replace hx391_5:=hbc HB.out hx391_5;have HR391_5:=Az.mk hi391_5;have HC391_5:=Az.mk hl391_5;clear hi391_5 hl391_5;replace p391:=eq_true p391;replace q391:=eq_true q391;have p392 : 0≤((rd x6_2 (ji9)) : Int):=dt_;have q392 : (rd x6_2 (ji9)) < (l0.length : Int):=dt_;obtain ⟨ad392,A392_5,c392_5,e392,hx392_0,hx392_1,hx392_2,hx392_3,hx392_4,hx392_5,hl392_5,hi392_5⟩:=at_T29 HR0.out (rd x6_2 (ji9)) p392 q392
                                   (try rw [← Nbq15.out] at hx392_0)
                                   obtain rfl : ad387 = ad392:=(by injection e392);replace hx392_0:=hbc HB.out hx392_0;replace hx392_1:=hbc HB.out hx392_1;replace hx392_2:=hbc HB.out hx392_2;replace hx392_3:=hbc HB.out hx392_3;replace hx392_4:=hbc HB.out hx392_4;replace hx392_5:=hbc HB.out hx392_5;have HR392_5:=Az.mk hi392_5;have HC392_5:=Az.mk hl392_5;clear hi392_5 hl392_5;replace p392:=eq_true p392;replace q392:=eq_true q392;have ea_:=Option.some.inj (hx391_5.symm.trans hx392_5)
                                   injection ea_ with ea_ en_ ec_
                                   subst ea_;subst ec_;clear en_;have p393 : 0≤(x8_3 : Int):=dt_;have q393 : x8_3 < (((rd_T29 l0 (rd x6_2 (ji9))).f5).length : Int):=dt_;obtain ⟨ad393,e393,hx393_0⟩:=Kd.at_int HR392_5.out x8_3 p393 q393;cases e393;replace hx393_0:=hbc HB.out hx393_0;replace p393:=eq_true p393;replace q393:=eq_true q393
                                   go_wp2_with (first | ((with_reducible refine gate_builtin (b:=.append) (xs:=#[.tmp 54,.tmp 64]) rfl ?_);(try (refine gate_guard (by rfl) ?_;dsimp only));at_builtin;refine Kd.R_append (Kd.int .i64) (w0:=w) w.heap.size rfl (.tmp 54) (.tmp 64) 27 3 (.int .i64 0) 8 rfl Tryd.underlying27 info3 rfl (by decide) (by omega) u5 x5_3 (wrap64 (2 * (rd ((rd_T29 l0 (rd x6_2 (ji9))).f5) x8_3))) [.int .i64 (wrap64 (2 * (rd ((rd_T29 l0 (rd x6_2 (ji9))).f5) x8_3)))] (fun k_=>some k_≠(.slice (some ad383) y384.length co18 : Value).ownBlock) (fun _=>False) rfl rfl ?aP (fun _ hk=>hk.elim) ?aF ?aO ?aB ?aS ?aL ?_;(case aP=>exact rfl);(case aB=>exact (bmv HB.out));(case aF=>exact (fun k_ hk=>Kd.fresh' (Kd.R_lt (R_mv HO_6.out)) k_ hk));(case aO=>exact (R_mv HO_5.out));(case aS=>exact (bwZ (bmv HB.out)));(case aL=>have:=LMc25.out;omega);intro v395 w26 ho hb hg hat;rw [← Ny394.out] at ho;have HO396:=Az.mk (ho);replace HO_6:=Az.mk (Kd.R_after (ok:=(fun _=>True)) (R_mv (Kd.R_mono HO_6.out (fun _ hk=>⟨trivial,hk⟩))) hg hat);replace HB:=Az.mk (hb);clear HO_5;clear ho hb hg hat))
                                   go_roundg k3
                                   case measure=>have:=HJ2.out;have:=HK2.out;have:=HK3.out;omega
                                   case rel=>exact ⟨(y394),(wrap64 (x8_3 + 1)),rs_,H',⟨by have:=HJ2.out;have:=HK2.out;have:=HK3.out;omega⟩,⟨R_mv HO396.out⟩,⟨R_mv (Kd.R_mono HO_6.out (fun _ hk=>hk.2))⟩,⟨bmv HB.out⟩⟩
                                 · rw [if_neg c25] at H
                                   exact absurd H (by simp)
                               · rw [if_neg c24] at H
                                 exact absurd H (by simp)
                             · rw [if_neg c23] at H
                               have c23b0 : decide (x8_3 < (((rd_T29 l0 (rd x6_2 (ji9))).f5).length : Int)) = false:=decide_eq_false c23;clear c23;have H':=Az.mk H;clear H;have p391 : 0≤((rd x6_2 (ji9)) : Int):=dt_;have q391 : (rd x6_2 (ji9)) < (l0.length : Int):=dt_;obtain ⟨ad391,A391_5,c391_5,e391,hx391_0,hx391_1,hx391_2,hx391_3,hx391_4,hx391_5,hl391_5,hi391_5⟩:=at_T29 HR0.out (rd x6_2 (ji9)) p391 q391
                               (try rw [← Nbq15.out] at hx391_0)
                               obtain rfl : ad387 = ad391:=(by injection e391);replace hx391_0:=hbc HB.out hx391_0;replace hx391_1:=hbc HB.out hx391_1;replace hx391_2:=hbc HB.out hx391_2;replace hx391_3:=hbc HB.out hx391_3;replace hx391_4:=hbc HB.out hx391_4;replace hx391_5:=hbc HB.out hx391_5;have HR391_5:=Az.mk hi391_5;have HC391_5:=Az.mk hl391_5;clear hi391_5 hl391_5;replace p391:=eq_true p391;replace q391:=eq_true q391
                               go_wp2
                               go_roundg k3
                               case measure=>have:=HJ2.out;have:=HK2.out;have:=HK3.out;omega
                               case rel=>exact ⟨(x5_3),(y384),H',⟨by have:=HJ2.out;have:=HK2.out;have:=HK3.out;omega⟩,⟨R_mv HO_5.out⟩,⟨R_mv HO_6.out⟩,⟨bmv HB.out⟩⟩
                           · rw [if_neg c22] at H
                             exact absurd H (by simp)
                         · rw [if_neg c21] at H
                           exact absurd H (by simp)
                     · rw [if_neg c17] at H
                       exact absurd H (by simp)
                   · replace c16:=Bool.eq_false_iff.mpr c16
                     subst c16;rw [if_neg (show ¬ (false = true) by decide)] at H;replace H:=Option.bind_eq_some_iff.mp H;obtain ⟨t397,A270,H⟩:=H;(try dsimp only at H);have A27:=Az.mk A270;clear A270
                     by_cases c28 : (wrap64 (Int.tdiv (wrap64 (t397 + 1)) 2)) > 0
                     · rw [if_pos c28] at H
                       have c28b0 : decide (0 < (wrap64 (Int.tdiv (wrap64 (t397 + 1)) 2))) = true:=decide_eq_true c28;clear c28
                       by_cases c29 : y384.length < 17592186044416
                       · rw [if_pos c29] at H
                         have LMc29:=Az.mk c29;clear c29
                         obtain ⟨y398,hy398⟩ : ∃ y_ : List Int,y_ = (y384 ++ [wrap64 ((rd x6_2 (ji9)) + (wrap64 (Int.tdiv (wrap64 (t397 + 1)) 2)))]):=⟨_,rfl⟩
                         replace H : (if y398.length < 17592186044416 then (r4Resolution.l0 k2 l0 x5_2 (y398 ++ [wrap64 ((rd x6_2 (ji9)) - (wrap64 (Int.tdiv (wrap64 (t397 + 1)) 2)))])) else (none)) = some r:=by first | (rw [hy398];with_reducible exact H) | (have H2_:=(Option.bind_some _ _).symm.trans H;rw [hy398];with_reducible exact H2_) | (have H2_:=(Option.bind_some _ _).symm.trans H;with_reducible exact H2_) | with_reducible exact H | (rw [hy398];exact H) | exact H
                         have Ny398:=Az.mk hy398;clear hy398
                         by_cases c30 : y398.length < 17592186044416
                         · rw [if_pos c30] at H
                           have LMc30:=Az.mk c30;clear c30
                           obtain ⟨y401,hy401⟩ : ∃ y_ : List Int,y_ = (y398 ++ [wrap64 ((rd x6_2 (ji9)) - (wrap64 (Int.tdiv (wrap64 (t397 + 1)) 2)))]):=⟨_,rfl⟩
                           replace H : (r4Resolution.l0 k2 l0 x5_2 y401) = some r:=by first | (rw [hy401];with_reducible exact H) | (have H2_:=(Option.bind_some _ _).symm.trans H;rw [hy401];with_reducible exact H2_) | (have H2_:=(Option.bind_some _ _).symm.trans H;with_reducible exact H2_) | with_reducible exact H | (rw [hy401];exact H) | exact H
                           have Ny401:=Az.mk hy401;clear hy401;have H':=Az.mk H;clear H;obtain ⟨Ao31,co31,eo31⟩:=Kd.R_slice HO_6.out;subst eo31;have p383 : 0≤((ji9) : Int):=dt_;have q383 : (ji9) < (x6_2.length : Int):=dt_;obtain ⟨ad383,e383,hx383_0⟩:=Kd.at_int (Kd.R_reads' HO_6.out).2.2 (ji9) p383 q383;cases e383;replace p383:=eq_true p383;replace q383:=eq_true q383;have q32 : ((ji9) : Int)≤((x6_2.length : Int) : Int):=dt_;obtain ⟨i032,hi032,_,hsz32,_⟩:=info_parts info3;have hcut32:=cut_to (P:=Tryd.prog) 27 3 .i64 Tryd.underlying27 hi032 (some ad383) x6_2.length co31 (ji9) (dt_) q32 (Kd.R_reads' HO_6.out).2.1;have hr32:=Kd.R_take (m:=((ji9) : Int).toNat) HO_6.out (by omega);have hy32 : y384.length = ((ji9) : Int).toNat:=(by rw [Ny384.out,List.length_take];omega);rw [← Ny384.out] at hr32;rw [← hy32] at hr32 hcut32;clear hy32 hi032 hsz32 HO_6;have HO386:=Az.mk hr32;clear hr32;replace q32:=eq_true q32;have p387 : 0≤((rd x6_2 (ji9)) : Int):=dt_;have q387 : (rd x6_2 (ji9)) < (l0.length : Int):=dt_;obtain ⟨ad387,A387_5,c387_5,e387,hx387_0,hx387_1,hx387_2,hx387_3,hx387_4,hx387_5,hl387_5,hi387_5⟩:=at_T29 HR0.out (rd x6_2 (ji9)) p387 q387
                           (try rw [← Nbq15.out] at hx387_0)
                           cases e387;replace hx387_0:=hbc HB.out hx387_0;replace hx387_1:=hbc HB.out hx387_1;replace hx387_2:=hbc HB.out hx387_2;replace hx387_3:=hbc HB.out hx387_3;replace hx387_4:=hbc HB.out hx387_4;replace hx387_5:=hbc HB.out hx387_5;have HR387_5:=Az.mk hi387_5;have HC387_5:=Az.mk hl387_5;clear hi387_5 hl387_5;replace p387:=eq_true p387;replace q387:=eq_true q387
                           go_wp2_with (first | ((with_reducible refine gate_callee (f:=59) rfl ?_);refine goesL_ (some 67) rfl rfl Tryd.func59 (by kernel_rfl) rfl #[.int .i64 (rd x6_2 (ji9))] rfl (by (try simp only [List.map_toArray,List.map_cons,List.map_nil]);first | done | (simp only [hji9];rfl) | rfl | (simp only [List.length_drop,List.length_take];rfl)) ?_;(with_reducible refine (r3Width.calls k2 (rd x6_2 (ji9)) t397 _ A27.out).mono ?_);rintro e w' ⟨rfl,⟨nd,rfl⟩⟩;refine ⟨_,rfl,?_⟩) | ((with_reducible refine gate_builtin (b:=.append) (xs:=#[.tmp 72,.tmp 76]) rfl ?_);(try (refine gate_guard (by rfl) ?_;dsimp only));at_builtin;refine Kd.R_append (Kd.int .i64) (w0:=w) w.heap.size rfl (.tmp 72) (.tmp 76) 27 3 (.int .i64 0) 8 rfl Tryd.underlying27 info3 rfl (by decide) (by omega) (.slice (some ad383) y384.length co31) y384 (wrap64 ((rd x6_2 (ji9)) + (wrap64 (Int.tdiv (wrap64 (t397 + 1)) 2)))) [.int .i64 (wrap64 ((rd x6_2 (ji9)) + (wrap64 (Int.tdiv (wrap64 (t397 + 1)) 2))))] (fun k_=>some k_≠(u5 : Value).ownBlock) (fun _=>False) rfl rfl ?aP (fun _ hk=>hk.elim) ?aF ?aO ?aB ?aS ?aL ?_;(case aP=>exact rfl);(case aB=>exact (bmv HB.out));(case aF=>exact (fun k_ hk=>Kd.fresh' (Kd.R_lt (R_mv HO_5.out)) k_ hk));(case aO=>exact (R_mv HO386.out));(case aS=>exact (bwZ (bmv HB.out)));(case aL=>have:=LMc29.out;omega);intro v399 w33 ho hb hg hat;rw [← Ny398.out] at ho;have HO400:=Az.mk (ho);replace HO_5:=Az.mk (Kd.R_after (ok:=(fun _=>True)) (R_mv (Kd.R_mono HO_5.out (fun _ hk=>⟨trivial,hk⟩))) hg hat);replace HB:=Az.mk (hb);clear HO386;clear ho hb hg hat) | ((with_reducible refine gate_builtin (b:=.append) (xs:=#[.tmp 78,.tmp 82]) rfl ?_);(try (refine gate_guard (by rfl) ?_;dsimp only));at_builtin;refine Kd.R_append (Kd.int .i64) (w0:=w) w.heap.size rfl (.tmp 78) (.tmp 82) 27 3 (.int .i64 0) 8 rfl Tryd.underlying27 info3 rfl (by decide) (by omega) v399 y398 (wrap64 ((rd x6_2 (ji9)) - (wrap64 (Int.tdiv (wrap64 (t397 + 1)) 2)))) [.int .i64 (wrap64 ((rd x6_2 (ji9)) - (wrap64 (Int.tdiv (wrap64 (t397 + 1)) 2))))] (fun k_=>some k_≠(u5 : Value).ownBlock) (fun _=>False) rfl rfl ?aP (fun _ hk=>hk.elim) ?aF ?aO ?aB ?aS ?aL ?_;(case aP=>exact rfl);(case aB=>exact (bmv HB.out));(case aF=>exact (fun k_ hk=>Kd.fresh' (Kd.R_lt (R_mv HO_5.out)) k_ hk));(case aO=>exact (R_mv HO400.out));(case aS=>exact (bwZ (bmv HB.out)));(case aL=>have:=LMc30.out;omega);intro v402 w34 ho hb hg hat;rw [← Ny401.out] at ho;have HO403:=Az.mk (ho);replace HO_5:=Az.mk (Kd.R_after (ok:=(fun _=>True)) (R_mv HO_5.out) hg hat);replace HB:=Az.mk (hb);clear HO400;clear ho hb hg hat))
                           go_roundg k2
                           case measure=>have:=HJ2.out;have:=HK2.out;omega
                           case rel=>exact ⟨(x5_2),(y401),H',⟨by have:=HJ2.out;have:=HK2.out;omega⟩,⟨R_mv (Kd.R_mono HO_5.out (fun _ hk=>hk.2))⟩,⟨R_mv HO403.out⟩,⟨bmv HB.out⟩⟩
                         · rw [if_neg c30] at H
                           exact absurd H (by simp)
                       · rw [if_neg c29] at H
                         exact absurd H (by simp)
                     · rw [if_neg c28] at H
                       have c28b0 : decide (0 < (wrap64 (Int.tdiv (wrap64 (t397 + 1)) 2))) = false:=decide_eq_false c28;clear c28;have H':=Az.mk H;clear H;obtain ⟨Ao35,co35,eo35⟩:=Kd.R_slice HO_6.out;subst eo35;have p383 : 0≤((ji9) : Int):=dt_;have q383 : (ji9) < (x6_2.length : Int):=dt_;obtain ⟨ad383,e383,hx383_0⟩:=Kd.at_int (Kd.R_reads' HO_6.out).2.2 (ji9) p383 q383;cases e383;replace p383:=eq_true p383;replace q383:=eq_true q383;have q36 : ((ji9) : Int)≤((x6_2.length : Int) : Int):=dt_;obtain ⟨i036,hi036,_,hsz36,_⟩:=info_parts info3;have hcut36:=cut_to (P:=Tryd.prog) 27 3 .i64 Tryd.underlying27 hi036 (some ad383) x6_2.length co35 (ji9) (dt_) q36 (Kd.R_reads' HO_6.out).2.1;have hr36:=Kd.R_take (m:=((ji9) : Int).toNat) HO_6.out (by omega);have hy36 : y384.length = ((ji9) : Int).toNat:=(by rw [Ny384.out,List.length_take];omega);rw [← Ny384.out] at hr36;rw [← hy36] at hr36 hcut36;clear hy36 hi036 hsz36 HO_6;have HO386:=Az.mk hr36;clear hr36;replace q36:=eq_true q36;have p387 : 0≤((rd x6_2 (ji9)) : Int):=dt_;have q387 : (rd x6_2 (ji9)) < (l0.length : Int):=dt_;obtain ⟨ad387,A387_5,c387_5,e387,hx387_0,hx387_1,hx387_2,hx387_3,hx387_4,hx387_5,hl387_5,hi387_5⟩:=at_T29 HR0.out (rd x6_2 (ji9)) p387 q387
                       (try rw [← Nbq15.out] at hx387_0)
                       cases e387;replace hx387_0:=hbc HB.out hx387_0;replace hx387_1:=hbc HB.out hx387_1;replace hx387_2:=hbc HB.out hx387_2;replace hx387_3:=hbc HB.out hx387_3;replace hx387_4:=hbc HB.out hx387_4;replace hx387_5:=hbc HB.out hx387_5;have HR387_5:=Az.mk hi387_5;have HC387_5:=Az.mk hl387_5;clear hi387_5 hl387_5;replace p387:=eq_true p387;replace q387:=eq_true q387
                       go_wp2_with (first | ((with_reducible refine gate_callee (f:=59) rfl ?_);refine goesL_ (some 67) rfl rfl Tryd.func59 (by kernel_rfl) rfl #[.int .i64 (rd x6_2 (ji9))] rfl (by (try simp only [List.map_toArray,List.map_cons,List.map_nil]);first | done | (simp only [hji9];rfl) | rfl | (simp only [List.length_drop,List.length_take];rfl)) ?_;(with_reducible refine (r3Width.calls k2 (rd x6_2 (ji9)) t397 _ A27.out).mono ?_);rintro e w' ⟨rfl,⟨nd,rfl⟩⟩;refine ⟨_,rfl,?_⟩))
                       go_roundg k2
                       case measure=>have:=HJ2.out;have:=HK2.out;omega
                       case rel=>exact ⟨(x5_2),(y384),H',⟨by have:=HJ2.out;have:=HK2.out;omega⟩,⟨R_mv HO_5.out⟩,⟨R_mv HO386.out⟩,⟨bmv HB.out⟩⟩
                 · rw [if_neg c14] at H
                   exact absurd H (by simp)
               · rw [if_neg c13] at H
                 exact absurd H (by simp)
             · rw [if_neg c12] at H
               exact absurd H (by simp)
           · rw [if_neg c11] at H
             exact absurd H (by simp)
         · rw [if_neg c10] at H
           exact absurd H (by simp)
       · rw [if_neg c8] at H
         have c8b0 : decide (0 < (x6_2.length : Int)) = false:=decide_eq_false c8;have c8b1 : decide (0 < x6_2.length) = false:=decide_eq_false (by omega);clear c8;obtain rfl:=Option.some.inj H;obtain ⟨Ao37,co37,eo37⟩:=Kd.R_slice HO_6.out;subst eo37
         go_wp2
         go_ret
         exact ⟨_,by first | rfl | (simp [errW_none,errW_some] <;> rfl) | (simp [*,errW_none,errW_some] <;> rfl),R_mv (Kd.R_mono HO_5.out (fun _ hk=>trivial)),bmv HB.out⟩
end Go.Proofs.YtbblomnhobodkaaDoor.PTw
namespace Go.Proofs.YtbblomnhobodkaaDoor.PTw
open Go.RowKit Go.Proofs.YtbblomnhobodkaaDoorW.PW Go.Proofs.YtbblomnhobodkaaDoorW.PL Go.Proofs.YtbblomnhobodkaaDoorW.PM
attribute [local go_sem] max2_int min2_int max_two min_two max_three min_three max_four min_four   -- for this text's walks alone
set_option linter.unusedVariables false
set_option linter.unusedSimpArgs false
def r3Parent.l0 : Nat→Int→Int→Int→Int→Option (Int)
 | 0,_,_,_,_=>none
 | k + 1,x0,x1,x5,x6=>if x6 < (wrap64 ((wrap64 (2 * x1)) - 1)) then (if x6 = x0 then (r3Parent.l0 k x0 x1 x5 (wrap64 (x6 + 1))) else ((r3Under.f k x0 x6 x1).bind fun t404=>(if t404 = true then (if x5 < 0 then (r3Parent.l0 k x0 x1 x6 (wrap64 (x6 + 1))) else ((r3Level.f k x6).bind fun t405=>((r3Level.f k x5).bind fun t406=>(if t405 < t406 then (r3Parent.l0 k x0 x1 x6 (wrap64 (x6 + 1))) else (r3Parent.l0 k x0 x1 x5 (wrap64 (x6 + 1))))))) else (r3Parent.l0 k x0 x1 x5 (wrap64 (x6 + 1)))))) else (some x5)
def r3Parent.f (k : Nat) (a0 : Int) (a1 : Int) : Option (Int):=r3Parent.l0 k a0 a1 (-1) 0
theorem r3Parent.mono_l : ∀ k,(∀ y0 y1 y2 y3,LeO (r3Parent.l0 k y0 y1 y2 y3) (r3Parent.l0 (k + 1) y0 y1 y2 y3))
 | 0=>fun _ _ _ _ r h=>by simp [r3Parent.l0] at h
 | k + 1=>by
  have ih0:=r3Parent.mono_l k
  · intro y0 y1 y2 y3
    unfold r3Parent.l0
    repeat' first
    | (with_reducible exact ih0 _ _ _ _)
    | (with_reducible exact r3Level.mono _ _)
    | (with_reducible exact r3Under.mono _ _ _ _)
    | (with_reducible exact LeO.refl _)
    | (with_reducible exact LeO.none _)
    | (with_reducible refine LeO.ite ?_ ?_)
    | (with_reducible refine LeO.bind ?_ (fun _=>?_))
    | exact ih0 _ _ _ _
    | exact r3Level.mono _ _
    | exact r3Under.mono _ _ _ _
    | exact LeO.none _
    | refine LeO.ite ?_ ?_
    | refine LeO.bind ?_ (fun _=>?_)
theorem r3Parent.mono : ∀ a0 a1 k,LeO (r3Parent.f k a0 a1) (r3Parent.f (k + 1) a0 a1):=by
 intro a0 a1 k;have ih0:=r3Parent.mono_l k;unfold r3Parent.f
 repeat' first
  | (with_reducible exact ih0 _ _ _ _)
  | (with_reducible exact r3Level.mono _ _)
  | (with_reducible exact r3Under.mono _ _ _ _)
  | (with_reducible exact LeO.refl _)
  | (with_reducible exact LeO.none _)
  | (with_reducible refine LeO.ite ?_ ?_)
  | (with_reducible refine LeO.bind ?_ (fun _=>?_))
  | exact ih0 _ _ _ _
  | exact r3Level.mono _ _
  | exact r3Under.mono _ _ _ _
  | exact LeO.none _
  | refine LeO.ite ?_ ?_
  | refine LeO.bind ?_ (fun _=>?_)
set_option maxHeartbeats 8000000 in
set_option maxRecDepth 100000 in
theorem r3Parent.calls (k : Nat) (a0 : Int) (a1 : Int) (r : Int) (w : World) (h : r3Parent.f k a0 a1 = some r) :
 Calls Tryd.prog 78 #[.int .i64 a0,.int .i64 a1] w fun e w'=>e = .returned (.int .i64 r)∧Drawn0 w w':=by
 have H : (r3Parent.l0 k a0 a1 (-1) 0) = some r:=h;clear h;have H':=Az.mk H;clear H
 go_enter Tryd.func78,Tryd.ntmps78
 go_wp2
 go_loopg [5,6] k (fun kq v5 v6 w'=>∃ (x5_1 : Int) (x6_1 : Int),v5 = .int .i64 x5_1∧v6 = .int .i64 x6_1∧Az (r3Parent.l0 kq a0 a1 x5_1 x6_1 = some r)∧Az (kq≤k)∧Drawn0 w w')
 case atStart=>exact ⟨((-1)),(0),rs_,rs_,H',⟨Nat.le_refl _⟩,by repeat (first | exact Drawn0.refl _ | apply Drawn0.step)⟩
 case round=>
  clear H';obtain ⟨x5_1,x6_1,rfl,rfl,HA,HK1,⟨m1,rfl⟩⟩:=hrel
  cases gk with
  | zero=>exact absurd HA.out (by simp [r3Parent.l0])
  | succ k1=>
   have H:=HA.out;clear HA;simp only [r3Parent.l0] at H
   by_cases c3 : x6_1 < (wrap64 ((wrap64 (2 * a1)) - 1))
   · rw [if_pos c3] at H
     have c3b0 : decide (x6_1 < (wrap64 ((wrap64 (2 * a1)) - 1))) = true:=decide_eq_true c3;clear c3
     by_cases c4 : x6_1 = a0
     · rw [if_pos c4] at H
       have c4b0 : (x6_1 == a0) = true:=beq_iff_eq.mpr c4;have c4b1 : (x6_1 != a0) = false:=bne_eq_false_iff_eq.mpr c4;clear c4;have H':=Az.mk H;clear H
       go_wp2
       go_roundg k1
       case measure=>have:=HK1.out;omega
       case rel=>exact ⟨(x5_1),(wrap64 (x6_1 + 1)),rs_,rs_,H',⟨by have:=HK1.out;omega⟩,by repeat (first | exact Drawn0.refl _ | apply Drawn0.step)⟩
     · rw [if_neg c4] at H
       have c4b0 : (x6_1 == a0) = false:=beq_eq_false_iff_ne.mpr c4;have c4b1 : (x6_1 != a0) = true:=bne_iff_ne.mpr c4;replace H:=Option.bind_eq_some_iff.mp H;obtain ⟨t404,A50,H⟩:=H;(try dsimp only at H);have A5:=Az.mk A50;clear A50
       by_cases c6 : t404 = true
       · subst c6
         rw [if_pos rfl] at H
         by_cases c7 : x5_1 < 0
         · rw [if_pos c7] at H
           have c7b0 : decide (x5_1 < 0) = true:=decide_eq_true c7;clear c7;have H':=Az.mk H;clear H
           go_wp2_with (first | (go_at_call 26;(with_reducible refine (r3Under.calls k1 a0 x6_1 a1 true _ A5.out).mono ?_);rintro e w' ⟨rfl,⟨nd,rfl⟩⟩))
           go_roundg k1
           case measure=>have:=HK1.out;omega
           case rel=>exact ⟨(x6_1),(wrap64 (x6_1 + 1)),rs_,rs_,H',⟨by have:=HK1.out;omega⟩,by repeat (first | exact Drawn0.refl _ | apply Drawn0.step)⟩
         · rw [if_neg c7] at H
           have c7b0 : decide (x5_1 < 0) = false:=decide_eq_false c7;clear c7;replace H:=Option.bind_eq_some_iff.mp H;obtain ⟨t405,A80,H⟩:=H;(try dsimp only at H);have A8:=Az.mk A80;clear A80;replace H:=Option.bind_eq_some_iff.mp H;obtain ⟨t406,A90,H⟩:=H;(try dsimp only at H);have A9:=Az.mk A90;clear A90
           by_cases c10 : t405 < t406
           · rw [if_pos c10] at H
             have c10b0 : decide (t405 < t406) = true:=decide_eq_true c10;clear c10;have H':=Az.mk H;clear H
             go_wp2_with (first | (go_at_call 26;(with_reducible refine (r3Under.calls k1 a0 x6_1 a1 true _ A5.out).mono ?_);rintro e w' ⟨rfl,⟨nd,rfl⟩⟩) | (go_at_call 77;(with_reducible refine (r3Level.calls k1 x6_1 t405 _ A8.out).mono ?_);rintro e w' ⟨rfl,⟨nd,rfl⟩⟩) | (go_at_call 77;(with_reducible refine (r3Level.calls k1 x5_1 t406 _ A9.out).mono ?_);rintro e w' ⟨rfl,⟨nd,rfl⟩⟩))
             go_roundg k1
             case measure=>have:=HK1.out;omega
             case rel=>exact ⟨(x6_1),(wrap64 (x6_1 + 1)),rs_,rs_,H',⟨by have:=HK1.out;omega⟩,by repeat (first | exact Drawn0.refl _ | apply Drawn0.step)⟩
           · rw [if_neg c10] at H
             have c10b0 : decide (t405 < t406) = false:=decide_eq_false c10;clear c10;have H':=Az.mk H;clear H
             go_wp2_with (first | (go_at_call 26;(with_reducible refine (r3Under.calls k1 a0 x6_1 a1 true _ A5.out).mono ?_);rintro e w' ⟨rfl,⟨nd,rfl⟩⟩) | (go_at_call 77;(with_reducible refine (r3Level.calls k1 x6_1 t405 _ A8.out).mono ?_);rintro e w' ⟨rfl,⟨nd,rfl⟩⟩) | (go_at_call 77;(with_reducible refine (r3Level.calls k1 x5_1 t406 _ A9.out).mono ?_);rintro e w' ⟨rfl,⟨nd,rfl⟩⟩))
             go_roundg k1
             case measure=>have:=HK1.out;omega
             case rel=>exact ⟨(x5_1),(wrap64 (x6_1 + 1)),rs_,rs_,H',⟨by have:=HK1.out;omega⟩,by repeat (first | exact Drawn0.refl _ | apply Drawn0.step)⟩
       · replace c6:=Bool.eq_false_iff.mpr c6
         subst c6;rw [if_neg (show ¬ (false = true) by decide)] at H;have H':=Az.mk H;clear H
         go_wp2_with (first | (go_at_call 26;(with_reducible refine (r3Under.calls k1 a0 x6_1 a1 false _ A5.out).mono ?_);rintro e w' ⟨rfl,⟨nd,rfl⟩⟩))
         go_roundg k1
         case measure=>have:=HK1.out;omega
         case rel=>exact ⟨(x5_1),(wrap64 (x6_1 + 1)),rs_,rs_,H',⟨by have:=HK1.out;omega⟩,by repeat (first | exact Drawn0.refl _ | apply Drawn0.step)⟩
   · rw [if_neg c3] at H
     have c3b0 : decide (x6_1 < (wrap64 ((wrap64 (2 * a1)) - 1))) = false:=decide_eq_false c3;clear c3;obtain rfl:=Option.some.inj H
     go_wp2
     go_ret
     exact ⟨rs_,by repeat (first | exact Drawn0.refl _ | apply Drawn0.step)⟩
def r3Path.l0 : Nat→Int→List Int→Int→Option (List Int)
 | 0,_,_,_=>none
 | k + 1,x1,x5,x6=>if x6≥0 then (if x5.length < 17592186044416 then ((r3Parent.f k x6 x1).bind fun t411=>(r3Path.l0 k x1 (x5 ++ [x6]) t411)) else (none)) else (some x5)
def r3Path.f (k : Nat) (a0 : Int) (a1 : Int) : Option (List Int):=(r3Parent.f k a0 a1).bind fun t407=>(r3Path.l0 k a1 ([] : List Int) t407)
theorem r3Path.mono_l : ∀ k,(∀ y0 y1 y2,LeO (r3Path.l0 k y0 y1 y2) (r3Path.l0 (k + 1) y0 y1 y2))
 | 0=>fun _ _ _ r h=>by simp [r3Path.l0] at h
 | k + 1=>by
  have ih0:=r3Path.mono_l k
  · intro y0 y1 y2
    unfold r3Path.l0
    repeat' first
    | (with_reducible exact ih0 _ _ _)
    | (with_reducible exact r3Parent.mono _ _ _)
    | (with_reducible exact LeO.refl _)
    | (with_reducible exact LeO.none _)
    | (with_reducible refine LeO.ite ?_ ?_)
    | (with_reducible refine LeO.bind ?_ (fun _=>?_))
    | exact ih0 _ _ _
    | exact r3Parent.mono _ _ _
    | exact LeO.none _
    | refine LeO.ite ?_ ?_
    | refine LeO.bind ?_ (fun _=>?_)
theorem r3Path.mono : ∀ a0 a1 k,LeO (r3Path.f k a0 a1) (r3Path.f (k + 1) a0 a1):=by
 intro a0 a1 k;have ih0:=r3Path.mono_l k;unfold r3Path.f
 repeat' first
  | (with_reducible exact ih0 _ _ _)
  | (with_reducible exact r3Parent.mono _ _ _)
  | (with_reducible exact LeO.refl _)
  | (with_reducible exact LeO.none _)
  | (with_reducible refine LeO.ite ?_ ?_)
  | (with_reducible refine LeO.bind ?_ (fun _=>?_))
  | exact ih0 _ _ _
  | exact r3Parent.mono _ _ _
  | exact LeO.none _
  | refine LeO.ite ?_ ?_
  | refine LeO.bind ?_ (fun _=>?_)
set_option maxHeartbeats 8000000 in
set_option maxRecDepth 100000 in
theorem r3Path.calls (k : Nat) (a0 : Int) (a1 : Int) (r : List Int) (w : World) (h : r3Path.f k a0 a1 = some r) :
 Calls Tryd.prog 63 #[.int .i64 a0,.int .i64 a1] w fun e w'=>∃ v0_ : Value,e = .returned (v0_)∧Kd.R (Kd.int .i64) 3 w' w.heap.size (fun _=>True) v0_ r∧Below w.heap.size w w':=by
 have HB:=Az.mk (Below.refl w.heap.size w);have H : ((r3Parent.f k a0 a1).bind fun t407=>(r3Path.l0 k a1 ([] : List Int) t407)) = some r:=h;clear h;replace H:=Option.bind_eq_some_iff.mp H;obtain ⟨t407,A30,H⟩:=H;(try dsimp only at H);have A3:=Az.mk A30;clear A30;have H':=Az.mk H;clear H
 go_enter Tryd.func63,Tryd.ntmps63
 go_wp2_with (first | ((with_reducible refine gate_callee (f:=78) rfl ?_);refine goesL_ (some 9) rfl rfl Tryd.func78 (by kernel_rfl) rfl #[.int .i64 a0,.int .i64 a1] rfl tl_ ?_;(with_reducible refine (r3Parent.calls k a0 a1 t407 _ A3.out).mono ?_);rintro e w' ⟨rfl,⟨nd,rfl⟩⟩;refine ⟨_,rfl,?_⟩))
 go_loopg [5,6] k (fun kq v5 v6 w'=>∃ (x5_1 : List Int) (x6_1 : Int),v6 = .int .i64 x6_1∧Az (r3Path.l0 kq a1 x5_1 x6_1 = some r)∧Az (kq≤k)∧Az (Kd.R (Kd.int .i64) 3 w' w.heap.size (fun _=>True) v5 x5_1)∧Az (Below w.heap.size w w'))
 case atStart=>exact ⟨(([] : List Int)),(t407),rs_,H',⟨Nat.le_refl _⟩,⟨by first | exact Kd.R_nil _ _ _ _ _ | exact Kd.N_nil _ _ _ _ _ | exact Kd.V_nil _ _ _ _ _ | exact Kd.Q_nil _ _ _ _ _ | exact Kd.S_nil _ _ _ _ _⟩,⟨bmv HB.out⟩⟩
 case round=>
  clear H';obtain ⟨x5_1,x6_1,rfl,HA,HK1,HO_5,HB⟩:=hrel
  cases gk with
  | zero=>exact absurd HA.out (by simp [r3Path.l0])
  | succ k1=>
   have H:=HA.out;clear HA;simp only [r3Path.l0] at H
   by_cases c4 : x6_1≥0
   · rw [if_pos c4] at H
     have c4b0 : decide (0≤x6_1) = true:=decide_eq_true c4;clear c4
     by_cases c5 : x5_1.length < 17592186044416
     · rw [if_pos c5] at H
       have LMc5:=Az.mk c5;clear c5
       obtain ⟨y408,hy408⟩ : ∃ y_ : List Int,y_ = (x5_1 ++ [x6_1]):=⟨_,rfl⟩
       replace H : ((r3Parent.f k1 x6_1 a1).bind fun t411=>(r3Path.l0 k1 a1 y408 t411)) = some r:=by first | (rw [hy408];with_reducible exact H) | (have H2_:=(Option.bind_some _ _).symm.trans H;rw [hy408];with_reducible exact H2_) | (have H2_:=(Option.bind_some _ _).symm.trans H;with_reducible exact H2_) | with_reducible exact H | (rw [hy408];exact H) | exact H
       have Ny408:=Az.mk hy408;clear hy408;replace H:=Option.bind_eq_some_iff.mp H;obtain ⟨t411,A60,H⟩:=H;(try dsimp only at H);have A6:=Az.mk A60;clear A60;have H':=Az.mk H;clear H
       go_wp2_with (first | ((with_reducible refine gate_builtin (b:=.append) (xs:=#[.tmp 15,.tmp 17]) rfl ?_);at_builtin;refine Kd.R_append (Kd.int .i64) (w0:=w) w.heap.size rfl (.tmp 15) (.tmp 17) 27 3 (.int .i64 0) 8 rfl Tryd.underlying27 info3 rfl (by decide) (by omega) u5 x5_1 x6_1 [.int .i64 x6_1] (fun _=>True) (fun _=>False) rfl rfl ?aP (fun _ hk=>hk.elim) ?aF ?aO ?aB ?aS ?aL ?_;(case aP=>exact rfl);(case aB=>exact (bmv HB.out));(case aF=>exact (fun _ _=>trivial));(case aO=>exact (R_mv HO_5.out));(case aS=>exact (bwZ (bmv HB.out)));(case aL=>have:=LMc5.out;omega);intro v409 w7 ho hb hg hat;rw [← Ny408.out] at ho;have HO410:=Az.mk (ho);replace HB:=Az.mk (hb);clear HO_5;clear ho hb hg hat) | ((with_reducible refine gate_callee (f:=78) rfl ?_);refine goesL_ (some 14) rfl rfl Tryd.func78 (by kernel_rfl) rfl #[.int .i64 x6_1,.int .i64 a1] rfl tl_ ?_;(with_reducible refine (r3Parent.calls k1 x6_1 a1 t411 _ A6.out).mono ?_);rintro e w' ⟨rfl,⟨nd,rfl⟩⟩;refine ⟨_,rfl,?_⟩))
       go_roundg k1
       case measure=>have:=HK1.out;omega
       case rel=>exact ⟨(y408),(t411),rs_,H',⟨by have:=HK1.out;omega⟩,⟨R_mv HO410.out⟩,⟨bmv HB.out⟩⟩
     · rw [if_neg c5] at H
       exact absurd H (by simp)
   · rw [if_neg c4] at H
     have c4b0 : decide (0≤x6_1) = false:=decide_eq_false c4;clear c4;obtain rfl:=Option.some.inj H
     go_wp2
     go_ret
     exact ⟨_,by first | rfl | (simp [errW_none,errW_some] <;> rfl) | (simp [*,errW_none,errW_some] <;> rfl),R_mv HO_5.out,bmv HB.out⟩
def r3Sibling.f (k : Nat) (a0 : Int) (a1 : Int) : Option (Int):=(r3Parent.f k a0 a1).bind fun t412=>(some (wrap64 ((wrap64 (t412 + t412)) - a0)))
theorem r3Sibling.mono : ∀ a0 a1 k,LeO (r3Sibling.f k a0 a1) (r3Sibling.f (k + 1) a0 a1):=by
 intro a0 a1 k;unfold r3Sibling.f
 repeat' first
  | (with_reducible exact r3Parent.mono _ _ _)
  | (with_reducible exact LeO.refl _)
  | (with_reducible exact LeO.none _)
  | (with_reducible refine LeO.ite ?_ ?_)
  | (with_reducible refine LeO.bind ?_ (fun _=>?_))
  | exact r3Parent.mono _ _ _
  | exact LeO.none _
  | refine LeO.ite ?_ ?_
  | refine LeO.bind ?_ (fun _=>?_)
set_option maxHeartbeats 8000000 in
set_option maxRecDepth 100000 in
theorem r3Sibling.calls (k : Nat) (a0 : Int) (a1 : Int) (r : Int) (w : World) (h : r3Sibling.f k a0 a1 = some r) :
 Calls Tryd.prog 79 #[.int .i64 a0,.int .i64 a1] w fun e w'=>e = .returned (.int .i64 r)∧Drawn0 w w':=by
 have H : ((r3Parent.f k a0 a1).bind fun t412=>(some (wrap64 ((wrap64 (t412 + t412)) - a0)))) = some r:=h;clear h;replace H:=Option.bind_eq_some_iff.mp H;obtain ⟨t412,A30,H⟩:=H;(try dsimp only at H);have A3:=Az.mk A30;clear A30;obtain rfl:=Option.some.inj H
 go_enter Tryd.func79,Tryd.ntmps79
 go_wp2_with (first | ((with_reducible refine gate_callee (f:=78) rfl ?_);refine goesL_ (some 8) rfl rfl Tryd.func78 (by kernel_rfl) rfl #[.int .i64 a0,.int .i64 a1] rfl tl_ ?_;(with_reducible refine (r3Parent.calls k a0 a1 t412 _ A3.out).mono ?_);rintro e w' ⟨rfl,⟨nd,rfl⟩⟩;refine ⟨_,rfl,?_⟩))
 go_ret
 exact ⟨rs_,by repeat (first | exact Drawn0.refl _ | apply Drawn0.step)⟩
def r3Copath.l0 : Nat→Int→Int→List Int→Option (List Int)
 | 0,_,_,_=>none
 | k + 1,x0,x1,x5=>(r3Parent.f k x0 x1).bind fun t413=>(if t413≥0 then ((r3Sibling.f k x0 x1).bind fun t414=>(if x5.length < 17592186044416 then ((r3Parent.f k x0 x1).bind fun t418=>(r3Copath.l0 k t418 x1 (x5 ++ [t414]))) else (none))) else (some x5))
def r3Copath.f (k : Nat) (a0 : Int) (a1 : Int) : Option (List Int):=r3Copath.l0 k a0 a1 ([] : List Int)
theorem r3Copath.mono_l : ∀ k,(∀ y0 y1 y2,LeO (r3Copath.l0 k y0 y1 y2) (r3Copath.l0 (k + 1) y0 y1 y2))
 | 0=>fun _ _ _ r h=>by simp [r3Copath.l0] at h
 | k + 1=>by
  have ih0:=r3Copath.mono_l k
  · intro y0 y1 y2
    unfold r3Copath.l0
    repeat' first
    | (with_reducible exact ih0 _ _ _)
    | (with_reducible exact r3Parent.mono _ _ _)
    | (with_reducible exact r3Sibling.mono _ _ _)
    | (with_reducible exact LeO.refl _)
    | (with_reducible exact LeO.none _)
    | (with_reducible refine LeO.ite ?_ ?_)
    | (with_reducible refine LeO.bind ?_ (fun _=>?_))
    | exact ih0 _ _ _
    | exact r3Parent.mono _ _ _
    | exact r3Sibling.mono _ _ _
    | exact LeO.none _
    | refine LeO.ite ?_ ?_
    | refine LeO.bind ?_ (fun _=>?_)
theorem r3Copath.mono : ∀ a0 a1 k,LeO (r3Copath.f k a0 a1) (r3Copath.f (k + 1) a0 a1):=by
 intro a0 a1 k;have ih0:=r3Copath.mono_l k;unfold r3Copath.f
 repeat' first
  | (with_reducible exact ih0 _ _ _)
  | (with_reducible exact r3Parent.mono _ _ _)
  | (with_reducible exact r3Sibling.mono _ _ _)
  | (with_reducible exact LeO.refl _)
  | (with_reducible exact LeO.none _)
  | (with_reducible refine LeO.ite ?_ ?_)
  | (with_reducible refine LeO.bind ?_ (fun _=>?_))
  | exact ih0 _ _ _
  | exact r3Parent.mono _ _ _
  | exact r3Sibling.mono _ _ _
  | exact LeO.none _
  | refine LeO.ite ?_ ?_
  | refine LeO.bind ?_ (fun _=>?_)
set_option maxHeartbeats 8000000 in
set_option maxRecDepth 100000 in
theorem r3Copath.calls (k : Nat) (a0 : Int) (a1 : Int) (r : List Int) (w : World) (h : r3Copath.f k a0 a1 = some r) :
 Calls Tryd.prog 64 #[.int .i64 a0,.int .i64 a1] w fun e w'=>∃ v0_ : Value,e = .returned (v0_)∧Kd.R (Kd.int .i64) 3 w' w.heap.size (fun _=>True) v0_ r∧Below w.heap.size w w':=by
 have HB:=Az.mk (Below.refl w.heap.size w);have H : (r3Copath.l0 k a0 a1 ([] : List Int)) = some r:=h;clear h;have H':=Az.mk H;clear H
 go_enter Tryd.func64,Tryd.ntmps64
 go_wp2
 go_loopg [0,5] k (fun kq v0 v5 w'=>∃ (x0_1 : Int) (x5_1 : List Int),v0 = .int .i64 x0_1∧Az (r3Copath.l0 kq x0_1 a1 x5_1 = some r)∧Az (kq≤k)∧Az (Kd.R (Kd.int .i64) 3 w' w.heap.size (fun _=>True) v5 x5_1)∧Az (Below w.heap.size w w'))
 case atStart=>exact ⟨(a0),(([] : List Int)),rs_,H',⟨Nat.le_refl _⟩,⟨by first | exact Kd.R_nil _ _ _ _ _ | exact Kd.N_nil _ _ _ _ _ | exact Kd.V_nil _ _ _ _ _ | exact Kd.Q_nil _ _ _ _ _ | exact Kd.S_nil _ _ _ _ _⟩,⟨bmv HB.out⟩⟩
 case round=>
  clear H';obtain ⟨x0_1,x5_1,rfl,HA,HK1,HO_5,HB⟩:=hrel
  cases gk with
  | zero=>exact absurd HA.out (by simp [r3Copath.l0])
  | succ k1=>
   have H:=HA.out;clear HA;simp only [r3Copath.l0] at H;replace H:=Option.bind_eq_some_iff.mp H;obtain ⟨t413,A30,H⟩:=H;(try dsimp only at H);have A3:=Az.mk A30;clear A30
   by_cases c4 : t413≥0
   · rw [if_pos c4] at H
     have c4b0 : decide (0≤t413) = true:=decide_eq_true c4;clear c4;replace H:=Option.bind_eq_some_iff.mp H;obtain ⟨t414,A50,H⟩:=H;(try dsimp only at H);have A5:=Az.mk A50;clear A50
     by_cases c6 : x5_1.length < 17592186044416
     · rw [if_pos c6] at H
       have LMc6:=Az.mk c6;clear c6
       obtain ⟨y415,hy415⟩ : ∃ y_ : List Int,y_ = (x5_1 ++ [t414]):=⟨_,rfl⟩
       replace H : ((r3Parent.f k1 x0_1 a1).bind fun t418=>(r3Copath.l0 k1 t418 a1 y415)) = some r:=by first | (rw [hy415];with_reducible exact H) | (have H2_:=(Option.bind_some _ _).symm.trans H;rw [hy415];with_reducible exact H2_) | (have H2_:=(Option.bind_some _ _).symm.trans H;with_reducible exact H2_) | with_reducible exact H | (rw [hy415];exact H) | exact H
       have Ny415:=Az.mk hy415;clear hy415;replace H:=Option.bind_eq_some_iff.mp H;obtain ⟨t418,A70,H⟩:=H;(try dsimp only at H);have A7:=Az.mk A70;clear A70;have H':=Az.mk H;clear H
       go_wp2_with (first | ((with_reducible refine gate_callee (f:=78) rfl ?_);refine goesL_ (some 9) rfl rfl Tryd.func78 (by kernel_rfl) rfl #[.int .i64 x0_1,.int .i64 a1] rfl tl_ ?_;(with_reducible refine (r3Parent.calls k1 x0_1 a1 t413 _ A3.out).mono ?_);rintro e w' ⟨rfl,⟨nd,rfl⟩⟩;refine ⟨_,rfl,?_⟩) | ((with_reducible refine gate_callee (f:=79) rfl ?_);refine goesL_ (some 13) rfl rfl Tryd.func79 (by kernel_rfl) rfl #[.int .i64 x0_1,.int .i64 a1] rfl tl_ ?_;(with_reducible refine (r3Sibling.calls k1 x0_1 a1 t414 _ A5.out).mono ?_);rintro e w' ⟨rfl,⟨nd,rfl⟩⟩;refine ⟨_,rfl,?_⟩) | ((with_reducible refine gate_builtin (b:=.append) (xs:=#[.tmp 14,.tmp 16]) rfl ?_);at_builtin;refine Kd.R_append (Kd.int .i64) (w0:=w) w.heap.size rfl (.tmp 14) (.tmp 16) 27 3 (.int .i64 0) 8 rfl Tryd.underlying27 info3 rfl (by decide) (by omega) u5 x5_1 t414 [.int .i64 t414] (fun _=>True) (fun _=>False) rfl rfl ?aP (fun _ hk=>hk.elim) ?aF ?aO ?aB ?aS ?aL ?_;(case aP=>exact rfl);(case aB=>exact (bmv HB.out));(case aF=>exact (fun _ _=>trivial));(case aO=>exact (R_mv HO_5.out));(case aS=>exact (bwZ (bmv HB.out)));(case aL=>have:=LMc6.out;omega);intro v416 w8 ho hb hg hat;rw [← Ny415.out] at ho;have HO417:=Az.mk (ho);replace HB:=Az.mk (hb);clear HO_5;clear ho hb hg hat) | ((with_reducible refine gate_callee (f:=78) rfl ?_);refine goesL_ (some 20) rfl rfl Tryd.func78 (by kernel_rfl) rfl #[.int .i64 x0_1,.int .i64 a1] rfl tl_ ?_;(with_reducible refine (r3Parent.calls k1 x0_1 a1 t418 _ A7.out).mono ?_);rintro e w' ⟨rfl,⟨nd,rfl⟩⟩;refine ⟨_,rfl,?_⟩))
       go_roundg k1
       case measure=>have:=HK1.out;omega
       case rel=>exact ⟨(t418),(y415),rs_,H',⟨by have:=HK1.out;omega⟩,⟨R_mv HO417.out⟩,⟨bmv HB.out⟩⟩
     · rw [if_neg c6] at H
       exact absurd H (by simp)
   · rw [if_neg c4] at H
     have c4b0 : decide (0≤t413) = false:=decide_eq_false c4;clear c4;obtain rfl:=Option.some.inj H
     go_wp2_with (first | ((with_reducible refine gate_callee (f:=78) rfl ?_);refine goesL_ (some 9) rfl rfl Tryd.func78 (by kernel_rfl) rfl #[.int .i64 x0_1,.int .i64 a1] rfl tl_ ?_;(with_reducible refine (r3Parent.calls k1 x0_1 a1 t413 _ A3.out).mono ?_);rintro e w' ⟨rfl,⟨nd,rfl⟩⟩;refine ⟨_,rfl,?_⟩))
     go_ret
     exact ⟨_,by first | rfl | (simp [errW_none,errW_some] <;> rfl) | (simp [*,errW_none,errW_some] <;> rfl),R_mv HO_5.out,bmv HB.out⟩
mutual
def r4Filtered.j0 : Nat→List (S29)→Int→List Int→List Int→Bool→Option (List Int × List Int)
 | 0,_,_,_,_,_=>none
 | k + 1,x0,x1,x6,x7,x19=>if x19 = true then (some (x6,x7)) else ((r4Leaves.f x0).bind fun t420=>((r3Path.f k (wrap64 (2 * x1)) t420).bind fun t421=>((r3Copath.f k (wrap64 (2 * x1)) t420).bind fun t424=>(r4Filtered.l0 k x0 x6 x7 t421 t424 0))))
def r4Filtered.l0 : Nat→List (S29)→List Int→List Int→List Int→List Int→Int→Option (List Int × List Int)
 | 0,_,_,_,_,_,_=>none
 | k + 1,x0,x6,x7,x9,x10,x11=>if x11 < (x9.length : Int) then (if 0≤x11 then (if x11 < (x10.length : Int) then ((r4Resolution.f k x0 (rd x10 x11)).bind fun t428=>(if (t428.length : Int) > 0 then (if x6.length < 17592186044416 then (if x7.length < 17592186044416 then (r4Filtered.l0 k x0 (x6 ++ [rd x9 x11]) (x7 ++ [rd x10 x11]) x9 x10 (wrap64 (x11 + 1))) else (none)) else (none)) else (r4Filtered.l0 k x0 x6 x7 x9 x10 (wrap64 (x11 + 1))))) else (none)) else (none)) else (some (x6,x7))
end
def r4Filtered.f (k : Nat) (l0 : List (S29)) (a1 : Int) : Option (List Int × List Int):=if a1 < 0 then (r4Filtered.j0 k l0 a1 ([] : List Int) ([] : List Int) true) else ((r4Leaves.f l0).bind fun t419=>(r4Filtered.j0 k l0 a1 ([] : List Int) ([] : List Int) (decide (a1≥t419))))
theorem r4Filtered.mono_l : ∀ k,(∀ y0 y1 y2 y3 y4,LeO (r4Filtered.j0 k y0 y1 y2 y3 y4) (r4Filtered.j0 (k + 1) y0 y1 y2 y3 y4))∧(∀ y0 y1 y2 y3 y4 y5,LeO (r4Filtered.l0 k y0 y1 y2 y3 y4 y5) (r4Filtered.l0 (k + 1) y0 y1 y2 y3 y4 y5))
 | 0=>⟨fun _ _ _ _ _ r h=>by simp [r4Filtered.j0] at h,fun _ _ _ _ _ _ r h=>by simp [r4Filtered.l0] at h⟩
 | k + 1=>by
  obtain ⟨ih0,ih1⟩:=r4Filtered.mono_l k;refine ⟨?_,?_⟩;intro y0 y1 y2 y3 y4;unfold r4Filtered.j0;rotate_left;intro y0 y1 y2 y3 y4 y5;unfold r4Filtered.l0;rotate_left
  repeat' first
   | (with_reducible exact ih0 _ _ _ _ _)
   | (with_reducible exact ih1 _ _ _ _ _ _)
   | (with_reducible exact r3Copath.mono _ _ _)
   | (with_reducible exact r3Path.mono _ _ _)
   | (with_reducible exact r4Resolution.mono _ _ _)
   | (with_reducible exact LeO.refl _)
   | (with_reducible exact LeO.none _)
   | (with_reducible refine LeO.ite ?_ ?_)
   | (with_reducible refine LeO.bind ?_ (fun _=>?_))
   | exact ih0 _ _ _ _ _
   | exact ih1 _ _ _ _ _ _
   | exact r3Copath.mono _ _ _
   | exact r3Path.mono _ _ _
   | exact r4Resolution.mono _ _ _
   | exact LeO.none _
   | refine LeO.ite ?_ ?_
   | refine LeO.bind ?_ (fun _=>?_)
theorem r4Filtered.mono : ∀ a0 a1 k,LeO (r4Filtered.f k a0 a1) (r4Filtered.f (k + 1) a0 a1):=by
 intro a0 a1 k;obtain ⟨ih0,ih1⟩:=r4Filtered.mono_l k;unfold r4Filtered.f
 repeat' first
  | (with_reducible exact ih0 _ _ _ _ _)
  | (with_reducible exact ih1 _ _ _ _ _ _)
  | (with_reducible exact r3Copath.mono _ _ _)
  | (with_reducible exact r3Path.mono _ _ _)
  | (with_reducible exact r4Resolution.mono _ _ _)
  | (with_reducible exact LeO.refl _)
  | (with_reducible exact LeO.none _)
  | (with_reducible refine LeO.ite ?_ ?_)
  | (with_reducible refine LeO.bind ?_ (fun _=>?_))
  | exact ih0 _ _ _ _ _
  | exact ih1 _ _ _ _ _ _
  | exact r3Copath.mono _ _ _
  | exact r3Path.mono _ _ _
  | exact r4Resolution.mono _ _ _
  | exact LeO.none _
  | refine LeO.ite ?_ ?_
  | refine LeO.bind ?_ (fun _=>?_)
set_option maxHeartbeats 8000000 in
set_option maxRecDepth 100000 in
theorem r4Filtered.calls (k : Nat) (A0 : Option Addr) (c0 : Nat) (l0 : List (S29)) (a1 : Int) (r1 : List Int) (r2 : List Int) (w : World) (hr0 : Kd.C k29 w A0 l0.length l0) (hc0 : l0.length≤c0) (h : r4Filtered.f k l0 a1 = some (r1,r2)) :
 Calls Tryd.prog 37 #[.slice A0 l0.length c0,.int .i64 a1] w fun e w'=>∃ v0_ v1_ : Value,e = .returned (.tuple #[v0_,v1_])∧Kd.R (Kd.int .i64) 3 w' w.heap.size (fun k_=>some k_≠(v1_ : Value).ownBlock) v0_ r1∧Kd.R (Kd.int .i64) 3 w' w.heap.size (fun k_=>some k_≠(v0_ : Value).ownBlock) v1_ r2∧Below w.heap.size w w':=by
 have HR0:=Az.mk hr0;have HC0:=Az.mk hc0;clear hr0 hc0;have HB:=Az.mk (Below.refl w.heap.size w);have H : (if a1 < 0 then (r4Filtered.j0 k l0 a1 ([] : List Int) ([] : List Int) true) else ((r4Leaves.f l0).bind fun t419=>(r4Filtered.j0 k l0 a1 ([] : List Int) ([] : List Int) (decide (a1≥t419))))) = some (r1,r2):=h;clear h;have HC3:=Az.mk H;clear H
 go_enter Tryd.func37,Tryd.ntmps37
 go_upto_region 2 with (fail)
 go_cut [19] (fun v19 wc=>∃ (kq : Nat) (x19_2 : Bool),v19 = .bool x19_2∧Az (r4Filtered.j0 kq l0 a1 ([] : List Int) ([] : List Int) x19_2 = some (r1,r2))∧Az (kq≤k)∧Az (Kd.R (Kd.int .i64) 3 wc w.heap.size (fun k_=>some k_≠((.slice none 0 0) : Value).ownBlock) (.slice none 0 0) ([] : List Int))∧Az (Kd.R (Kd.int .i64) 3 wc w.heap.size (fun k_=>some k_≠((.slice none 0 0) : Value).ownBlock) (.slice none 0 0) ([] : List Int))∧Az (Below w.heap.size w wc))
 case first=>
  have H:=HC3.out;clear HC3
  by_cases c4 : a1 < 0
  · rw [if_pos c4] at H
    have c4b0 : decide (a1 < 0) = true:=decide_eq_true c4;clear c4
    (first | rw [c4b0] | (simp only [i64_w,i32_w];rw [c4b0]) | skip)
    have H':=Az.mk H;clear H
    go_wp2
    go_meet
    case rel=>exact ⟨_,(true),rs_,H',⟨by first | omega | exact Nat.le_refl _⟩,⟨by first | exact Kd.R_nil _ _ _ _ _ | exact Kd.N_nil _ _ _ _ _ | exact Kd.V_nil _ _ _ _ _ | exact Kd.Q_nil _ _ _ _ _ | exact Kd.S_nil _ _ _ _ _⟩,⟨by first | exact Kd.R_nil _ _ _ _ _ | exact Kd.N_nil _ _ _ _ _ | exact Kd.V_nil _ _ _ _ _ | exact Kd.Q_nil _ _ _ _ _ | exact Kd.S_nil _ _ _ _ _⟩,⟨bmv HB.out⟩⟩
  · rw [if_neg c4] at H
    have c4b0 : decide (a1 < 0) = false:=decide_eq_false c4;clear c4
    (first | rw [c4b0] | (simp only [i64_w,i32_w];rw [c4b0]) | skip)
    replace H:=Option.bind_eq_some_iff.mp H;obtain ⟨t419,A50,H⟩:=H;(try dsimp only at H);have A5:=Az.mk A50;clear A50;have H':=Az.mk H;clear H
    go_wp2_with (first | (go_at_call 21;(with_reducible refine (r4Leaves.calls _ _ l0 t419 _ ?side1 ?side2 A5.out).mono ?_);(case side1=>exact C_mv ((Kd.C_below HR0.out HB.out)));(case side2=>exact HC0.out);rintro e w' ⟨rfl,⟨nd,rfl⟩⟩))
    go_meet
    case rel=>exact ⟨_,(decide (a1≥t419)),rs_,H',⟨by first | omega | exact Nat.le_refl _⟩,⟨by first | exact Kd.R_nil _ _ _ _ _ | exact Kd.N_nil _ _ _ _ _ | exact Kd.V_nil _ _ _ _ _ | exact Kd.Q_nil _ _ _ _ _ | exact Kd.S_nil _ _ _ _ _⟩,⟨by first | exact Kd.R_nil _ _ _ _ _ | exact Kd.N_nil _ _ _ _ _ | exact Kd.V_nil _ _ _ _ _ | exact Kd.Q_nil _ _ _ _ _ | exact Kd.S_nil _ _ _ _ _⟩,⟨bmv HB.out⟩⟩
 case rest=>
  clear HC3;(try clear c4);(try clear c4b0);obtain ⟨kq,x19_2,rfl,HA,HJ2,HO_6,HO_7,HB⟩:=hcut
  cases kq with
  | zero=>exact absurd HA.out (by simp [r4Filtered.j0])
  | succ kj2=>
   have H:=HA.out;clear HA;simp only [r4Filtered.j0] at H
   by_cases c6 : x19_2 = true
   · subst c6
     rw [if_pos rfl] at H;simp only [Option.some.injEq,Prod.mk.injEq] at H;obtain ⟨rfl,rfl⟩:=H
     go_wp2
     go_ret2
     exact ⟨_,_,by first | rfl | (simp [errW_none,errW_some] <;> rfl) | (simp [*,errW_none,errW_some] <;> rfl),R_mv HO_6.out,R_mv HO_7.out,bmv HB.out⟩
   · replace c6:=Bool.eq_false_iff.mpr c6
     subst c6;rw [if_neg (show ¬ (false = true) by decide)] at H;replace H:=Option.bind_eq_some_iff.mp H;obtain ⟨t420,A70,H⟩:=H;(try dsimp only at H);have A7:=Az.mk A70;clear A70;replace H:=Option.bind_eq_some_iff.mp H;obtain ⟨t421,A80,H⟩:=H;(try dsimp only at H);have A8:=Az.mk A80;clear A80;replace H:=Option.bind_eq_some_iff.mp H;obtain ⟨t424,A90,H⟩:=H;(try dsimp only at H);have A9:=Az.mk A90;clear A90;have H':=Az.mk H;clear H
     go_wp2_with (first | ((with_reducible refine gate_callee (f:=21) rfl ?_);refine goesL_ (some 23) rfl rfl Tryd.func21 (by kernel_rfl) rfl #[.slice A0 l0.length c0] rfl tl_ ?_;(with_reducible refine (r4Leaves.calls _ _ l0 t420 _ ?side1 ?side2 A7.out).mono ?_);(case side1=>exact C_mv ((Kd.C_below HR0.out HB.out)));(case side2=>exact HC0.out);rintro e w' ⟨rfl,⟨nd,rfl⟩⟩;refine ⟨_,rfl,?_⟩) | ((with_reducible refine gate_callee (f:=63) rfl ?_);refine goesL_ (some 27) rfl rfl Tryd.func63 (by kernel_rfl) rfl #[.int .i64 (wrap64 (2 * a1)),.int .i64 t420] rfl tl_ ?_;(with_reducible refine (r3Path.calls kj2 (wrap64 (2 * a1)) t420 t421 _ A8.out).mono ?_);rintro e w10 ⟨v422,rfl,ho0,hb⟩;refine ⟨_,rfl,?_⟩;have HO423:=Az.mk (Kd.R_lower (Kd.R_new' (Kd.R_new' ho0 (Kd.R_lt (R_mv HO_6.out))) (Kd.R_lt (R_mv HO_7.out))) (bwZ (bmv HB.out)));replace HO_6:=Az.mk (Kd.R_elder' (R_mv HO_6.out) (Kd.R_base ho0) hb);replace HO_7:=Az.mk (Kd.R_elder' (R_mv HO_7.out) (Kd.R_base ho0) hb);replace HB:=Az.mk (bwT (bmv HB.out) hb);(try clear hb);(try clear hb2);(try clear hk);(try clear hi);(try clear ho0)) | ((with_reducible refine gate_callee (f:=64) rfl ?_);refine goesL_ (some 31) rfl rfl Tryd.func64 (by kernel_rfl) rfl #[.int .i64 (wrap64 (2 * a1)),.int .i64 t420] rfl tl_ ?_;(with_reducible refine (r3Copath.calls kj2 (wrap64 (2 * a1)) t420 t424 _ A9.out).mono ?_);rintro e w11 ⟨v425,rfl,ho0,hb⟩;refine ⟨_,rfl,?_⟩;have HO426:=Az.mk (Kd.R_lower (Kd.R_new' (Kd.R_new' (Kd.R_new' ho0 (Kd.R_lt (R_mv HO_6.out))) (Kd.R_lt (R_mv HO_7.out))) (Kd.R_lt (R_mv HO423.out))) (bwZ (bmv HB.out)));replace HO_6:=Az.mk (Kd.R_elder' (R_mv HO_6.out) (Kd.R_base ho0) hb);replace HO_7:=Az.mk (Kd.R_elder' (R_mv HO_7.out) (Kd.R_base ho0) hb);replace HO423:=Az.mk (Kd.R_elder' (R_mv HO423.out) (Kd.R_base ho0) hb);replace HB:=Az.mk (bwT (bmv HB.out) hb);(try clear hb);(try clear hb2);(try clear hk);(try clear hi);(try clear ho0)))
     go_loopg [6,7,11] kj2 (fun kq v6 v7 v11 w'=>∃ (x6_2 : List Int) (x7_2 : List Int) (x11_2 : Int),v11 = .int .i64 x11_2∧Az (r4Filtered.l0 kq l0 x6_2 x7_2 t421 t424 x11_2 = some (r1,r2))∧Az (kq≤kj2)∧Az (Kd.R (Kd.int .i64) 3 w' w.heap.size (fun k_=>some k_≠(v7 : Value).ownBlock∧some k_≠(v422 : Value).ownBlock∧some k_≠(v425 : Value).ownBlock) v6 x6_2)∧Az (Kd.R (Kd.int .i64) 3 w' w.heap.size (fun k_=>some k_≠(v6 : Value).ownBlock∧some k_≠(v422 : Value).ownBlock∧some k_≠(v425 : Value).ownBlock) v7 x7_2)∧Az (Kd.R (Kd.int .i64) 3 w' w.heap.size (fun k_=>some k_≠(v6 : Value).ownBlock∧some k_≠(v7 : Value).ownBlock∧some k_≠(v425 : Value).ownBlock) v422 t421)∧Az (Kd.R (Kd.int .i64) 3 w' w.heap.size (fun k_=>some k_≠(v6 : Value).ownBlock∧some k_≠(v7 : Value).ownBlock∧some k_≠(v422 : Value).ownBlock) v425 t424)∧Az (Below w.heap.size w w'))
     case atStart=>exact ⟨(([] : List Int)),(([] : List Int)),(0),rs_,H',⟨Nat.le_refl _⟩,⟨R_mv (Kd.R_mono HO_6.out (fun _ hk=>⟨hk.1.1,⟨hk.1.2,hk.2⟩⟩))⟩,⟨R_mv (Kd.R_mono HO_7.out (fun _ hk=>⟨hk.1.1,⟨hk.1.2,hk.2⟩⟩))⟩,⟨R_mv (Kd.R_mono HO423.out (fun _ hk=>⟨hk.1.1.2,⟨hk.1.2,hk.2⟩⟩))⟩,⟨R_mv (Kd.R_mono HO426.out (fun _ hk=>⟨hk.1.1.2,⟨hk.1.2,hk.2⟩⟩))⟩,⟨bmv HB.out⟩⟩
     case round=>
      clear H';(try clear c4);(try clear c4b0);(try clear c6);obtain ⟨x6_2,x7_2,x11_2,rfl,HA,HK2,HO_6,HO_7,HO_9,HO_10,HB⟩:=hrel
      cases gk with
      | zero=>exact absurd HA.out (by simp [r4Filtered.l0])
      | succ k2=>
       have H:=HA.out;clear HA;simp only [r4Filtered.l0] at H
       by_cases c12 : x11_2 < (t421.length : Int)
       · rw [if_pos c12] at H
         have c12b0 : decide (x11_2 < (t421.length : Int)) = true:=decide_eq_true c12;clear c12
         by_cases c13 : 0≤x11_2
         · rw [if_pos c13] at H
           have c13b0 : decide (0≤x11_2) = true:=decide_eq_true c13;clear c13
           by_cases c14 : x11_2 < (t424.length : Int)
           · rw [if_pos c14] at H
             have c14b0 : decide (x11_2 < (t424.length : Int)) = true:=decide_eq_true c14;clear c14;replace H:=Option.bind_eq_some_iff.mp H;obtain ⟨t428,A150,H⟩:=H;(try dsimp only at H);have A15:=Az.mk A150;clear A150
             by_cases c16 : (t428.length : Int) > 0
             · rw [if_pos c16] at H
               have c16b0 : decide (0 < (t428.length : Int)) = true:=decide_eq_true c16;have c16b1 : decide (0 < t428.length) = true:=decide_eq_true (by omega);clear c16
               by_cases c17 : x6_2.length < 17592186044416
               · rw [if_pos c17] at H
                 have LMc17:=Az.mk c17;clear c17
                 obtain ⟨y432,hy432⟩ : ∃ y_ : List Int,y_ = (x6_2 ++ [rd t421 x11_2]):=⟨_,rfl⟩
                 replace H : (if x7_2.length < 17592186044416 then (r4Filtered.l0 k2 l0 y432 (x7_2 ++ [rd t424 x11_2]) t421 t424 (wrap64 (x11_2 + 1))) else (none)) = some (r1,r2):=by first | (rw [hy432];with_reducible exact H) | (have H2_:=(Option.bind_some _ _).symm.trans H;rw [hy432];with_reducible exact H2_) | (have H2_:=(Option.bind_some _ _).symm.trans H;with_reducible exact H2_) | with_reducible exact H | (rw [hy432];exact H) | exact H
                 have Ny432:=Az.mk hy432;clear hy432
                 by_cases c18 : x7_2.length < 17592186044416
                 · rw [if_pos c18] at H
                   have LMc18:=Az.mk c18;clear c18
                   obtain ⟨y436,hy436⟩ : ∃ y_ : List Int,y_ = (x7_2 ++ [rd t424 x11_2]):=⟨_,rfl⟩
                   replace H : (r4Filtered.l0 k2 l0 y432 y436 t421 t424 (wrap64 (x11_2 + 1))) = some (r1,r2):=by first | (rw [hy436];with_reducible exact H) | (have H2_:=(Option.bind_some _ _).symm.trans H;rw [hy436];with_reducible exact H2_) | (have H2_:=(Option.bind_some _ _).symm.trans H;with_reducible exact H2_) | with_reducible exact H | (rw [hy436];exact H) | exact H
                   have Ny436:=Az.mk hy436;clear hy436;have H':=Az.mk H;clear H;obtain ⟨Ao19,co19,eo19⟩:=Kd.R_slice HO_9.out;subst eo19;obtain ⟨Ao20,co20,eo20⟩:=Kd.R_slice HO_10.out;subst eo20;have p427 : 0≤(x11_2 : Int):=dt_;have q427 : x11_2 < (t424.length : Int):=dt_;obtain ⟨ad427,e427,hx427_0⟩:=Kd.at_int (Kd.R_reads' HO_10.out).2.2 x11_2 p427 q427;cases e427;replace p427:=eq_true p427;replace q427:=eq_true q427
                   go_wp2_with (first | ((with_reducible refine gate_callee (f:=38) rfl ?_);refine goesL_ (some 43) rfl rfl Tryd.func38 (by kernel_rfl) rfl #[.slice A0 l0.length c0,.int .i64 (rd t424 x11_2)] rfl tl_ ?_;(with_reducible refine (r4Resolution.calls k2 _ _ l0 (rd t424 x11_2) t428 _ ?side1 ?side2 A15.out).mono ?_);(case side1=>exact C_mv ((Kd.C_below HR0.out HB.out)));(case side2=>exact HC0.out);rintro e w21 ⟨v429,rfl,ho0,hb⟩;refine ⟨_,rfl,?_⟩;have HO430:=Az.mk (Kd.R_lower (Kd.R_new' (Kd.R_new' (Kd.R_new' (Kd.R_new' ho0 (Kd.R_lt (R_mv HO_6.out))) (Kd.R_lt (R_mv HO_7.out))) (Kd.R_lt (R_mv HO_9.out))) (Kd.R_lt (R_mv HO_10.out))) (bwZ (bmv HB.out)));replace HO_6:=Az.mk (Kd.R_elder' (R_mv HO_6.out) (Kd.R_base ho0) hb);replace HO_7:=Az.mk (Kd.R_elder' (R_mv HO_7.out) (Kd.R_base ho0) hb);replace HO_9:=Az.mk (Kd.R_elder' (R_mv HO_9.out) (Kd.R_base ho0) hb);replace HO_10:=Az.mk (Kd.R_elder' (R_mv HO_10.out) (Kd.R_base ho0) hb);replace HB:=Az.mk (bwT (bmv HB.out) hb);(try clear hb);(try clear hb2);(try clear hk);(try clear hi);(try clear ho0);obtain ⟨Ao22,co22,eo22⟩:=Kd.R_slice HO430.out;subst eo22;have p431 : 0≤(x11_2 : Int):=dt_;have q431 : x11_2 < (t421.length : Int):=dt_;obtain ⟨ad431,e431,hx431_0⟩:=Kd.at_int (Kd.R_reads' HO_9.out).2.2 x11_2 p431 q431;cases e431;replace p431:=eq_true p431;replace q431:=eq_true q431) | ((with_reducible refine gate_builtin (b:=.append) (xs:=#[.tmp 46,.tmp 51]) rfl ?_);at_builtin;refine Kd.R_append (Kd.int .i64) (w0:=w) w.heap.size rfl (.tmp 46) (.tmp 51) 27 3 (.int .i64 0) 8 rfl Tryd.underlying27 info3 rfl (by decide) (by omega) u6 x6_2 (rd t421 x11_2) [.int .i64 (rd t421 x11_2)] (fun k_=>some k_≠(u7 : Value).ownBlock∧some k_≠(.slice (some ad431) t421.length co19 : Value).ownBlock∧some k_≠(.slice (some ad427) t424.length co20 : Value).ownBlock∧some k_≠(.slice Ao22 t428.length co22 : Value).ownBlock) (fun _=>False) rfl rfl ?aP (fun _ hk=>hk.elim) ?aF ?aO ?aB ?aS ?aL ?_;(case aP=>exact rfl);(case aB=>exact (bmv HB.out));(case aF=>exact (fun k_ hk=>⟨Kd.fresh' (Kd.R_lt (R_mv HO_7.out)) k_ hk,Kd.fresh' (Kd.R_lt (R_mv HO_9.out)) k_ hk,Kd.fresh' (Kd.R_lt (R_mv HO_10.out)) k_ hk,Kd.fresh' (Kd.R_lt (R_mv HO430.out)) k_ hk⟩));(case aO=>exact (R_mv (Kd.R_mono HO_6.out (fun _ hk=>⟨hk.1.1,⟨hk.1.2.1,⟨hk.1.2.2,hk.2⟩⟩⟩))));(case aS=>exact (bwZ (bmv HB.out)));(case aL=>have:=LMc17.out;omega);intro v433 w23 ho hb hg hat;rw [← Ny432.out] at ho;have HO434:=Az.mk (ho);replace HO_7:=Az.mk (Kd.R_after (ok:=(fun k_=>some k_≠(.slice (some ad431) t421.length co19 : Value).ownBlock∧some k_≠(.slice (some ad427) t424.length co20 : Value).ownBlock∧some k_≠(.slice Ao22 t428.length co22 : Value).ownBlock)) (R_mv (Kd.R_mono HO_7.out (fun _ hk=>⟨⟨hk.1.2.1,⟨hk.1.2.2,hk.2⟩⟩,hk.1.1⟩))) hg hat);replace HO_9:=Az.mk (Kd.R_after (ok:=(fun k_=>some k_≠(u7 : Value).ownBlock∧some k_≠(.slice (some ad427) t424.length co20 : Value).ownBlock∧some k_≠(.slice Ao22 t428.length co22 : Value).ownBlock)) (R_mv (Kd.R_mono HO_9.out (fun _ hk=>⟨⟨hk.1.2.1,⟨hk.1.2.2,hk.2⟩⟩,hk.1.1⟩))) hg hat);replace HO_10:=Az.mk (Kd.R_after (ok:=(fun k_=>some k_≠(u7 : Value).ownBlock∧some k_≠(.slice (some ad431) t421.length co19 : Value).ownBlock∧some k_≠(.slice Ao22 t428.length co22 : Value).ownBlock)) (R_mv (Kd.R_mono HO_10.out (fun _ hk=>⟨⟨hk.1.2.1,⟨hk.1.2.2,hk.2⟩⟩,hk.1.1⟩))) hg hat);replace HO430:=Az.mk (Kd.R_after (ok:=(fun k_=>some k_≠(u7 : Value).ownBlock∧some k_≠(.slice (some ad431) t421.length co19 : Value).ownBlock∧some k_≠(.slice (some ad427) t424.length co20 : Value).ownBlock)) (R_mv (Kd.R_mono HO430.out (fun _ hk=>⟨⟨hk.1.1.2,⟨hk.1.2,hk.2⟩⟩,hk.1.1.1.2⟩))) hg hat);replace HB:=Az.mk (hb);clear HO_6;clear ho hb hg hat;have p435 : 0≤(x11_2 : Int):=dt_;have q435 : x11_2 < (t424.length : Int):=dt_;obtain ⟨ad435,e435,hx435_0⟩:=Kd.at_int (Kd.R_reads' HO_10.out).2.2 x11_2 p435 q435;obtain rfl : ad427 = ad435:=(by injection e435);replace p435:=eq_true p435;replace q435:=eq_true q435) | ((with_reducible refine gate_builtin (b:=.append) (xs:=#[.tmp 53,.tmp 58]) rfl ?_);at_builtin;refine Kd.R_append (Kd.int .i64) (w0:=w) w.heap.size rfl (.tmp 53) (.tmp 58) 27 3 (.int .i64 0) 8 rfl Tryd.underlying27 info3 rfl (by decide) (by omega) u7 x7_2 (rd t424 x11_2) [.int .i64 (rd t424 x11_2)] (fun k_=>some k_≠(.slice (some ad431) t421.length co19 : Value).ownBlock∧some k_≠(.slice (some ad427) t424.length co20 : Value).ownBlock∧some k_≠(.slice Ao22 t428.length co22 : Value).ownBlock∧some k_≠(v433 : Value).ownBlock) (fun _=>False) rfl rfl ?aP (fun _ hk=>hk.elim) ?aF ?aO ?aB ?aS ?aL ?_;(case aP=>exact rfl);(case aB=>exact (bmv HB.out));(case aF=>exact (fun k_ hk=>⟨Kd.fresh' (Kd.R_lt (R_mv HO_9.out)) k_ hk,Kd.fresh' (Kd.R_lt (R_mv HO_10.out)) k_ hk,Kd.fresh' (Kd.R_lt (R_mv HO430.out)) k_ hk,Kd.fresh' (Kd.R_lt (R_mv HO434.out)) k_ hk⟩));(case aO=>exact (R_mv (Kd.R_mono HO_7.out (fun _ hk=>⟨hk.1.1,⟨hk.1.2.1,⟨hk.1.2.2,hk.2⟩⟩⟩))));(case aS=>exact (bwZ (bmv HB.out)));(case aL=>have:=LMc18.out;omega);intro v437 w24 ho hb hg hat;rw [← Ny436.out] at ho;have HO438:=Az.mk (ho);replace HO_9:=Az.mk (Kd.R_after (ok:=(fun k_=>some k_≠(.slice (some ad427) t424.length co20 : Value).ownBlock∧some k_≠(.slice Ao22 t428.length co22 : Value).ownBlock∧some k_≠(v433 : Value).ownBlock)) (R_mv (Kd.R_mono HO_9.out (fun _ hk=>⟨⟨hk.1.2.1,⟨hk.1.2.2,hk.2⟩⟩,hk.1.1⟩))) hg hat);replace HO_10:=Az.mk (Kd.R_after (ok:=(fun k_=>some k_≠(.slice (some ad431) t421.length co19 : Value).ownBlock∧some k_≠(.slice Ao22 t428.length co22 : Value).ownBlock∧some k_≠(v433 : Value).ownBlock)) (R_mv (Kd.R_mono HO_10.out (fun _ hk=>⟨⟨hk.1.2.1,⟨hk.1.2.2,hk.2⟩⟩,hk.1.1⟩))) hg hat);replace HO430:=Az.mk (Kd.R_after (ok:=(fun k_=>some k_≠(.slice (some ad431) t421.length co19 : Value).ownBlock∧some k_≠(.slice (some ad427) t424.length co20 : Value).ownBlock∧some k_≠(v433 : Value).ownBlock)) (R_mv (Kd.R_mono HO430.out (fun _ hk=>⟨⟨hk.1.2.1,⟨hk.1.2.2,hk.2⟩⟩,hk.1.1⟩))) hg hat);replace HO434:=Az.mk (Kd.R_after (ok:=(fun k_=>some k_≠(.slice (some ad431) t421.length co19 : Value).ownBlock∧some k_≠(.slice (some ad427) t424.length co20 : Value).ownBlock∧some k_≠(.slice Ao22 t428.length co22 : Value).ownBlock)) (R_mv (Kd.R_mono HO434.out (fun _ hk=>⟨⟨hk.2.1,⟨hk.2.2.1,hk.2.2.2⟩⟩,hk.1⟩))) hg hat);replace HB:=Az.mk (hb);clear HO_7;clear ho hb hg hat))
                   go_roundg k2
                   case measure=>have:=HJ2.out;have:=HK2.out;omega
                   case rel=>exact ⟨(y432),(y436),(wrap64 (x11_2 + 1)),rs_,H',⟨by have:=HJ2.out;have:=HK2.out;omega⟩,⟨R_mv (Kd.R_mono HO434.out (fun _ hk=>⟨hk.2,⟨hk.1.1,hk.1.2.1⟩⟩))⟩,⟨R_mv (Kd.R_mono HO438.out (fun _ hk=>⟨hk.2.2.2,⟨hk.1,hk.2.1⟩⟩))⟩,⟨R_mv (Kd.R_mono HO_9.out (fun _ hk=>⟨hk.1.2.2,⟨hk.2,hk.1.1⟩⟩))⟩,⟨R_mv (Kd.R_mono HO_10.out (fun _ hk=>⟨hk.1.2.2,⟨hk.2,hk.1.1⟩⟩))⟩,⟨bmv HB.out⟩⟩
                 · rw [if_neg c18] at H
                   exact absurd H (by simp)
               · rw [if_neg c17] at H
                 exact absurd H (by simp)
             · rw [if_neg c16] at H
               have c16b0 : decide (0 < (t428.length : Int)) = false:=decide_eq_false c16;have c16b1 : decide (0 < t428.length) = false:=decide_eq_false (by omega);clear c16;have H':=Az.mk H;clear H;obtain ⟨Ao25,co25,eo25⟩:=Kd.R_slice HO_9.out;subst eo25;obtain ⟨Ao26,co26,eo26⟩:=Kd.R_slice HO_10.out;subst eo26;have p427 : 0≤(x11_2 : Int):=dt_;have q427 : x11_2 < (t424.length : Int):=dt_;obtain ⟨ad427,e427,hx427_0⟩:=Kd.at_int (Kd.R_reads' HO_10.out).2.2 x11_2 p427 q427;cases e427;replace p427:=eq_true p427;replace q427:=eq_true q427
               go_wp2_with (first | ((with_reducible refine gate_callee (f:=38) rfl ?_);refine goesL_ (some 43) rfl rfl Tryd.func38 (by kernel_rfl) rfl #[.slice A0 l0.length c0,.int .i64 (rd t424 x11_2)] rfl tl_ ?_;(with_reducible refine (r4Resolution.calls k2 _ _ l0 (rd t424 x11_2) t428 _ ?side1 ?side2 A15.out).mono ?_);(case side1=>exact C_mv ((Kd.C_below HR0.out HB.out)));(case side2=>exact HC0.out);rintro e w27 ⟨v429,rfl,ho0,hb⟩;refine ⟨_,rfl,?_⟩;have HO430:=Az.mk (Kd.R_lower (Kd.R_new' (Kd.R_new' (Kd.R_new' (Kd.R_new' ho0 (Kd.R_lt (R_mv HO_6.out))) (Kd.R_lt (R_mv HO_7.out))) (Kd.R_lt (R_mv HO_9.out))) (Kd.R_lt (R_mv HO_10.out))) (bwZ (bmv HB.out)));replace HO_6:=Az.mk (Kd.R_elder' (R_mv HO_6.out) (Kd.R_base ho0) hb);replace HO_7:=Az.mk (Kd.R_elder' (R_mv HO_7.out) (Kd.R_base ho0) hb);replace HO_9:=Az.mk (Kd.R_elder' (R_mv HO_9.out) (Kd.R_base ho0) hb);replace HO_10:=Az.mk (Kd.R_elder' (R_mv HO_10.out) (Kd.R_base ho0) hb);replace HB:=Az.mk (bwT (bmv HB.out) hb);(try clear hb);(try clear hb2);(try clear hk);(try clear hi);(try clear ho0);obtain ⟨Ao28,co28,eo28⟩:=Kd.R_slice HO430.out;subst eo28))
               go_roundg k2
               case measure=>have:=HJ2.out;have:=HK2.out;omega
               case rel=>exact ⟨(x6_2),(x7_2),(wrap64 (x11_2 + 1)),rs_,H',⟨by have:=HJ2.out;have:=HK2.out;omega⟩,⟨R_mv (Kd.R_mono HO_6.out (fun _ hk=>⟨hk.1.1,⟨hk.1.2.1,hk.1.2.2⟩⟩))⟩,⟨R_mv (Kd.R_mono HO_7.out (fun _ hk=>⟨hk.1.1,⟨hk.1.2.1,hk.1.2.2⟩⟩))⟩,⟨R_mv (Kd.R_mono HO_9.out (fun _ hk=>⟨hk.1.1,⟨hk.1.2.1,hk.1.2.2⟩⟩))⟩,⟨R_mv (Kd.R_mono HO_10.out (fun _ hk=>⟨hk.1.1,⟨hk.1.2.1,hk.1.2.2⟩⟩))⟩,⟨bmv HB.out⟩⟩
           · rw [if_neg c14] at H
             exact absurd H (by simp)
         · rw [if_neg c13] at H
           exact absurd H (by simp)
       · rw [if_neg c12] at H
         have c12b0 : decide (x11_2 < (t421.length : Int)) = false:=decide_eq_false c12;clear c12;simp only [Option.some.injEq,Prod.mk.injEq] at H;obtain ⟨rfl,rfl⟩:=H;obtain ⟨Ao29,co29,eo29⟩:=Kd.R_slice HO_9.out;subst eo29
         go_wp2
         go_ret2
         exact ⟨_,_,by first | rfl | (simp [errW_none,errW_some] <;> rfl) | (simp [*,errW_none,errW_some] <;> rfl),R_mv (Kd.R_mono HO_6.out (fun _ hk=>hk.1)),R_mv (Kd.R_mono HO_7.out (fun _ hk=>hk.1)),bmv HB.out⟩
end Go.Proofs.YtbblomnhobodkaaDoor.PTw
