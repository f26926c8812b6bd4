/- What this claim reaches of longer texts of this session. -/
import Derived.Test.YtbblomnhobodkaaDoorBase
import Derived.Test.YtbblomnhobodkaaDoorPTwx1
import Derived.Test.YtbblomnhobodkaaDoorPTwx4
import Derived.Test.YtbblomnhobodkaaDoorPTwx8
import Derived.Test.YtbblomnhobodkaaDoorPTwx18
import Derived.Shelf.Spec.TrailingZeros
import Derived.Lib.ItoaNum
import Derived.Lib.LaidTab
import Derived.Laws.Bits64
import Derived.Lib.Hide
import Derived.RangeFuncBox
import Derived.Maps.AppendAt
import Derived.Lib.SliceRun
import Derived.Shelf.Spec.SlicesInsert
import Derived.Shelf.Spec.SlicesInsertGrow
import Derived.Deep.DeepCutAuto
import Derived.Test.YtbblomnhobodkaaDoorPTwx24
import Derived.DataShut
import Derived.Test.YtbblomnhobodkaaDoorPTwx5
import Derived.Test.YtbblomnhobodkaaDoorPTwx6
import Derived.Test.YtbblomnhobodkaaDoorPTwx16
namespace Go.Proofs.YtbblomnhobodkaaDoor.PTw
open Go.RowKit Go.Proofs.YtbblomnhobodkaaDoorW.PW Go.Proofs.YtbblomnhobodkaaDoorW.PL Go.Proofs.YtbblomnhobodkaaDoorW.PM
attribute [local go_sem] max2_int min2_int max_two min_two max_three min_three max_four min_four   -- for this text's walks alone
set_option linter.unusedVariables false
set_option linter.unusedSimpArgs false
def tree_clean.l0 : Nat→List Int→Int→Int→List (S29)→Option ((List (S29)))
 | 0,_,_,_,_=>none
 | k + 1,x16,x17,x18,x29=>if x18 < x17 then (if 0≤x18 then (if x18 < (x16.length : Int) then (if 0≤(rd x16 x18) then (if (rd x16 x18) < (x29.length : Int) then (tree_clean.l0 k x16 x17 (wrap64 (x18 + 1)) (x29.set ((rd x16 x18) : Int).toNat (⟨false,0,0,0,0,([] : List Int)⟩ : S29))) else (none)) else (none)) else (none)) else (none)) else (some x29)
def tree_clean.f (k : Nat) (l0 : List (S29)) (a1 : Int) : Option ((List (S29))):=(tree_Leaves.f l0).bind fun t598=>((heap_Path.f (wrap64 (2 * a1)) t598).bind fun bt599=>(tree_clean.l0 k bt599.1 (bt599.1.length : Int) 0 l0))
theorem tree_clean.mono_l : ∀ k,(∀ y0 y1 y2 y3,LeO (tree_clean.l0 k y0 y1 y2 y3) (tree_clean.l0 (k + 1) y0 y1 y2 y3))
 | 0=>fun _ _ _ _ r h=>by simp [tree_clean.l0] at h
 | k + 1=>by
  have ih0:=tree_clean.mono_l k
  · intro y0 y1 y2 y3
    unfold tree_clean.l0
    repeat' first
    | (with_reducible exact ih0 _ _ _ _)
    | (with_reducible exact LeO.refl _)
    | (with_reducible exact LeO.none _)
    | (with_reducible refine LeO.ite ?_ ?_)
    | (with_reducible refine LeO.bind ?_ (fun _=>?_))
    | exact ih0 _ _ _ _
    | exact LeO.none _
    | refine LeO.ite ?_ ?_
    | refine LeO.bind ?_ (fun _=>?_)
theorem tree_clean.mono : ∀ a0 a1 k,LeO (tree_clean.f k a0 a1) (tree_clean.f (k + 1) a0 a1):=by
 intro a0 a1 k
 have ih0:=tree_clean.mono_l k
 unfold tree_clean.f
 repeat' first
  | (with_reducible exact ih0 _ _ _ _)
  | (with_reducible exact LeO.refl _)
  | (with_reducible exact LeO.none _)
  | (with_reducible refine LeO.ite ?_ ?_)
  | (with_reducible refine LeO.bind ?_ (fun _=>?_))
  | exact ih0 _ _ _ _
  | exact LeO.none _
  | refine LeO.ite ?_ ?_
  | refine LeO.bind ?_ (fun _=>?_)
set_option maxHeartbeats 8000000 in
set_option maxRecDepth 100000 in
theorem tree_clean.calls (k : Nat) (A0 : Option Addr) (c0 : Nat) (l0 : List (S29)) (a1 : Int) (r : List (S29)) (ok : Nat→Prop) (w0 w : World) (hrG : TabG w) (hs : Kd.S k29 29 w w0.heap.size ok (.slice A0 l0.length c0) l0) (hB : Below w0.heap.size w0 w) (h : tree_clean.f k l0 a1 = some r) :
 Calls Tryd.prog 61 #[.slice A0 l0.length c0,.int .i64 a1] w fun e w'=>e = .returned (.tuple #[])∧Kd.S k29 29 w' w0.heap.size ok (.slice A0 l0.length c0) r∧Below w0.heap.size w0 w'∧Kept w w' ok:=by
 have huV:=Tryd.underlying29
 have HT:=Az.mk hrG
 have HO597:=Az.mk hs
 have HB:=Az.mk hB
 have HKE:=Az.mk (Kept.refl w ok)
 have H:=h
 clear h hs hB hrG
 unfold tree_clean.f at H
 obtain ⟨t598,A40,H⟩:=Option.bind_eq_some_iff.mp H
 have A4:=Az.mk A40
 clear A40
 obtain ⟨⟨t599,t600⟩,A50,H⟩:=Option.bind_eq_some_iff.mp H
 replace H : (tree_clean.l0 k t599 (t599.length : Int) 0 l0) = some r:=H
 have A5:=Az.mk A50
 clear A50
 have H':=Az.mk H
 clear H
 go_enter Tryd.func61,Tryd.ntmps61
 go_wp2_with (first | ((with_reducible refine gate_callee (f:=29) rfl ?_);refine goesL_ (some 12) rfl rfl Tryd.func29 (by kernel_rfl) rfl #[.slice A0 l0.length c0] rfl (by (try simp only [List.map_toArray,List.map_cons,List.map_nil]);first | done | rfl) ?_;(with_reducible refine (tree_Leaves.calls _ _ l0 t598 _ ?side1 ?side2 A4.out).mono ?_);(case side1=>repeat (first | exact (Kd.S_reads' HO597.out).2.2 | (with_reducible refine Kd.C_alloc ?_ _) | (with_reducible refine Kd.C_drewN ?_ _) | (with_reducible refine Kd.C_drew ?_)));(case side2=>exact (Kd.S_reads' HO597.out).2.1);rintro e w' ⟨rfl,⟨nd,rfl⟩⟩;refine ⟨_,rfl,?_⟩) | ((with_reducible refine gate_callee (f:=52) rfl ?_);refine goesL_ (some 13) rfl rfl Tryd.func52 (by kernel_rfl) rfl #[.int .i64 (wrap64 (2 * a1)),.int .i64 t598] rfl (by (try simp only [List.map_toArray,List.map_cons,List.map_nil]);first | done | rfl) ?_;(with_reducible refine (heap_Path.calls (hrG:=?sideG) (wrap64 (2 * a1)) t598 t599 t600 _ A5.out).mono ?_);(case sideG=>first | exact HT.out | exact HT.out.drewN _ | exact (HT.out.drewN _).drewN _);rintro e w7 ⟨v601,rfl,ho0,hb⟩;refine ⟨_,rfl,?_⟩;have n0_:=Az.mk (Kd.S_elder' (by (with_reducible repeat (first | apply Kd.S_alloc | apply Kd.S_drewN | apply Kd.S_drew));exact HO597.out) (Kd.R_base ho0) hb);have n1_:=Az.mk (show Kd.R (Kd.int .i64) 3 w7 w.heap.size (fun _=>True) v601 t599 from ho0);have n2_:=Az.mk (bwT (by repeat (first | (with_reducible first | exact HB.out | apply bwA | apply bwN | apply bw1) | exact HB.out)) hb);have n3_:=Az.mk (show Kept w w7 ok from (Kept.drewN HKE.out _).below hb);clear HO597;clear HB;clear HKE;have HO597:=n0_;have HO602:=n1_;have HB:=n2_;have HKE:=n3_;clear n0_ n1_ n2_ n3_;(try clear hb);(try clear ho0);obtain ⟨Ao8,co8,eo8⟩:=Kd.R_slice HO602.out;subst eo8))
 go_loopg [18] k (fun kq v18 w'=>∃ (x18_1 : Int) (x29_1 : List (S29)),v18 = .int .i64 x18_1∧Az (tree_clean.l0 kq t599 (t599.length : Int) x18_1 x29_1 = some r)∧Az (kq≤k)∧Az (Kd.R (Kd.int .i64) 3 w' w.heap.size (fun _=>True) (.slice Ao8 t599.length co8) t599)∧Az (Kd.S k29 29 w' w0.heap.size (fun k_=>ok k_∧some k_≠((.slice Ao8 t599.length co8) : Value).ownBlock) (.slice A0 l0.length c0) x29_1)∧Az (Below w0.heap.size w0 w')∧Az (Kept w w' ok))
 case atStart=>exact ⟨(0),(l0),(by first | rfl | (simp;done) | (simp [*];done)),H',⟨Nat.le_refl _⟩,⟨by (with_reducible repeat (first | apply Kd.R_alloc | apply Kd.R_drewN | apply Kd.R_drew));exact HO602.out⟩,⟨by (with_reducible repeat (first | apply Kd.S_alloc | apply Kd.S_drewN | apply Kd.S_drew));exact HO597.out⟩,⟨by repeat (first | (with_reducible first | exact HB.out | apply bwA | apply bwN | apply bw1) | exact HB.out)⟩,⟨HKE.out⟩⟩
 case round=>
  clear H'
  try clear c2
  try clear p2
  try clear c5
  try clear c6
  try clear p6
  obtain ⟨x18_1,x29_1,rfl,HA,HK1,HO_16,HO_29,HB,HKE⟩:=hrel
  have hl29:=Az.mk (Kd.S_reads' HO_29.out).1
  cases gk with
  | zero=>exact absurd HA.out (by simp [tree_clean.l0])
  | succ k1=>
   have H:=HA.out
   clear HA
   simp only [tree_clean.l0] at H
   by_cases c9 : x18_1 < (t599.length : Int)
   · rw [if_pos c9] at H
     have c9b0 : decide (x18_1 < (t599.length : Int)) = true:=decide_eq_true c9
     clear c9
     by_cases c10 : 0≤x18_1
     · rw [if_pos c10] at H
       have c10b0 : decide (0≤x18_1) = true:=decide_eq_true c10
       clear c10
       by_cases c11 : x18_1 < (t599.length : Int)
       · rw [if_pos c11] at H
         have c11b0 : decide (x18_1 < (t599.length : Int)) = true:=decide_eq_true c11
         clear c11
         by_cases c12 : 0≤(rd t599 x18_1)
         · rw [if_pos c12] at H
           have c12b0 : decide (0≤(rd t599 x18_1)) = true:=decide_eq_true c12
           clear c12
           by_cases c13 : (rd t599 x18_1) < (x29_1.length : Int)
           · rw [if_pos c13] at H
             have c13b0 : decide ((rd t599 x18_1) < (x29_1.length : Int)) = true:=decide_eq_true c13
             have c13b1 : decide ((rd t599 x18_1) < (l0.length : Int)) = true:=decide_eq_true (by have:=hl29.out;omega)
             clear c13
             obtain ⟨y604,hy604⟩ : ∃ y_ : List (S29),y_ = (x29_1.set ((rd t599 x18_1) : Int).toNat (⟨false,0,0,0,0,([] : List Int)⟩ : S29)):=⟨_,rfl⟩
             replace H : (tree_clean.l0 k1 t599 (t599.length : Int) (wrap64 (x18_1 + 1)) y604) = some r:=by first | (rw [hy604];with_reducible exact H) | (have H2_:=(Option.bind_some _ _).symm.trans H;rw [hy604];with_reducible exact H2_) | (have H2_:=(Option.bind_some _ _).symm.trans H;with_reducible exact H2_) | with_reducible exact H | (rw [hy604];exact H) | exact H
             have Ny604:=Az.mk hy604
             clear hy604
             have H':=Az.mk H
             clear H
             have p603 : 0≤(x18_1 : Int):=of_decide_eq_true (by first | (with_reducible assumption) | assumption)
             have q603 : x18_1 < (t599.length : Int):=of_decide_eq_true (by first | (with_reducible assumption) | assumption)
             obtain ⟨ad603,e603,hx603_0⟩:=Kd.at_int (Kd.R_reads' HO_16.out).2.2 x18_1 p603 q603
             cases e603
             replace p603:=eq_true p603
             replace q603:=eq_true q603
             have p14 : 0≤((rd t599 x18_1) : Int):=of_decide_eq_true (by first | (with_reducible assumption) | assumption)
             have q14 : ((rd t599 x18_1) : Int) < ((l0.length : Int) : Int):=of_decide_eq_true (by first | (with_reducible assumption) | assumption)
             obtain ⟨go14,co14,eo14,gb14,gl14,cl14,HG14⟩:=Kd.S_form HO_29.out (by have:=hl29.out;omega)
             (first | cases eo14 | (injection eo14 with ea_ en_ ec_;(first | subst ea_ | (injection ea_ with ea_;subst ea_));subst ec_;clear en_))
             have GB14:=Az.mk gb14
             have GG14:=Az.mk HG14
             clear gb14 gl14 HG14
             obtain ⟨_,ce14,hcl14,hM14,hcc14,hfr14,_,_⟩:=Kd.S_elem HO_29.out z29 ((rd t599 x18_1) : Int) p14 q14
             obtain ⟨ve14_5,rfl,ge14_5⟩:=k29_openM hM14
             have hx14_0 : wr.cell? ⟨go14,((rd t599 x18_1) : Int).toNat * 6,none⟩ = some (.bool ((rd_T29 x29_1 (rd t599 x18_1)).f0)):=hcc14 0 _ rfl
             have hx14_1 : wr.cell? ⟨go14,((rd t599 x18_1) : Int).toNat * 6 + 1,none⟩ = some (.int .i64 ((rd_T29 x29_1 (rd t599 x18_1)).f1)):=hcc14 1 _ rfl
             have hx14_2 : wr.cell? ⟨go14,((rd t599 x18_1) : Int).toNat * 6 + 2,none⟩ = some (.int .i64 ((rd_T29 x29_1 (rd t599 x18_1)).f2)):=hcc14 2 _ rfl
             have hx14_3 : wr.cell? ⟨go14,((rd t599 x18_1) : Int).toNat * 6 + 3,none⟩ = some (.int .i64 ((rd_T29 x29_1 (rd t599 x18_1)).f3)):=hcc14 3 _ rfl
             have hx14_4 : wr.cell? ⟨go14,((rd t599 x18_1) : Int).toNat * 6 + 4,none⟩ = some (.int .i64 ((rd_T29 x29_1 (rd t599 x18_1)).f4)):=hcc14 4 _ rfl
             have hx14_5 : wr.cell? ⟨go14,((rd t599 x18_1) : Int).toNat * 6 + 5,none⟩ = some (ve14_5):=hcc14 5 _ rfl
             have hf14_0 : wr.frozen? ⟨go14,((rd t599 x18_1) : Int).toNat * 6,none⟩ = false:=hfr14 0
             have hf14_1 : wr.frozen? ⟨go14,((rd t599 x18_1) : Int).toNat * 6 + 1,none⟩ = false:=hfr14 1
             have hf14_2 : wr.frozen? ⟨go14,((rd t599 x18_1) : Int).toNat * 6 + 2,none⟩ = false:=hfr14 2
             have hf14_3 : wr.frozen? ⟨go14,((rd t599 x18_1) : Int).toNat * 6 + 3,none⟩ = false:=hfr14 3
             have hf14_4 : wr.frozen? ⟨go14,((rd t599 x18_1) : Int).toNat * 6 + 4,none⟩ = false:=hfr14 4
             have hf14_5 : wr.frozen? ⟨go14,((rd t599 x18_1) : Int).toNat * 6 + 5,none⟩ = false:=hfr14 5
             clear hcl14 hcc14 hfr14 hM14
             replace p14:=eq_true p14
             replace q14:=eq_true q14
             have HX15:=Az.mk (show Kd.S k29 29 wr w0.heap.size (fun k_=>((fun k_=>ok k_∧some k_≠(.slice (some ad603) t599.length co8 : Value).ownBlock)) k_∧¬ ((fun _=>False)) k_) (.slice (some ⟨go14,0,none⟩) l0.length c0) x29_1 from (by (with_reducible repeat (first | apply Kd.S_alloc | apply Kd.S_drewN | apply Kd.S_drew));exact Kd.S_mono HO_29.out (fun k_ hk=>⟨hk,fun e_=>e_⟩)))
             obtain ⟨oki15,ce15,hcl15,hM15,hcc15,hfr15,hoki15,hH15⟩:=Kd.S_elem HX15.out z29 ((rd t599 x18_1) : Int) (of_decide_eq_true (by first | (with_reducible assumption) | assumption)) (by have h_ : ((rd t599 x18_1) : Int) < ((l0.length : Int) : Int):=of_decide_eq_true (by first | (with_reducible assumption) | assumption);first | exact h_ | (have e_:=(Kd.S_reads' HO_29.out).1;omega) | simpa using h_)
             obtain ⟨ve15_5,rfl,ge15_5⟩:=k29_openM hM15
             have HP15:=Kd.S_seg hH15 (of_decide_eq_true (by first | (with_reducible assumption) | assumption)) (by have h_ : ((rd t599 x18_1) : Int) < ((l0.length : Int) : Int):=of_decide_eq_true (by first | (with_reducible assumption) | assumption);first | exact h_ | (have e_:=(Kd.S_reads' HO_29.out).1;omega) | simpa using h_) (seg:=[.bool false,.int .i64 0,.int .i64 0,.int .i64 0,.int .i64 0,.slice none 0 0]) (j:=0) (show 6≤6 from by decide) (x':=(⟨false,0,0,0,0,([] : List Int)⟩ : S29)) (k29_mkM _ _ _ (⟨false,0,0,0,0,([] : List Int)⟩ : S29) (Kd.R_nil _ _ _ _ _)) (fun _ hk=>hk) (fun k_ hk_=>hk_.elim)
             have hx15_0:=hcc15 0 _ rfl
             (try simp only [show (k29).sz = 6 from rfl,Nat.mul_one,Nat.add_zero] at hx15_0)
             have hf15_0:=hfr15 0
             (try simp only [show (k29).sz = 6 from rfl,Nat.mul_one,Nat.add_zero] at hf15_0)
             have hx15_1:=hcc15 1 _ rfl
             (try simp only [show (k29).sz = 6 from rfl,Nat.mul_one,Nat.add_zero] at hx15_1)
             have hf15_1:=hfr15 1
             (try simp only [show (k29).sz = 6 from rfl,Nat.mul_one,Nat.add_zero] at hf15_1)
             have hx15_2:=hcc15 2 _ rfl
             (try simp only [show (k29).sz = 6 from rfl,Nat.mul_one,Nat.add_zero] at hx15_2)
             have hf15_2:=hfr15 2
             (try simp only [show (k29).sz = 6 from rfl,Nat.mul_one,Nat.add_zero] at hf15_2)
             have hx15_3:=hcc15 3 _ rfl
             (try simp only [show (k29).sz = 6 from rfl,Nat.mul_one,Nat.add_zero] at hx15_3)
             have hf15_3:=hfr15 3
             (try simp only [show (k29).sz = 6 from rfl,Nat.mul_one,Nat.add_zero] at hf15_3)
             have hx15_4:=hcc15 4 _ rfl
             (try simp only [show (k29).sz = 6 from rfl,Nat.mul_one,Nat.add_zero] at hx15_4)
             have hf15_4:=hfr15 4
             (try simp only [show (k29).sz = 6 from rfl,Nat.mul_one,Nat.add_zero] at hf15_4)
             have hx15_5:=hcc15 5 _ rfl
             (try simp only [show (k29).sz = 6 from rfl,Nat.mul_one,Nat.add_zero] at hx15_5)
             have hf15_5:=hfr15 5
             (try simp only [show (k29).sz = 6 from rfl,Nat.mul_one,Nat.add_zero] at hf15_5)
             clear hcl15 hcc15 hfr15 hM15 hoki15 hH15
             go_wp2_with (first | ((with_reducible refine gate_store (t:=29) (p:=25) rfl ?_);refine store_event (t:=29) (p:=25) (v:=?vo_w16) (w1:=((((((wr.setCell ⟨go14,((rd t599 x18_1) : Int).toNat * 6,none⟩ (.bool false)).setCell ⟨go14,((rd t599 x18_1) : Int).toNat * 6 + 1,none⟩ (.int .i64 0)).setCell ⟨go14,((rd t599 x18_1) : Int).toNat * 6 + 2,none⟩ (.int .i64 0)).setCell ⟨go14,((rd t599 x18_1) : Int).toNat * 6 + 3,none⟩ (.int .i64 0)).setCell ⟨go14,((rd t599 x18_1) : Int).toNat * 6 + 4,none⟩ (.int .i64 0)).setCell ⟨go14,((rd t599 x18_1) : Int).toNat * 6 + 5,none⟩ (.slice none 0 0))) ?hg ?ho ?hn ?hr ?_;(case ho=>rfl);(case hg=>rfl);(case hn=>rfl);(case hr=>first | (go_simp;done) | (go_simp;rfl));intro w16 hw;have hg : wr.grownBy w16 (some go14):=(by rw [hw];exact HP15.2);have hp_ : Kd.S k29 29 w16 w0.heap.size (fun k_=>ok k_∧some k_≠(.slice (some ad603) t599.length co8 : Value).ownBlock) (.slice (some ⟨go14,0,none⟩) l0.length c0) y604:=(by rw [hw,Ny604.out];exact HP15.1);clear HP15;have n0_:=Az.mk (Kd.R_over' (v:=(.slice (some ⟨go14,0,none⟩) l0.length c0)) (by (with_reducible repeat (first | apply Kd.R_alloc | apply Kd.R_drewN | apply Kd.R_drew));exact HO_16.out) (Kd.S_typed HO_29.out) (by decide) hg);have n1_:=Az.mk (hp_);have n2_:=Az.mk ((by rw [hw];exact bwS (bwS (bwS (bwS (bwS (bwS (HB.out) GB14.out) GB14.out) GB14.out) GB14.out) GB14.out) GB14.out : Below w0.heap.size w0 w16));have n3_:=Az.mk (Kept.of_grown hg HKE.out (fun k_ e_=>by cases e_;exact .inl ((Kd.S_R HO_29.out).1 _ rfl).1));clear HO_16;clear HO_29;clear HB;clear HKE;have HO_16:=n0_;have HO_29:=n1_;have HB:=n2_;have HKE:=n3_;clear n0_ n1_ n2_ n3_;clear hg hw hp_))
             go_roundg k1
             case measure=>have:=HK1.out;omega
             case rel=>exact ⟨(wrap64 (x18_1 + 1)),(y604),(by first | rfl | (simp;done) | (simp [*];done)),H',⟨by have:=HK1.out;omega⟩,⟨by (with_reducible repeat (first | apply Kd.R_alloc | apply Kd.R_drewN | apply Kd.R_drew));exact HO_16.out⟩,⟨by (with_reducible repeat (first | apply Kd.S_alloc | apply Kd.S_drewN | apply Kd.S_drew));exact HO_29.out⟩,⟨by repeat (first | (with_reducible first | exact HB.out | apply bwA | apply bwN | apply bw1) | exact HB.out)⟩,⟨HKE.out⟩⟩
           · rw [if_neg c13] at H
             exact absurd H (by simp)
         · rw [if_neg c12] at H
           exact absurd H (by simp)
       · rw [if_neg c11] at H
         exact absurd H (by simp)
     · rw [if_neg c10] at H
       exact absurd H (by simp)
   · rw [if_neg c9] at H
     have c9b0 : decide (x18_1 < (t599.length : Int)) = false:=decide_eq_false c9
     clear c9
     obtain rfl:=Option.some.inj H
     go_wp2
     go_end0
     exact ⟨rfl,Kd.S_mono HO_29.out (fun _ hk=>hk.1),HB.out,HKE.out⟩
def tree_Merge.l0 : Nat→List Int→List Int→List Int→List (S29)→Int→Option (List (S29) × Int)
 | 0,_,_,_,_,_=>none
 | k + 1,p,ks,hs,x,j=>if j < (p.length : Int) then (if 0≤j then (if j < (ks.length : Int) then (if j < (hs.length : Int) then (if 0≤rd p j then (if rd p j < (x.length : Int) then tree_Merge.l0 k p ks hs (x.set (rd p j).toNat (⟨true,rd ks j,0,0,rd hs j,([] : List Int)⟩ : S29)) (wrap64 (j + 1)) else none) else none) else none) else none) else none) else some (x,0)
def tree_Merge.f (k : Nat) (l0 : List (S29)) (a1 : Int) (a2_0 : Bool) (a2_1 : Int) (a2_2 : Int) (a2_3 : Int) (a2_4 : Int) (l2_5 : List Int) (l3 : List Int) (l4 : List Int) : Option ((List (S29)) × Int):=(tree_full.f l0 a1).bind fun t=>if t = true then ((tree_Filtered.f k l0 a1).bind fun p=>if l3.length = p.1.length∧l4.length = p.1.length then ((tree_copied.f k l0).bind fun t2=>if 0≤(wrap64 (2 * a1)) then (if (wrap64 (2 * a1)) < (t2.length : Int) then ((tree_clean.f k (t2.set ((wrap64 (2 * a1)) : Int).toNat (⟨true,a2_1,a2_2,a2_3,a2_4,([] : List Int)⟩ : S29)) a1).bind fun t3=>tree_Merge.l0 k p.1 l3 l4 t3 0) else none) else none) else some (([] : List (S29)),30)) else some (([] : List (S29)),40)
theorem tree_Merge.mono_l : ∀ k y0 y1 y2 y3 y4,LeO (tree_Merge.l0 k y0 y1 y2 y3 y4) (tree_Merge.l0 (k + 1) y0 y1 y2 y3 y4)
 | 0=>fun _ _ _ _ _ r h=>by simp [tree_Merge.l0] at h
 | k + 1=>by
  intro y0 y1 y2 y3 y4
  unfold tree_Merge.l0
  exact LeO.ite (LeO.ite (LeO.ite (LeO.ite (LeO.ite (LeO.ite (tree_Merge.mono_l k _ _ _ _ _) (LeO.none _)) (LeO.none _)) (LeO.none _)) (LeO.none _)) (LeO.none _)) (LeO.refl _)
theorem tree_Merge.mono : ∀ a0 a1 a2 a3 a4 a5 a6 a7 a8 a9 k,LeO (tree_Merge.f k a0 a1 a2 a3 a4 a5 a6 a7 a8 a9) (tree_Merge.f (k + 1) a0 a1 a2 a3 a4 a5 a6 a7 a8 a9):=by
 intro a0 a1 a2 a3 a4 a5 a6 a7 a8 a9 k
 unfold tree_Merge.f
 refine LeO.bind (LeO.refl _) (fun _=>LeO.ite (LeO.bind (tree_Filtered.mono _ _ _) (fun _=>LeO.ite (LeO.bind (tree_copied.mono _ _) (fun _=>LeO.ite (LeO.ite (LeO.bind (tree_clean.mono _ _ _) (fun _=>tree_Merge.mono_l _ _ _ _ _ _)) (LeO.none _)) (LeO.none _))) (LeO.refl _))) (LeO.refl _))
set_option maxHeartbeats 8000000 in
set_option maxRecDepth 100000 in
theorem tree_Merge.calls (k : Nat) (A0 : Option Addr) (c0 : Nat) (l0 : List (S29)) (a1 : Int) (a2_0 : Bool) (a2_1 : Int) (a2_2 : Int) (a2_3 : Int) (a2_4 : Int) (P2_5_ : Nat→Prop) (A2_5 : Option Addr) (c2_5 : Nat) (l2_5 : List Int) (A3 : Option Addr) (c3 : Nat) (l3 : List Int) (A4 : Option Addr) (c4 : Nat) (l4 : List Int) (r1 : List (S29)) (r2 : Int) (w : World) (hrG : TabG w) (hr0 : Kd.C k29 w A0 l0.length l0) (hc0 : l0.length≤c0) (hs2_5 : Kd.V (Kd.int .i64) 3 w w.heap.size (fun k_=>P2_5_ k_) (.slice A2_5 l2_5.length c2_5) l2_5) (hr3 : Kd.C (Kd.int .i64) w A3 l3.length l3) (hc3 : l3.length≤c3) (hr4 : Kd.C (Kd.int .i64) w A4 l4.length l4) (hc4 : l4.length≤c4) (h : tree_Merge.f k l0 a1 a2_0 a2_1 a2_2 a2_3 a2_4 l2_5 l3 l4 = some (r1,r2)) :
 Calls Tryd.prog 31 #[.slice A0 l0.length c0,.int .i64 a1,.agg #[.bool a2_0,.int .i64 a2_1,.int .i64 a2_2,.int .i64 a2_3,.int .i64 a2_4,.slice A2_5 l2_5.length c2_5],.slice A3 l3.length c3,.slice A4 l4.length c4] w fun e w'=>∃ v0_ : Value,e = .returned (.tuple #[v0_,.int .i64 r2])∧Kd.S k29 29 w' w.heap.size (fun k_=>(w.heap.size≤k_)) v0_ r1∧Below w.heap.size w w':=by
 have huV:=Tryd.underlying29
 have HT:=Az.mk hrG
 clear hrG
 have HC:=Az.mk hr0
 have HL:=Az.mk hc0
 obtain ⟨_,hl5,hc5⟩:=V_now hs2_5
 have HC5:=Az.mk hc5
 have HL5:=Az.mk hl5
 have HK3:=Az.mk hr3
 have HK4:=Az.mk hr4
 have hn3:=hr3.2.1
 have hn4:=hr4.2.1
 have HN34:=Az.mk (And.intro hn3 hn4)
 clear hr0 hc0 hs2_5 hc5 hl5 hr3 hr4 hn3 hn4
 unfold tree_Merge.f at h
 obtain ⟨t,A40,H⟩:=Option.bind_eq_some_iff.mp h
 have A4_:=Az.mk A40
 clear A40 h
 have HB0:=Az.mk (bwA (Below.refl w.heap.size w) (.cells #[.bool a2_0,.int .i64 a2_1,.int .i64 a2_2,.int .i64 a2_3,.int .i64 a2_4,.slice A2_5 l2_5.length c2_5] 29))
 cases t
 · rw [if_neg (by decide)] at H
   simp only [Option.some.injEq,Prod.mk.injEq] at H
   obtain ⟨rfl,rfl⟩:=H
   go_enter Tryd.func31,Tryd.ntmps31
   go_wp2_with (go_at_call 60;(with_reducible refine (tree_full.calls _ _ l0 a1 false _ (Kd.C_alloc HC.out _) HL.out A4_.out).mono ?_);rintro e w1 ⟨rfl,⟨nd,rfl⟩⟩)
   go_ret2
   exact ⟨_,rfl,Kd.S_nil _ _ _ _ _,bwN HB0.out _⟩
 · rw [if_pos rfl] at H
   obtain ⟨⟨p,q⟩,A50,H⟩:=Option.bind_eq_some_iff.mp H
   have A5_:=Az.mk A50
   clear A50
   dsimp only at H
   go_enter Tryd.func31,Tryd.ntmps31
   go_upto_region 4 with (first
    | (go_at_call 60;(with_reducible refine (tree_full.calls _ _ l0 a1 true _ (Kd.C_alloc HC.out _) HL.out A4_.out).mono ?_);rintro e w1 ⟨rfl,⟨nd,rfl⟩⟩)
    | (go_at_call 23;(with_reducible refine (tree_Filtered.calls _ _ _ l0 a1 p q _ (TabG.below HT.out (bwN HB0.out nd)) (Kd.C_drewN (Kd.C_alloc HC.out _) nd) HL.out A5_.out).mono ?_);rintro e w2 ⟨vp,vq,rfl,hRp,hRq,hb⟩;have HB2:=Az.mk (bwT (bwN HB0.out nd) hb);have HX2:=Az.mk hb;have HRp:=Az.mk (Kd.R_lower hRp (by exact (bwZ (bwN HB0.out nd))));clear hRp hRq hb))
   obtain ⟨Ap,cp,rfl⟩:=Kd.R_slice HRp.out
   have hpl : p.length≤9223372036854775807:=(Kd.R_reads' HRp.out).2.2.2.1
   by_cases hlen : l3.length = p.length∧l4.length = p.length
   case neg=>
    rw [if_neg hlen] at H
    simp only [Option.some.injEq,Prod.mk.injEq] at H
    obtain ⟨rfl,rfl⟩:=H
    by_cases he3 : l3.length = p.length
    · have hb3 : ((l3.length : Int) != (p.length : Int)) = false:=by simp;omega
      have hb4 : ((l4.length : Int) != (p.length : Int)) = true:=by
       have : l4.length≠p.length:=fun e=>hlen ⟨he3,e⟩
       simp;omega
      clear he3 hlen hpl
      go_wp2
      go_ret2
      exact ⟨_,rfl,Kd.S_nil _ _ _ _ _,HB2.out⟩
    · have hb3 : ((l3.length : Int) != (p.length : Int)) = true:=by simp;omega
      clear he3 hlen hpl
      go_wp2
      go_ret2
      exact ⟨_,rfl,Kd.S_nil _ _ _ _ _,HB2.out⟩
   rw [if_pos hlen] at H
   obtain ⟨he3,he4⟩:=hlen
   have HE:=Az.mk (And.intro he3 (And.intro he4 hpl))
   have hb3 : ((l3.length : Int) != (p.length : Int)) = false:=by simp;omega
   have hb4 : ((l4.length : Int) != (p.length : Int)) = false:=by simp;omega
   clear he3 he4 hpl
   obtain ⟨t2,A60,H⟩:=Option.bind_eq_some_iff.mp H
   have A6_:=Az.mk A60
   clear A60
   have ex : ∃ ji,wrap64 (2 * a1) = ji:=⟨_,rfl⟩
   obtain ⟨ji,hji⟩:=ex
   rw [hji] at H
   have hjiw : (IntKind.i64.wrap (2 * a1)) = ji:=(i64_w _).trans hji
   by_cases h0 : 0≤ji
   case neg=>rw [if_neg h0] at H;cases H
   rw [if_pos h0] at H
   by_cases h1 : ji < (t2.length : Int)
   case neg=>rw [if_neg h1] at H;cases H
   rw [if_pos h1] at H
   have HH:=Az.mk H
   clear H
   go_upto_region 7 with (go_at_call 50;(with_reducible refine (tree_copied.calls _ _ _ l0 t2 _ (Kd.C_below (Kd.C_drewN (Kd.C_alloc HC.out _) nd) HX2.out) HL.out A6_.out).mono ?_);rintro e w3 ⟨v3,rfl,hS,hb⟩;have HBX:=Az.mk hb;have HS3:=Az.mk (Kd.S_mono (Kd.S_bound hS) (fun k_ hk=>hk.2.1) : Kd.S k29 29 w3 w2.heap.size (fun k_=>w2.heap.size≤k_) v3 t2);clear hS hb)
   obtain ⟨g,c3_,rfl,gb,gl,_,_⟩:=Kd.S_form HS3.out (by omega)
   have hblk : w3.heap[w.heap.size]? = some (.cells #[.bool a2_0,.int .i64 a2_1,.int .i64 a2_2,.int .i64 a2_3,.int .i64 a2_4,.slice A2_5 l2_5.length c2_5] 29 (0,0)):=(HBX.out.block _ (Nat.lt_of_lt_of_le (by simp) HX2.out.size)).trans ((HX2.out.block _ (by simp)).trans heap_alloc_at)
   have lx0:=cell_of hblk 0
   have lx1:=cell_of hblk 1
   have lx2:=cell_of hblk 2
   have lx3:=cell_of hblk 3
   have lx4:=cell_of hblk 4
   have lx5:=cell_of hblk 5
   simp only [List.getElem?_toArray,List.getElem?_cons_zero,List.getElem?_cons_succ] at lx0 lx1 lx2 lx3 lx4 lx5
   have HC53:=Az.mk (Kd.C_below (Kd.C_below (Kd.C_drewN (Kd.C_alloc HC5.out (.cells #[.bool a2_0,.int .i64 a2_1,.int .i64 a2_2,.int .i64 a2_3,.int .i64 a2_4,.slice A2_5 l2_5.length c2_5] 29)) nd) HX2.out) HBX.out)
   have GB:=Az.mk gb
   have p0:=eq_true h0
   have p1:=eq_true h1
   have H0:=Az.mk h0
   have H1:=Az.mk h1
   clear gb gl hji h0 h1 hblk
   go_upto_region 8 with (first
    | (go_at_call 51;(with_reducible refine (tree_leafOf.nil a2_0 a2_1 a2_2 a2_3 a2_4 A2_5 c2_5 l2_5 _ HC53.out HL5.out).mono ?_);rintro e w4 ⟨rfl,hb4⟩;have HS4:=Az.mk (Kd.S_below HS3.out hb4);have HB4:=Az.mk (bwT HBX.out hb4);clear hb4 lx0 lx1 lx2 lx3 lx4 lx5;obtain ⟨oki,ce,hcl,hM,hcc,hfr,hoki,hH⟩:=Kd.S_elem HS4.out z29 ji H0.out H1.out;obtain ⟨ve5,rfl,ge5⟩:=k29_openM hM;have HP:=Az.mk (Kd.S_seg0 hH H0.out H1.out (seg:=[.bool true,.int .i64 a2_1,.int .i64 a2_2,.int .i64 a2_3,.int .i64 a2_4,.slice none 0 0]) (j:=0) (show 6≤6 from by decide) (x':=(⟨true,a2_1,a2_2,a2_3,a2_4,([] : List Int)⟩ : S29)) (k29_mkM _ _ _ (⟨true,a2_1,a2_2,a2_3,a2_4,([] : List Int)⟩ : S29) (Kd.R_nil _ _ _ _ _)) (fun _ hk=>hk));have hx0 : w4.cell? ⟨g,ji.toNat * 6,none⟩ = some (.bool _):=hcc 0 _ rfl;have hx1 : w4.cell? ⟨g,ji.toNat * 6 + 1,none⟩ = some (.int .i64 _):=hcc 1 _ rfl;have hx2 : w4.cell? ⟨g,ji.toNat * 6 + 2,none⟩ = some (.int .i64 _):=hcc 2 _ rfl;have hx3 : w4.cell? ⟨g,ji.toNat * 6 + 3,none⟩ = some (.int .i64 _):=hcc 3 _ rfl;have hx4 : w4.cell? ⟨g,ji.toNat * 6 + 4,none⟩ = some (.int .i64 _):=hcc 4 _ rfl;have hx5 : w4.cell? ⟨g,ji.toNat * 6 + 5,none⟩ = some ve5:=hcc 5 _ rfl;have hf0 : w4.frozen? ⟨g,ji.toNat * 6,none⟩ = false:=hfr 0;have hf1 : w4.frozen? ⟨g,ji.toNat * 6 + 1,none⟩ = false:=hfr 1;have hf2 : w4.frozen? ⟨g,ji.toNat * 6 + 2,none⟩ = false:=hfr 2;have hf3 : w4.frozen? ⟨g,ji.toNat * 6 + 3,none⟩ = false:=hfr 3;have hf4 : w4.frozen? ⟨g,ji.toNat * 6 + 4,none⟩ = false:=hfr 4;have hf5 : w4.frozen? ⟨g,ji.toNat * 6 + 5,none⟩ = false:=hfr 5;clear hcl hM hcc hfr hoki hH ge5)
    | ((with_reducible refine gate_store (t:=29) (p:=46) rfl ?_);refine store_event (t:=29) (p:=46) (v:=?vo) (w1:=((((((w4.setCell ⟨g,ji.toNat * 6,none⟩ (.bool true)).setCell ⟨g,ji.toNat * 6 + 1,none⟩ (.int .i64 a2_1)).setCell ⟨g,ji.toNat * 6 + 2,none⟩ (.int .i64 a2_2)).setCell ⟨g,ji.toNat * 6 + 3,none⟩ (.int .i64 a2_3)).setCell ⟨g,ji.toNat * 6 + 4,none⟩ (.int .i64 a2_4)).setCell ⟨g,ji.toNat * 6 + 5,none⟩ (.slice none 0 0))) ?hg ?ho ?hn ?hr ?_;(case ho=>rfl);(case hg=>rfl);(case hn=>rfl);(case hr=>first | (go_simp;done) | (go_simp;rfl));intro w5 hw;have HS5:=Az.mk (show Kd.S k29 29 w5 w2.heap.size (fun k_=>w2.heap.size≤k_) (.slice (some ⟨g,0,none⟩) t2.length c3_) (t2.set ji.toNat (⟨true,a2_1,a2_2,a2_3,a2_4,([] : List Int)⟩ : S29)) from by rw [hw];exact HP.out.1);have HG5:=Az.mk (show w4.grownBy w5 (some g) from by rw [hw];exact HP.out.2);clear hw))
   obtain ⟨y,hy⟩ : ∃ y,y = (t2.set ji.toNat (⟨true,a2_1,a2_2,a2_3,a2_4,([] : List Int)⟩ : S29)):=⟨_,rfl⟩
   have hyl : y.length = t2.length:=by rw [hy,List.length_set]
   have HB5:=Az.mk (show Below w2.heap.size w2 w5 from pw_below_grown HB4.out (some g) (bwZ HB4.out) HG5.out (fun k_ e_=>by cases e_;exact GB.out))
   obtain ⟨t3,A70,H⟩:=Option.bind_eq_some_iff.mp HH.out
   have HT5:=Az.mk (TabG.below HT.out (bwT HB2.out HB5.out))
   have HS6:=HS5.out
   have A8:=A70
   rw [← hy] at HS6 A8
   have hcl:=tree_clean.calls k (some ⟨g,0,none⟩) c3_ y a1 t3 (fun k_=>w2.heap.size≤k_) w2 w5 HT5.out (by rw [hyl];exact HS6) HB5.out A8
   rw [hyl] at hcl
   have HCL:=Az.mk hcl
   have HH2:=Az.mk H
   clear hcl HS6 A8 hyl hy y HS5 HP HG5 A70 H HH p0 p1 hx0 hx1 hx2 hx3 hx4 hx5 hf0 hf1 hf2 hf3 hf4 hf5
   go_upto_region 9 with (go_at_call 61;(with_reducible refine HCL.out.mono ?_);rintro e w6 ⟨rfl,hS6,hB6,_⟩;have HS6:=Az.mk hS6;have HB6:=Az.mk hB6;clear hS6 hB6)
   have HCp:=Az.mk (Kd.R_reads' HRp.out).2.2
   clear HRp HCL HT5 HB5 HB4 HS4 HS3 HBX HC53 HC5 HL5 H0 H1 GB HC HL HX2
   go_wp2
   go_loopg [52] k (fun kq v w'=>∃ (j : Int) (x : List (S29)),v = .int .i64 j∧Az (kq≤k)∧Az (tree_Merge.l0 kq p l3 l4 x j = some (r1,r2))∧Az (Kd.S k29 29 w' w2.heap.size (fun k_=>w2.heap.size≤k_) (.slice (some ⟨g,0,none⟩) t2.length c3_) x)∧Az (Below w2.heap.size w2 w'))
   case atStart=>exact ⟨0,t3,rfl,⟨Nat.le_refl _⟩,HH2,HS6,HB6⟩
   case round=>
    clear HH2 HS6 HB6
    obtain ⟨j,x,rfl,HK1,HR,HS,HB⟩:=hrel
    cases gk with
    | zero=>exact absurd HR.out (by simp [tree_Merge.l0])
    | succ k1=>
     have H:=HR.out
     simp only [tree_Merge.l0] at H
     have hxl:=(Kd.S_reads' HS.out).1
     have HXL:=Az.mk hxl
     clear HR hxl
     by_cases c1 : j < (p.length : Int)
     case neg=>
      rw [if_neg c1] at H
      have c1b : decide (j < (p.length : Int)) = false:=decide_eq_false c1
      simp only [Option.some.injEq,Prod.mk.injEq] at H
      obtain ⟨rfl,rfl⟩:=H
      clear c1
      go_wp2
      go_ret2
      exact ⟨_,rfl,Kd.S_mono (Kd.S_lower HS.out (bwZ HB2.out)) (fun k_ hk=>Nat.le_trans (bwZ HB2.out) hk),bwT HB2.out HB.out⟩
     rw [if_pos c1] at H
     by_cases c2 : 0≤j
     case neg=>rw [if_neg c2] at H;cases H
     rw [if_pos c2] at H
     by_cases c3 : j < (l3.length : Int)
     case neg=>rw [if_neg c3] at H;cases H
     rw [if_pos c3] at H
     by_cases c4 : j < (l4.length : Int)
     case neg=>rw [if_neg c4] at H;cases H
     rw [if_pos c4] at H
     by_cases c5 : 0≤rd p j
     case neg=>rw [if_neg c5] at H;cases H
     rw [if_pos c5] at H
     by_cases c6 : rd p j < (x.length : Int)
     case neg=>rw [if_neg c6] at H;cases H
     rw [if_pos c6] at H
     have H':=Az.mk H
     have c1b : decide (j < (p.length : Int)) = true:=decide_eq_true c1
     obtain ⟨adp,ep,hcp⟩:=Kd.at_int (Kd.C_below HCp.out HB.out) j c2 c1
     cases ep
     obtain ⟨ad3,e3,hc3_⟩:=Kd.at_int (Kd.C_below HK3.out (bwT HB2.out HB.out)) j c2 c3
     cases e3
     obtain ⟨ad4,e4,hc4_⟩:=Kd.at_int (Kd.C_below HK4.out (bwT HB2.out HB.out)) j c2 c4
     cases e4
     obtain ⟨oki,ce,hcl,hM,hcc,hfr,hoki,hH⟩:=Kd.S_elem HS.out z29 (rd p j) c5 (by have:=HXL.out;omega)
     obtain ⟨ve5,rfl,ge5⟩:=k29_openM hM
     have HP:=Az.mk (Kd.S_seg0 hH c5 (by have:=HXL.out;omega) (seg:=[.bool true,.int .i64 (rd l3 j),.int .i64 0,.int .i64 0,.int .i64 (rd l4 j),.slice none 0 0]) (j:=0) (show 6≤6 from by decide) (x':=(⟨true,rd l3 j,0,0,rd l4 j,([] : List Int)⟩ : S29)) (k29_mkM _ _ _ (⟨true,rd l3 j,0,0,rd l4 j,([] : List Int)⟩ : S29) (Kd.R_nil _ _ _ _ _)) (fun _ hk=>hk))
     have gbb : w2.heap.size≤g:=Kd.S_base HS.out g rfl
     have hx0 : wr.cell? ⟨g,(rd p j).toNat * 6,none⟩ = some (.bool _):=hcc 0 _ rfl
     have hx1 : wr.cell? ⟨g,(rd p j).toNat * 6 + 1,none⟩ = some (.int .i64 _):=hcc 1 _ rfl
     have hx2 : wr.cell? ⟨g,(rd p j).toNat * 6 + 2,none⟩ = some (.int .i64 _):=hcc 2 _ rfl
     have hx3 : wr.cell? ⟨g,(rd p j).toNat * 6 + 3,none⟩ = some (.int .i64 _):=hcc 3 _ rfl
     have hx4 : wr.cell? ⟨g,(rd p j).toNat * 6 + 4,none⟩ = some (.int .i64 _):=hcc 4 _ rfl
     have hx5 : wr.cell? ⟨g,(rd p j).toNat * 6 + 5,none⟩ = some ve5:=hcc 5 _ rfl
     have hf0 : wr.frozen? ⟨g,(rd p j).toNat * 6,none⟩ = false:=hfr 0
     have hf1 : wr.frozen? ⟨g,(rd p j).toNat * 6 + 1,none⟩ = false:=hfr 1
     have hf2 : wr.frozen? ⟨g,(rd p j).toNat * 6 + 2,none⟩ = false:=hfr 2
     have hf3 : wr.frozen? ⟨g,(rd p j).toNat * 6 + 3,none⟩ = false:=hfr 3
     have hf4 : wr.frozen? ⟨g,(rd p j).toNat * 6 + 4,none⟩ = false:=hfr 4
     have hf5 : wr.frozen? ⟨g,(rd p j).toNat * 6 + 5,none⟩ = false:=hfr 5
     have p1:=eq_true c1
     have p2:=eq_true c2
     have p3:=eq_true c3
     have p4:=eq_true c4
     have p5:=eq_true c5
     have p6:=eq_true (show rd p j < (t2.length : Int) by have:=HXL.out;omega)
     clear hcl hM hcc hfr hoki hH ge5 H c1 c2 c3 c4 c5 c6
     generalize hq : rd p j = q at *
     have HGB:=Az.mk gbb
     clear HK3 HK4 HXL HE HN34 gbb
     go_wp2
     refine Mix.wp_region_mix (fun _=>True) (fun i=>[0,0,0,0,12,28,0,0,192,448,1020,2047,4095].getD i 0) (fun i=>[2,2,2,2,2,2,2,2,2,2,2,2,3].getD i 0) (by kernel_rfl) ⟨by kernel_rfl,by kernel_rfl,by kernel_rfl,by kernel_rfl,by kernel_rfl⟩ trivial ?_;simp only [Mix.whole,List.getD_cons_zero,List.getD_cons_succ,Nat.reduceAdd]
     repeat (first | (refine Mix.pin_no rfl rfl (fun K hK=>?_);go_step;refine hK _ ?_;clear hK K) | (refine Mix.pin_not rfl rfl rfl rfl (fun K hK=>?_);simp only [List.setIfInBounds_toArray,List.set_cons_zero,List.set_cons_succ];refine hK _ ?_;clear hK K) | (refine Mix.pin_yes rfl rfl rfl rfl (fun K hK=>?_);go_step;refine hK _ ?_;clear hK K))
     refine Mix.last_no rfl (fun K hK=>?_)
     go_step
     obtain ⟨wn,hwn⟩ : ∃ wn,wn = ((((((wr.setCell ⟨g,q.toNat * 6,none⟩ (.bool true)).setCell ⟨g,q.toNat * 6 + 1,none⟩ (.int .i64 (rd l3 j))).setCell ⟨g,q.toNat * 6 + 2,none⟩ (.int .i64 0)).setCell ⟨g,q.toNat * 6 + 3,none⟩ (.int .i64 0)).setCell ⟨g,q.toNat * 6 + 4,none⟩ (.int .i64 (rd l4 j))).setCell ⟨g,q.toNat * 6 + 5,none⟩ (.slice none 0 0)):=⟨_,rfl⟩
     have HSn:=Az.mk (show Kd.S k29 29 wn w2.heap.size (fun k_=>w2.heap.size≤k_) (.slice (some ⟨g,0,none⟩) t2.length c3_) (x.set q.toNat (⟨true,rd l3 j,0,0,rd l4 j,([] : List Int)⟩ : S29)) from by rw [hwn];exact HP.out.1)
     have HGn:=Az.mk (show wr.grownBy wn (some g) from by rw [hwn];exact HP.out.2)
     rw [← hwn]
     have HBn:=Az.mk (pw_below_grown HB.out (some g) (bwZ HB.out) HGn.out (fun k_ e_=>by cases e_;exact HGB.out))
     clear hwn HP hx0 hx1 hx2 hx3 hx4 hx5 hf0 hf1 hf2 hf3 hf4 hf5 hcp hc3_ hc4_ p1 p2 p3 p4 p5 p6 c1b HGn HS HB
     refine hK _ _ ?_
     clear hK K
     refine Mix.walk_nil ?_
     go_wp2
     go_roundg k1
     case measure=>have:=HK1.out;omega
     case rel=>exact ⟨wrap64 (j + 1),_,rfl,⟨by have:=HK1.out;omega⟩,H',⟨Kd.S_drew HSn.out⟩,⟨below_drew HBn.out⟩⟩
end Go.Proofs.YtbblomnhobodkaaDoor.PTw
namespace Go.Proofs.YtbblomnhobodkaaDoor.PTw
open Go.RowKit Go.Proofs.YtbblomnhobodkaaDoorW.PW Go.Proofs.YtbblomnhobodkaaDoorW.PL Go.Proofs.YtbblomnhobodkaaDoorW.PM
attribute [local go_sem] max2_int min2_int max_two min_two max_three min_three max_four min_four   -- for this text's walks alone
set_option linter.unusedVariables false
set_option linter.unusedSimpArgs false
def tree_Remove.l0 : Nat→List (S29)→Option ((List (S29)) × Int)
 | 0,_=>none
 | k + 1,x=>(tree_tight.f k x).bind fun b=>if b = true then some (x,0) else tree_Remove.l0 k (x.take (x.length / 2))
def tree_Remove.f (k : Nat) (l0 : List (S29)) (a1 : Int) : Option ((List (S29)) × Int):=(tree_full.f l0 a1).bind fun t=>if t = true then ((tree_Members.f k l0).bind fun ms=>if ms.length = 1 then some (([] : List (S29)),40) else ((tree_copied.f k l0).bind fun t2=>if 0≤(wrap64 (2 * a1)) then (if (wrap64 (2 * a1)) < (t2.length : Int) then ((tree_clean.f k (t2.set ((wrap64 (2 * a1)) : Int).toNat (⟨false,0,0,0,0,([] : List Int)⟩ : S29)) a1).bind fun t3=>tree_Remove.l0 k t3) else none) else none)) else some (([] : List (S29)),40)
theorem tree_Remove.mono_l : ∀ k,(∀ y0,LeO (tree_Remove.l0 k y0) (tree_Remove.l0 (k + 1) y0))
 | 0=>fun _ r h=>by simp [tree_Remove.l0] at h
 | k + 1=>by
  have ih0:=tree_Remove.mono_l k
  intro y0
  unfold tree_Remove.l0
  refine LeO.bind (tree_tight.mono _ _) (fun _=>?_)
  exact LeO.ite (LeO.refl _) (ih0 _)
theorem tree_Remove.mono : ∀ a0 a1 k,LeO (tree_Remove.f k a0 a1) (tree_Remove.f (k + 1) a0 a1):=by
 intro a0 a1 k
 have ih0:=tree_Remove.mono_l k
 unfold tree_Remove.f
 refine LeO.bind (LeO.refl _) (fun _=>LeO.ite (LeO.bind (tree_Members.mono _ _) (fun _=>LeO.ite (LeO.refl _) (LeO.bind (tree_copied.mono _ _) (fun _=>LeO.ite (LeO.ite (LeO.bind (tree_clean.mono _ _ _) (fun _=>ih0 _)) (LeO.none _)) (LeO.none _))))) (LeO.refl _))
set_option maxHeartbeats 8000000 in
set_option maxRecDepth 100000 in
theorem tree_Remove.calls (k : Nat) (P0_ : Nat→Prop) (A0 : Option Addr) (c0 : Nat) (l0 : List (S29)) (a1 : Int) (r1 : List (S29)) (r2 : Int) (w : World) (hrG : TabG w) (hs0 : Kd.V k29 29 w w.heap.size (fun k_=>P0_ k_) (.slice A0 l0.length c0) l0) (h : tree_Remove.f k l0 a1 = some (r1,r2)) :
 Calls Tryd.prog 32 #[.slice A0 l0.length c0,.int .i64 a1] w fun e w'=>∃ v0_ : Value,e = .returned (.tuple #[v0_,.int .i64 r2])∧Kd.V k29 29 w' w.heap.size (fun k_=>(P0_ k_∨w.heap.size≤k_)) v0_ r1∧Below w.heap.size w w':=by
 have huV:=Tryd.underlying29
 have HT:=Az.mk hrG
 obtain ⟨_,hlc,hC⟩:=V_now hs0
 have HC:=Az.mk hC
 have HL:=Az.mk hlc
 clear hrG hs0 hC hlc
 unfold tree_Remove.f at h
 obtain ⟨t,A40,H⟩:=Option.bind_eq_some_iff.mp h
 have A4:=Az.mk A40
 clear A40 h
 cases t
 · rw [if_neg (by decide)] at H
   simp only [Option.some.injEq,Prod.mk.injEq] at H
   obtain ⟨rfl,rfl⟩:=H
   go_enter Tryd.func32,Tryd.ntmps32
   go_wp2_with (go_at_call 60;(with_reducible refine (tree_full.calls _ _ l0 a1 false _ HC.out HL.out A4.out).mono ?_);rintro e w1 ⟨rfl,⟨nd,rfl⟩⟩)
   go_ret2
   exact ⟨_,rfl,Kd.V_nil _ _ _ _ _,bwN (Below.refl _ _) _⟩
 · rw [if_pos rfl] at H
   obtain ⟨ms,A50,H⟩:=Option.bind_eq_some_iff.mp H
   have A5:=Az.mk A50
   clear A50
   go_enter Tryd.func32,Tryd.ntmps32
   by_cases hm : ms.length = 1
   · rw [if_pos hm] at H
     simp only [Option.some.injEq,Prod.mk.injEq] at H
     obtain ⟨rfl,rfl⟩:=H
     go_wp2_with (first
      | (go_at_call 60;(with_reducible refine (tree_full.calls _ _ l0 a1 true _ HC.out HL.out A4.out).mono ?_);rintro e w1 ⟨rfl,⟨nd,rfl⟩⟩)
      | (go_at_call 24;(with_reducible refine (tree_Members.calls _ _ _ l0 ms _ (Kd.C_drewN HC.out nd) HL.out A5.out).mono ?_);rintro e w2 ⟨v2,rfl,hR,hb⟩;obtain ⟨A2,c2,rfl⟩:=Kd.R_slice hR;rw [hm];have HB2:=Az.mk (bwT (bwN (Below.refl w.heap.size w) nd) hb);clear hR hb))
     go_ret2
     exact ⟨_,rfl,Kd.V_nil _ _ _ _ _,HB2.out⟩
   · rw [if_neg hm] at H
     have hmb : ((ms.length : Int) == 1) = false:=by simp;omega
     obtain ⟨t2,A60,H⟩:=Option.bind_eq_some_iff.mp H
     have A6:=Az.mk A60
     clear A60
     have ex : ∃ ji,wrap64 (2 * a1) = ji:=⟨_,rfl⟩
     obtain ⟨ji,hji⟩:=ex
     rw [hji] at H
     have hjiw : (IntKind.i64.wrap (2 * a1)) = ji:=(i64_w _).trans hji
     by_cases h0 : 0≤ji
     case neg=>rw [if_neg h0] at H;cases H
     rw [if_pos h0] at H
     by_cases h1 : ji < (t2.length : Int)
     case neg=>rw [if_neg h1] at H;cases H
     rw [if_pos h1] at H
     obtain ⟨t3,A70,H⟩:=Option.bind_eq_some_iff.mp H
     have A7:=Az.mk A70
     have HH:=Az.mk H
     clear A70 H hm
     go_upto_region 4 with (first
      | (go_at_call 60;(with_reducible refine (tree_full.calls _ _ l0 a1 true _ HC.out HL.out A4.out).mono ?_);rintro e w1 ⟨rfl,⟨nd,rfl⟩⟩)
      | (go_at_call 24;(with_reducible refine (tree_Members.calls _ _ _ l0 ms _ (Kd.C_drewN HC.out nd) HL.out A5.out).mono ?_);rintro e w2 ⟨v2,rfl,hR,hb⟩;obtain ⟨A2,c2,rfl⟩:=Kd.R_slice hR;have HB2:=Az.mk (bwT (bwN (Below.refl w.heap.size w) nd) hb);have HC2:=Az.mk (Kd.C_below (Kd.C_drewN HC.out nd) hb);clear hR hb)
      | (go_at_call 50;(with_reducible refine (tree_copied.calls _ _ _ l0 t2 _ HC2.out HL.out A6.out).mono ?_);rintro e w3 ⟨v3,rfl,hS,hb⟩;have HB3:=Az.mk (bwT HB2.out hb);have HS3:=Az.mk (Kd.S_lower hS (by exact (bwZ HB2.out)));clear hS hb))
     obtain ⟨g,c3,rfl,gb,gl,_,_⟩:=Kd.S_form HS3.out (by omega)
     obtain ⟨oki,ce,hcl,hM,hcc,hfr,hoki,hH⟩:=Kd.S_elem HS3.out z29 ji h0 h1
     obtain ⟨ve5,rfl,ge5⟩:=k29_openM hM
     have HP:=Az.mk (Kd.S_seg0 hH h0 h1 (seg:=[.bool false,.int .i64 0,.int .i64 0,.int .i64 0,.int .i64 0,.slice none 0 0]) (j:=0) (show 6≤6 from by decide) (x':=(⟨false,0,0,0,0,([] : List Int)⟩ : S29)) (k29_mkM _ _ _ (⟨false,0,0,0,0,([] : List Int)⟩ : S29) (Kd.R_nil _ _ _ _ _)) (fun _ hk=>hk))
     have hx0 : w3.cell? ⟨g,ji.toNat * 6,none⟩ = some (.bool _):=hcc 0 _ rfl
     have hx1 : w3.cell? ⟨g,ji.toNat * 6 + 1,none⟩ = some (.int .i64 _):=hcc 1 _ rfl
     have hx2 : w3.cell? ⟨g,ji.toNat * 6 + 2,none⟩ = some (.int .i64 _):=hcc 2 _ rfl
     have hx3 : w3.cell? ⟨g,ji.toNat * 6 + 3,none⟩ = some (.int .i64 _):=hcc 3 _ rfl
     have hx4 : w3.cell? ⟨g,ji.toNat * 6 + 4,none⟩ = some (.int .i64 _):=hcc 4 _ rfl
     have hx5 : w3.cell? ⟨g,ji.toNat * 6 + 5,none⟩ = some ve5:=hcc 5 _ rfl
     have hf0 : w3.frozen? ⟨g,ji.toNat * 6,none⟩ = false:=hfr 0
     have hf1 : w3.frozen? ⟨g,ji.toNat * 6 + 1,none⟩ = false:=hfr 1
     have hf2 : w3.frozen? ⟨g,ji.toNat * 6 + 2,none⟩ = false:=hfr 2
     have hf3 : w3.frozen? ⟨g,ji.toNat * 6 + 3,none⟩ = false:=hfr 3
     have hf4 : w3.frozen? ⟨g,ji.toNat * 6 + 4,none⟩ = false:=hfr 4
     have hf5 : w3.frozen? ⟨g,ji.toNat * 6 + 5,none⟩ = false:=hfr 5
     have GB:=Az.mk gb
     have p0:=eq_true h0
     have p1:=eq_true h1
     clear hcl hM hcc hfr hoki hH ge5 gb gl HS3 hji h0 h1
     go_upto_region 5 with ((with_reducible refine gate_store (t:=29) (p:=23) rfl ?_);refine store_event (t:=29) (p:=23) (v:=?vo) (w1:=((((((w3.setCell ⟨g,ji.toNat * 6,none⟩ (.bool false)).setCell ⟨g,ji.toNat * 6 + 1,none⟩ (.int .i64 0)).setCell ⟨g,ji.toNat * 6 + 2,none⟩ (.int .i64 0)).setCell ⟨g,ji.toNat * 6 + 3,none⟩ (.int .i64 0)).setCell ⟨g,ji.toNat * 6 + 4,none⟩ (.int .i64 0)).setCell ⟨g,ji.toNat * 6 + 5,none⟩ (.slice none 0 0))) ?hg ?ho ?hn ?hr ?_;(case ho=>rfl);(case hg=>rfl);(case hn=>rfl);(case hr=>first | (go_simp;done) | (go_simp;rfl));intro w4 hw;have HS4:=Az.mk (show Kd.S k29 29 w4 w.heap.size (fun _=>True) (.slice (some ⟨g,0,none⟩) t2.length c3) (t2.set ji.toNat (⟨false,0,0,0,0,([] : List Int)⟩ : S29)) from by rw [hw];exact HP.out.1);have HG4:=Az.mk (show w3.grownBy w4 (some g) from by rw [hw];exact HP.out.2);clear hw)
     obtain ⟨y,hy⟩ : ∃ y,y = (t2.set ji.toNat (⟨false,0,0,0,0,([] : List Int)⟩ : S29)):=⟨_,rfl⟩
     have hyl : y.length = t2.length:=by rw [hy,List.length_set]
     have HB4:=Az.mk (show Below w.heap.size w w4 from pw_below_grown HB3.out (some g) (bwZ HB3.out) HG4.out (fun k_ e_=>by cases e_;exact GB.out))
     have HT4:=Az.mk (TabG.below HT.out HB4.out)
     have HS5:=HS4.out
     have A8:=A7.out
     rw [← hy] at HS5 A8
     have hcl:=tree_clean.calls k (some ⟨g,0,none⟩) c3 y a1 t3 (fun _=>True) w w4 HT4.out (by rw [hyl];exact HS5) HB4.out A8
     rw [hyl] at hcl
     have HCL:=Az.mk hcl
     clear hcl HS5 A8 hyl hy y HS4 HP HG4 A7 p0 p1 hx0 hx1 hx2 hx3 hx4 hx5 hf0 hf1 hf2 hf3 hf4 hf5
     go_wp2_with (go_at_call 61;(with_reducible refine HCL.out.mono ?_);rintro e w5 ⟨rfl,hS5,hB5,_⟩;have HS5:=Az.mk hS5;have HB5:=Az.mk hB5;clear hS5 hB5)
     have h3:=(Kd.S_reads' HS5.out).1
     have HH3:=Az.mk h3
     clear h3
     go_loopg [6] k (fun kq v w'=>∃ (x : List (S29)) (A : Option Addr) (n c : Nat),v = .slice A n c∧Az (n = x.length)∧Az (kq≤k)∧Az (tree_Remove.l0 kq x = some (r1,r2))∧Az (Kd.V k29 29 w' w.heap.size (fun k_=>(P0_ k_∨w.heap.size≤k_)) (.slice A n c) x)∧Az (Below w.heap.size w w'))
     case atStart=>exact ⟨t3,_,_,_,rfl,HH3,⟨Nat.le_refl _⟩,HH,⟨Kd.V_mono (Kd.S_V (Kd.S_bound HS5.out)) (fun k_ hk=>.inr hk.2.1)⟩,HB5⟩
     case round=>
      obtain ⟨x,A,n,c,rfl,HN,HK1,HR,HV,HBr⟩:=hrel
      clear HH HH3 HS5 HB5 HCL HB4 HT4 HB3 HB2 HC2 HC
      obtain ⟨hvl,hvc,hvC⟩:=V_now HV.out
      have hvn:=HN.out
      cases gk with
      | zero=>exact absurd HR.out (by simp [tree_Remove.l0])
      | succ k1=>
       have H:=HR.out
       simp only [tree_Remove.l0] at H
       obtain ⟨b,A90,H⟩:=Option.bind_eq_some_iff.mp H
       have htg:=tree_tight.calls k1 A c x b wr hvC (by rw [← hvn];exact hvc) A90
       rw [← hvn] at htg
       have HTG:=Az.mk htg
       clear htg A90 HR hvC
       cases b
       · rw [if_neg (by decide)] at H
         have HH:=Az.mk H
         obtain ⟨m,hm⟩ : ∃ m,m = n / 2:=⟨_,rfl⟩
         have hq : wrap64 ((n : Int) / 2) = (m : Int):=by
          have:=HV.out
          obtain ⟨_,_,_,_,hF⟩:=this
          have hmax:=(Kd.F_now hF).2.1
          rw [← hvn] at hmax
          unfold wrap64
          omega
         have hc1 : decide ((m : Int)≤(c : Int)) = true:=by simp;omega
         have hc2 : decide (m≤c) = true:=by simp;omega
         have hc3 : (m≤c) = True:=eq_true (by omega)
         have HCP:=Az.mk (clip_calls A m c (by omega))
         have HV2:=Az.mk (V_cut HV.out m (by omega))
         have HM:=Az.mk hm
         clear hm
         clear H hvl hvc hvn
         go_wp2_with (first
          | (go_at_call 42;(with_reducible refine HTG.out.mono ?_);rintro e w6 ⟨rfl,⟨nd6,rfl⟩⟩)
          | (go_at_call 62;(with_reducible refine (HCP.out _).mono ?_);rintro e w7 ⟨rfl,rfl⟩))
         go_roundg k1
         case measure=>have:=HK1.out;omega
         case rel=>exact ⟨x.take m,A,m,m,rfl,⟨by have:=HN.out;have:=HM.out;rw [List.length_take];omega⟩,⟨by have:=HK1.out;omega⟩,⟨by have:=HH.out;rw [← HN.out,← HM.out] at this;exact this⟩,⟨Kd.V_drewN HV2.out _⟩,⟨bwN HBr.out _⟩⟩
       · rw [if_pos rfl] at H
         simp only [Option.some.injEq,Prod.mk.injEq] at H
         obtain ⟨rfl,rfl⟩:=H
         clear hvl hvc hvn
         go_wp2_with (go_at_call 42;(with_reducible refine HTG.out.mono ?_);rintro e w6 ⟨rfl,⟨nd6,rfl⟩⟩)
         go_ret2
         exact ⟨_,rfl,Kd.V_drewN HV.out _,bwN HBr.out _⟩
end Go.Proofs.YtbblomnhobodkaaDoor.PTw
namespace Go.Proofs.YtbblomnhobodkaaDoor.PTw
open Go.RowKit Go.Proofs.YtbblomnhobodkaaDoorW.PW Go.Proofs.YtbblomnhobodkaaDoorW.PL Go.Proofs.YtbblomnhobodkaaDoorW.PM
attribute [local go_sem] max2_int min2_int max_two min_two max_three min_three max_four min_four   -- for this text's walks alone
set_option linter.unusedVariables false
set_option linter.unusedSimpArgs false
end Go.Proofs.YtbblomnhobodkaaDoor.PTw
namespace Go.Proofs.YtbblomnhobodkaaDoor.PTw
open Go.RowKit Go.Proofs.YtbblomnhobodkaaDoorW.PW Go.Proofs.YtbblomnhobodkaaDoorW.PL Go.Proofs.YtbblomnhobodkaaDoorW.PM
attribute [local go_sem] max2_int min2_int max_two min_two max_three min_three max_four min_four   -- for this text's walks alone
set_option linter.unusedVariables false
set_option linter.unusedSimpArgs false
end Go.Proofs.YtbblomnhobodkaaDoor.PTw
namespace Go.Proofs.YtbblomnhobodkaaDoor.PTw
open Go.RowKit Go.Proofs.YtbblomnhobodkaaDoorW.PW Go.Proofs.YtbblomnhobodkaaDoorW.PL Go.Proofs.YtbblomnhobodkaaDoorW.PM
attribute [local go_sem] max2_int min2_int max_two min_two max_three min_three max_four min_four   -- for this text's walks alone
set_option linter.unusedVariables false
set_option linter.unusedSimpArgs false
end Go.Proofs.YtbblomnhobodkaaDoor.PTw
set_option linter.unusedVariables false
set_option linter.unusedSimpArgs false
namespace Go.Proofs.YtbblomnhobodkaaDoor.Pure
open Go.RowKit Go.Proofs.YtbblomnhobodkaaDoor Go.Proofs.YtbblomnhobodkaaDoor.PTw Go.Proofs.YtbblomnhobodkaaDoorW.PW
def Evr {α : Type} (g : Nat→Option α) (r : α) : Prop:=∃ K,∀ k,K≤k→g k = some r
theorem Evr.const {α : Type} {g : Nat→Option α} {r : α} (h : ∀ k,g k = some r) : Evr g r:=⟨0,fun k _=>h k⟩
theorem Evr.succ {α : Type} {g f : Nat→Option α} {r : α} (h : ∀ k,g (k + 1) = f k) (hf : Evr f r) : Evr g r:=by
 obtain ⟨K,hK⟩:=hf
 refine ⟨K + 1,fun k hk=>?_⟩
 obtain ⟨k,rfl⟩ : ∃ q,k = q + 1:=⟨k - 1,by omega⟩
 rw [h k]
 exact hK k (by omega)
theorem Evr.bind {α β : Type} {g : Nat→Option α} {f : Nat→α→Option β} {a : α} {r : β} (h : Evr g a) (hf : Evr (fun k=>f k a) r) : Evr (fun k=>(g k).bind (f k)) r:=by
 obtain ⟨K,hK⟩:=h
 obtain ⟨L,hL⟩:=hf
 exact ⟨K + L,fun k hk=>by show (g k).bind (f k) = some r;rw [hK k (by omega),Option.bind_some];exact hL k (by omega)⟩
theorem Evr.of_mono {α : Type} {g : Nat→Option α} {r : α} (hm : ∀ k a,g k = some a→g (k + 1) = some a) {K : Nat} (h : g K = some r) : Evr g r:=by
 refine ⟨K,fun k hk=>?_⟩
 obtain ⟨d,rfl⟩:=Nat.exists_eq_add_of_le hk
 clear hk
 induction d with
 | zero=>exact h
 | succ d ih=>exact hm _ _ ih
theorem Evr.congr {α : Type} {f g : Nat→Option α} {r : α} (h : ∀ k,g k = f k) (hf : Evr f r) : Evr g r:=by
 obtain ⟨K,hK⟩:=hf
 exact ⟨K,fun k hk=>(h k).trans (hK k hk)⟩
abbrev VX (l : List S29) (x : Nat) : S29:=rd_T29 l (x : Int)
theorem wrap_id {a : Int} (h : -9223372036854775808≤a∧a≤9223372036854775807) : wrap64 a = a:=by unfold wrap64;omega
theorem leaves_at {l : List S29} {n : Nat} (h : l.length = 2 * n - 1) (hn : 1≤n) (hn2 : n≤1000) : r4Leaves.f l = some (n : Int)∧tree_Leaves.f l = some (n : Int):=by
 unfold r4Leaves.f tree_Leaves.f
 rw [wrap_id (a:=(l.length : Int) + 1) (by omega),Int.tdiv_eq_ediv_of_nonneg (by omega),wrap_id (by omega)]
 have : ((l.length : Int) + 1) / 2 = (n : Int):=by omega
 rw [this]
 exact ⟨rfl,rfl⟩
def fullB (l : List S29) (n : Nat) (i : Int) : Bool:=decide (0≤i) && decide (i < (n : Int)) && (rd_T29 l (2 * i)).f0
theorem full_same {l : List S29} {n : Nat} (h : l.length = 2 * n - 1) (hn : 1≤n) (hn2 : n≤1000) (i : Int) : r4Full.f l i = some (fullB l n i)∧tree_full.f l i = some (fullB l n i):=by
 unfold r4Full.f tree_full.f fullB
 rw [(leaves_at h hn hn2).1,(leaves_at h hn hn2).2]
 by_cases h1 : i≥0
 · simp only [if_pos h1,Option.bind_some,decide_eq_true (show 0≤i by omega),Bool.true_and]
   by_cases h2 : i < (n : Int)
   · simp only [if_pos h2,decide_eq_true h2,Bool.true_and]
     rw [wrap_id (by omega)]
     simp only [if_pos (show 0≤2 * i by omega),if_pos (show 2 * i < (l.length : Int) by omega),and_self]
   · simp only [if_neg h2,decide_eq_false h2,Bool.false_and,and_self]
 · simp only [if_neg h1,decide_eq_false (show ¬ 0≤i by omega),Bool.false_and,and_self]
theorem fullB_lt {l : List S29} {n : Nat} {i : Int} (h : fullB l n i = true) : 0≤i∧i < n:=by
 unfold fullB at h
 simp only [Bool.and_eq_true,decide_eq_true_eq] at h
 exact ⟨h.1.1,h.1.2⟩
theorem VX_at {l : List S29} {i : Nat} (h : i < l.length) : VX l i = l[i]:=by
 show rd_T29 l (i : Int) = _
 unfold rd_T29
 rw [Int.toNat_natCast,List.getD_eq_getElem?_getD,List.getElem?_eq_getElem h];rfl
theorem copy_ev {l : List S29} (hl : l.length≤1000) (h5 : ∀ v ∈ l,v.f5.length < 17592186044416) : Evr (fun k=>r4Copy.f k l) l:=by
 have hl0 : ∀ (d i : Nat),d + i = l.length→Evr (fun k=>r4Copy.l0 k l (l.take i) (i : Int)) l:=by
  intro d
  induction d with
  | zero=>
   intro i hd
   refine .succ (f:=fun _=>some l) (fun k=>?_) (.const fun _=>rfl)
   rw [r4Copy.l0,if_neg (by omega),List.take_of_length_le (by omega)]
  | succ d ih=>
   intro i hd
   have hi : i < l.length:=by omega
   have hn:=ih (i + 1) (by omega)
   refine .succ (fun k=>?_) hn
   have e : rd_T29 l (i : Int) = l[i]:=VX_at hi
   rw [r4Copy.l0,if_pos (by omega),if_pos (by omega),Option.bind_some,e,if_pos (by have:=h5 _ (List.getElem_mem hi);simpa using this),if_pos (by simp;omega),wrap_id (by omega),List.take_add_one,List.getElem?_eq_getElem hi]
   rfl
 exact hl0 l.length 0 (by omega)
end Go.Proofs.YtbblomnhobodkaaDoor.Pure
set_option linter.unusedVariables false
set_option linter.unusedSimpArgs false
namespace Go.Proofs.YtbblomnhobodkaaDoor.Pure
open Go.RowKit Go.Proofs.YtbblomnhobodkaaDoor Go.Proofs.YtbblomnhobodkaaDoor.PTw Go.Proofs.YtbblomnhobodkaaDoorW.PW
def mkT (N : Nat) (g : Nat→S29) : List S29:=(List.range N).map g
theorem mkT_len (N : Nat) (g : Nat→S29) : (mkT N g).length = N:=by simp [mkT]
theorem mkT_get {N : Nat} {g : Nat→S29} {x : Nat} (h : x < N) : VX (mkT N g) x = g x:=by
 rw [VX_at (by rw [mkT_len];exact h)]
 simp [mkT]
theorem VX_out {l : List S29} {x : Nat} (h : l.length≤x) : VX l x = z29:=by
 show rd_T29 l (x : Int) = _
 unfold rd_T29
 rw [Int.toNat_natCast,List.getD_eq_getElem?_getD,List.getElem?_eq_none h]
 rfl
theorem mkT_self (l : List S29) : l = mkT l.length (VX l):=by
 refine List.ext_getElem (by rw [mkT_len]) fun i h1 h2=>?_
 rw [← VX_at h1]
 simp [mkT]
theorem mkT_congr {N : Nat} {g g' : Nat→S29} (h : ∀ x,x < N→g x = g' x) : mkT N g = mkT N g':=by
 unfold mkT
 exact List.map_congr_left fun x hx=>h x (List.mem_range.1 hx)
theorem mkT_set {N : Nat} {g : Nat→S29} {i : Nat} {v : S29} : (mkT N g).set i v = mkT N (fun x=>if x = i then v else g x):=by
 refine List.ext_getElem (by simp [mkT_len]) fun x h1 h2=>?_
 rw [List.getElem_set]
 simp only [mkT,List.getElem_map,List.getElem_range]
 by_cases c : i = x
 · rw [if_pos c,if_pos c.symm]
 · rw [if_neg c,if_neg (fun e=>c e.symm)]
theorem mkT_app {N M : Nat} {g : Nat→S29} (h : ∀ x,N≤x→g x = z29) : mkT N g ++ List.replicate M z29 = mkT (N + M) g:=by
 refine List.ext_getElem (by simp [mkT_len]) fun x h1 h2=>?_
 rw [List.getElem_append]
 by_cases c : x < N
 · rw [dif_pos (by rw [mkT_len];exact c)]
   simp [mkT]
 · rw [dif_neg (by rw [mkT_len];exact c),List.getElem_replicate]
   simp only [mkT,List.getElem_map,List.getElem_range]
   exact (h x (by omega)).symm
theorem mkT_take {N M : Nat} {g : Nat→S29} (h : M≤N) : (mkT N g).take M = mkT M g:=by
 refine List.ext_getElem (by simp [mkT_len];omega) fun x h1 h2=>?_
 rw [List.getElem_take]
 simp [mkT]
def pathN (i m : Nat) : List Nat:=(List.range m).map fun k=>i / 2 ^ (k + 1) * 2 ^ (k + 2) + 2 ^ (k + 1) - 1
def ints (l : List Nat) : List Int:=l.map fun (x : Nat)=>(x : Int)
theorem ints_len (l : List Nat) : (ints l).length = l.length:=by simp [ints]
theorem ints_at {l : List Nat} {j : Nat} (h : j < l.length) : rd (ints l) (j : Int) = (l[j] : Int):=by
 simp [rd,ints,List.getD_eq_getElem?_getD,List.getElem?_eq_getElem h]
set_option maxRecDepth 100000 in
theorem path_fin : ∀ m : Fin 6,∀ i : Fin 32,i.val < 2 ^ m.val→heap_Path.f (2 * (i.val : Int)) ((2 ^ m.val : Nat) : Int) = some (ints (pathN i.val m.val),0):=by decide +kernel
theorem path_at {m i : Nat} (hm : m≤5) (hi : i < 2 ^ m) : heap_Path.f (2 * (i : Int)) ((2 ^ m : Nat) : Int) = some (ints (pathN i m),0):=by
 have h32 : i < 32:=Nat.lt_of_lt_of_le hi (Nat.le_trans (Nat.pow_le_pow_right (by decide) hm) (by decide))
 exact path_fin ⟨m,by omega⟩ ⟨i,h32⟩ hi
theorem pathN_fin : ∀ m : Fin 6,∀ i : Fin 32,i.val < 2 ^ m.val→(pathN i.val m.val).Nodup∧∀ x ∈ pathN i.val m.val,x % 2 = 1∧x < 2 * 2 ^ m.val - 1:=by decide +kernel
theorem pathN_ok {m i : Nat} (hm : m≤5) (hi : i < 2 ^ m) : (pathN i m).Nodup∧∀ x ∈ pathN i m,x % 2 = 1∧x < 2 * 2 ^ m - 1:=by
 have h32 : i < 32:=Nat.lt_of_lt_of_le hi (Nat.le_trans (Nat.pow_le_pow_right (by decide) hm) (by decide))
 exact pathN_fin ⟨m,by omega⟩ ⟨i,h32⟩ hi
theorem pow_le32 {m : Nat} (hm : m≤5) : 1≤2 ^ m∧2 ^ m≤32:=⟨Nat.one_le_two_pow,Nat.le_trans (Nat.pow_le_pow_right (by decide) hm) (by decide)⟩
theorem mem_cut {P : List Nat} {j x : Nat} (hj : j < P.length) : x ∈ P.drop j↔x = P[j]∨x ∈ P.drop (j + 1):=by
 rw [List.drop_eq_getElem_cons hj,List.mem_cons]
theorem clean_l0 (P : List Nat) (N : Nat) (hP : ∀ x ∈ P,x < N) (hl : P.length≤1000) : ∀ (d j : Nat) (g : Nat→S29),d + j = P.length→Evr (fun k=>tree_clean.l0 k (ints P) ((ints P).length : Int) (j : Int) (mkT N g)) (mkT N (fun x=>if x ∈ P.drop j then z29 else g x)):=by
 intro d
 induction d with
 | zero=>
  intro j g hd
  refine .succ (f:=fun _=>some (mkT N g)) (fun k=>by rw [tree_clean.l0,ints_len,if_neg (by omega)]) (.const fun _=>?_)
  rw [List.drop_eq_nil_of_le (by omega)]
  simp only [List.not_mem_nil,if_false]
 | succ d ih=>
  intro j g hd
  have hj : j < P.length:=by omega
  have hx:=hP _ (List.getElem_mem hj)
  have mem:=fun x=>mem_cut hj (x:=x)
  have h1:=ih (j + 1) (fun x=>if x = P[j] then z29 else g x) (by omega)
  refine .succ (f:=fun k=>tree_clean.l0 k (ints P) ((ints P).length : Int) ((j + 1 : Nat) : Int) (mkT N (fun x=>if x = P[j] then z29 else g x))) (fun k=>?_) ?_
  · rw [tree_clean.l0,ints_len,if_pos (by omega),if_pos (by omega),if_pos (by omega),ints_at hj,if_pos (by omega),mkT_len,if_pos (by omega),wrap_id (by omega),Int.toNat_natCast,show (j : Int) + 1 = ((j + 1 : Nat) : Int) by omega,← mkT_set]
    rfl
  · have e : (mkT N fun x=>if x ∈ P.drop j then z29 else g x) = mkT N (fun x=>if x ∈ P.drop (j + 1) then z29 else if x = P[j] then z29 else g x):=mkT_congr fun x _=>by
     by_cases c1 : x = P[j]
     · rw [if_pos ((mem x).2 (.inl c1)),if_pos c1,ite_self]
     · by_cases c2 : x ∈ P.drop (j + 1)
       · rw [if_pos ((mem x).2 (.inr c2)),if_pos c2]
       · rw [if_neg (fun hh=>((mem x).1 hh).elim c1 c2),if_neg c2,if_neg c1]
    rw [e]
    exact h1
theorem clean_ev {m i : Nat} (hm : m≤5) (hi : i < 2 ^ m) (g : Nat→S29) : Evr (fun k=>tree_clean.f k (mkT (2 * 2 ^ m - 1) g) (i : Int)) (mkT (2 * 2 ^ m - 1) (fun x=>if x ∈ pathN i m then z29 else g x)):=by
 have hp:=pow_le32 hm
 unfold tree_clean.f
 rw [(leaves_at (l:=mkT (2 * 2 ^ m - 1) g) (n:=2 ^ m) (mkT_len _ _) hp.1 (by omega)).2]
 simp only [Option.bind_some]
 rw [wrap_id (by omega),path_at hm hi]
 simp only [Option.bind_some]
 have h:=clean_l0 (pathN i m) (2 * 2 ^ m - 1) (fun x hx=>((pathN_ok hm hi).2 x hx).2) (by simp [pathN];omega) (pathN i m).length 0 g (by omega)
 rw [List.drop_zero] at h
 exact h
theorem copied_at {l : List S29} (k : Nat) (hl : l.length≤1000) (h5 : ∀ v ∈ l,v.f5.length < 17592186044416) : tree_copied.f k l = some l:=by
 unfold tree_copied.f
 rw [if_pos (by omega),if_pos]
 rw [List.all_eq_true]
 intro v hv
 exact decide_eq_true (h5 v hv)
def insN (l : List Int) (i : Int) : List Int:=l.take (l.countP (· < i)) ++ i :: l.drop (l.countP (· < i))
def lateIn (v : S29) (i : Int) : S29:=⟨v.f0,v.f1,v.f2,v.f3,v.f4,insN v.f5 i⟩
theorem add_l1 (P : List Nat) (N : Nat) (hP : ∀ x ∈ P,x < N) (hN : P.Nodup) (hl : P.length≤1000) (i : Int) : ∀ (d j : Nat) (g : Nat→S29),d + j = P.length→(∀ x ∈ P.drop j,(g x).f0 = true→(g x).f5.Pairwise (·≤·)∧(g x).f5.length≤1000)→
 Evr (fun k=>tree_Add.l1 k i (mkT N g) (ints P) ((ints P).length : Int) (j : Int)) (mkT N (fun x=>if x ∈ P.drop j∧(g x).f0 = true then lateIn (g x) i else g x),i,0):=by
 intro d
 induction d with
 | zero=>
  intro j g hd _
  refine .succ (f:=fun _=>some (mkT N g,i,0)) (fun k=>by rw [tree_Add.l1,ints_len,if_neg (by omega)]) (.const fun _=>?_)
  rw [List.drop_eq_nil_of_le (by omega)]
  simp only [List.not_mem_nil,false_and,if_false]
 | succ d ih=>
  intro j g hd hg
  have hj : j < P.length:=by omega
  have hx:=hP _ (List.getElem_mem hj)
  have hdrop:=List.drop_eq_getElem_cons hj
  have mem:=fun x=>mem_cut hj (x:=x)
  have hnot : P[j] ∉ P.drop (j + 1):=by
   have:=hN
   rw [← List.take_append_drop j P,hdrop] at this
   have:=(List.nodup_append.1 this).2.1
   exact (List.nodup_cons.1 this).1
  by_cases c : (g P[j]).f0 = true
  · obtain ⟨hs,hlen⟩:=hg P[j] (by rw [hdrop];exact List.mem_cons_self ..) c
    have h1:=ih (j + 1) (fun x=>if x = P[j] then lateIn (g P[j]) i else g x) (by omega) (fun x hx2=>by
     have : x≠P[j]:=fun e=>hnot (by rw [← e];exact hx2)
     simp only [this,if_false]
     exact hg x (by rw [hdrop];exact List.mem_cons_of_mem _ hx2))
    have hcnt:=List.countP_le_length (p:=fun a=>decide (a < i)) (l:=(g P[j]).f5)
    refine .succ (f:=fun k=>tree_Add.l1 k i (mkT N (fun x=>if x = P[j] then lateIn (g P[j]) i else g x)) (ints P) ((ints P).length : Int) ((j + 1 : Nat) : Int)) (fun k=>?_) ?_
    · rw [tree_Add.l1,ints_len,if_pos (by omega),if_pos (by omega),if_pos (by omega),ints_at hj,if_pos (by omega),mkT_len,if_pos (by omega)]
      have e : rd_T29 (mkT N g) (P[j] : Int) = g P[j]:=mkT_get hx
      rw [e,if_pos c]
      unfold sBS.f
      rw [if_pos (by omega),if_pos hs,Option.bind_some]
      unfold sIn.f
      rw [if_pos (by omega),if_pos (by omega),if_pos (by omega)]
      simp only [Option.bind_some,Int.toNat_natCast]
      rw [mkT_set,wrap_id (by omega),show (j : Int) + 1 = ((j + 1 : Nat) : Int) by omega]
      rfl
    · have e : (mkT N fun x=>if x ∈ P.drop j∧(g x).f0 = true then lateIn (g x) i else g x) = mkT N (fun x=>if x ∈ P.drop (j + 1)∧(if x = P[j] then lateIn (g P[j]) i else g x).f0 = true then lateIn (if x = P[j] then lateIn (g P[j]) i else g x) i else if x = P[j] then lateIn (g P[j]) i else g x):=mkT_congr fun x _=>by
       by_cases c1 : x = P[j]
       · have c' : (g x).f0 = true:=by rw [c1];exact c
         rw [if_pos ⟨(mem x).2 (.inl c1),c'⟩,if_neg (fun hh=>hnot (by rw [← c1];exact hh.1)),if_pos c1,c1]
       · simp only [if_neg c1]
         by_cases c2 : x ∈ P.drop (j + 1)∧(g x).f0 = true
         · rw [if_pos c2,if_pos ⟨(mem x).2 (.inr c2.1),c2.2⟩]
         · rw [if_neg c2,if_neg (fun hh=>((mem x).1 hh.1).elim c1 (fun h2=>c2 ⟨h2,hh.2⟩))]
      rw [e]
      exact h1
  · have h1:=ih (j + 1) g (by omega) (fun x hx2=>hg x (by rw [hdrop];exact List.mem_cons_of_mem _ hx2))
    refine .succ (f:=fun k=>tree_Add.l1 k i (mkT N g) (ints P) ((ints P).length : Int) ((j + 1 : Nat) : Int)) (fun k=>?_) ?_
    · rw [tree_Add.l1,ints_len,if_pos (by omega),if_pos (by omega),if_pos (by omega),ints_at hj,if_pos (by omega),mkT_len,if_pos (by omega)]
      have e : rd_T29 (mkT N g) (P[j] : Int) = g P[j]:=mkT_get hx
      rw [e,if_neg c,wrap_id (by omega),show (j : Int) + 1 = ((j + 1 : Nat) : Int) by omega]
    · have e : (mkT N fun x=>if x ∈ P.drop j∧(g x).f0 = true then lateIn (g x) i else g x) = mkT N (fun x=>if x ∈ P.drop (j + 1)∧(g x).f0 = true then lateIn (g x) i else g x):=mkT_congr fun x _=>by
       by_cases c1 : x = P[j]
       · rw [if_neg (fun hh=>c (by rw [← c1];exact hh.2)),if_neg (fun hh=>hnot (by rw [← c1];exact hh.1))]
       · by_cases c2 : x ∈ P.drop (j + 1)∧(g x).f0 = true
         · rw [if_pos c2,if_pos ⟨(mem x).2 (.inr c2.1),c2.2⟩]
         · rw [if_neg c2,if_neg (fun hh=>((mem x).1 hh.1).elim c1 (fun h2=>c2 ⟨h2,hh.2⟩))]
      rw [e]
      exact h1
def addL (l : List S29) (i m : Nat) (leaf : S29) : List S29:=mkT (2 * 2 ^ m - 1) (fun x=>if x ∈ pathN i m∧(VX l x).f0 = true then lateIn (VX l x) i else if x = 2 * i then leaf else VX l x)
structure LateOk (l : List S29) : Prop where
 len : ∀ v ∈ l,v.f5.length≤1000
 up : ∀ v ∈ l,v.f0 = true→v.f5.Pairwise (·≤·)
theorem LateOk.at {l : List S29} (h : LateOk l) (x : Nat) : (VX l x).f5.length≤1000∧((VX l x).f0 = true→(VX l x).f5.Pairwise (·≤·)):=by
 by_cases c : x < l.length
 · rw [VX_at c];exact ⟨h.len _ (List.getElem_mem c),h.up _ (List.getElem_mem c)⟩
 · rw [VX_out (by omega)]
   exact ⟨by simp [z29],fun e=>by simp [z29] at e⟩
end Go.Proofs.YtbblomnhobodkaaDoor.Pure
set_option linter.unusedVariables false
set_option linter.unusedSimpArgs false
namespace Go.Proofs.YtbblomnhobodkaaDoor.Pure
open Go.RowKit Go.Proofs.YtbblomnhobodkaaDoor Go.Proofs.YtbblomnhobodkaaDoor.PTw Go.Proofs.YtbblomnhobodkaaDoorW.PW
theorem add_j3_open {N m i : Nat} (hm : m≤5) (hi : i < 2 ^ m) (hN : N = 2 * 2 ^ m - 1) (g : Nat→S29) (f0 : Bool) (f1 f2 f3 f4 : Int) (l5 : List Int) (k : Nat) :
 tree_Add.j3 (k + 1) ((2 ^ m : Nat) : Int) (i : Int) (mkT N g) f0 f1 f2 f3 f4 l5 = tree_Add.l1 k (i : Int) (mkT N (fun x=>if x = 2 * i then ⟨true,f1,f2,f3,f4,[]⟩ else g x)) (ints (pathN i m)) ((ints (pathN i m)).length : Int) 0:=by
 have hp:=pow_le32 hm
 have hpa:=path_at hm hi
 generalize 2 ^ m = n at *
 rw [tree_Add.j3]
 have hlo : tree_leafOf.f f0 f1 f2 f3 f4 l5 = some (true,f1,f2,f3,f4,[]):=rfl
 rw [hlo,Option.bind_some,wrap_id (by omega),if_pos (by omega),mkT_len,if_pos (by omega),hpa,Option.bind_some,show (2 * (i : Int)).toNat = 2 * i by omega,mkT_set]
theorem add_j3 {N m i : Nat} (hm : m≤5) (hi : i < 2 ^ m) (hN : N = 2 * 2 ^ m - 1) (g : Nat→S29) (hg : ∀ x,(g x).f5.length≤1000∧((g x).f0 = true→(g x).f5.Pairwise (·≤·))) (f0 : Bool) (f1 f2 f3 f4 : Int) (l5 : List Int) :
 Evr (fun k=>tree_Add.j3 k ((2 ^ m : Nat) : Int) (i : Int) (mkT N g) f0 f1 f2 f3 f4 l5) (mkT N (fun x=>if x ∈ pathN i m∧(g x).f0 = true then lateIn (g x) i else if x = 2 * i then ⟨true,f1,f2,f3,f4,[]⟩ else g x),(i : Int),0):=by
 have hok:=pathN_ok hm hi
 have hpl : (pathN i m).length≤1000:=by simp [pathN];omega
 have hop:=add_j3_open hm hi hN g f0 f1 f2 f3 f4 l5
 generalize pathN i m = P at *
 generalize ((2 ^ m : Nat) : Int) = n at *
 have h:=add_l1 P N (fun x hx=>by have:=(hok.2 x hx).2;omega) hok.1 hpl (i : Int) P.length 0 (fun x=>if x = 2 * i then ⟨true,f1,f2,f3,f4,[]⟩ else g x) (by omega) (fun x hx=>by
  have h2:=(hok.2 x hx).1
  have : x≠2 * i:=by omega
  simp only [this,if_false]
  exact fun hf=>⟨(hg x).2 hf,(hg x).1⟩)
 refine .succ hop ?_
 have e : (mkT N fun x=>if x ∈ P∧(g x).f0 = true then lateIn (g x) i else if x = 2 * i then ⟨true,f1,f2,f3,f4,[]⟩ else g x) = mkT N (fun x=>if x ∈ P.drop 0∧(if x = 2 * i then (⟨true,f1,f2,f3,f4,[]⟩ : S29) else g x).f0 = true then lateIn (if x = 2 * i then (⟨true,f1,f2,f3,f4,[]⟩ : S29) else g x) i else if x = 2 * i then ⟨true,f1,f2,f3,f4,[]⟩ else g x):=mkT_congr fun x _=>by
  rw [List.drop_zero]
  by_cases c : x = 2 * i
  · have hn : x ∉ P:=fun hx=>by have:=(hok.2 x hx).1;omega
    rw [if_neg (fun hh=>hn hh.1),if_pos c,if_neg (fun hh=>hn hh.1)]
  · simp only [if_neg c]
 rw [e]
 exact h
theorem add_l0 {l : List S29} {n : Nat} (h : l.length = 2 * n - 1) (hn : 1≤n) (hn2 : n≤32) (f0 : Bool) (f1 f2 f3 f4 : Int) (l5 : List Int) {i : Nat} (hi : i≤n) (hfull : ∀ j,j < i→(VX l (2 * j)).f0 = true) (hfree : i < n→(VX l (2 * i)).f0 = false) {r : List S29 × Int × Int} (hr : Evr (fun k=>tree_Add.j1 k l (n : Int) (i : Int) f0 f1 f2 f3 f4 l5) r) : ∀ (d j : Nat),d + j = i→Evr (fun k=>tree_Add.l0 k l (n : Int) (j : Int) f0 f1 f2 f3 f4 l5) r:=by
 intro d
 induction d with
 | zero=>
  intro j hd
  have : j = i:=by omega
  subst this
  refine .succ (f:=fun k=>tree_Add.j1 k l (n : Int) (j : Int) f0 f1 f2 f3 f4 l5) (fun k=>?_) hr
  rw [tree_Add.l0]
  by_cases c : j < n
  · have e:=hfree c
    rw [if_pos (by omega),wrap_id (by omega),if_pos (by omega),if_pos (by omega)]
    have e' : (rd_T29 l (2 * (j : Int))).f0 = false:=e
    rw [e']
    rfl
  · rw [if_neg (by omega)]
 | succ d ih=>
  intro j hd
  refine .succ (fun k=>?_) (ih (j + 1) (by omega))
  have e' : (rd_T29 l (2 * (j : Int))).f0 = true:=hfull j (by omega)
  rw [tree_Add.l0,if_pos (by omega),wrap_id (a:=2 * (j : Int)) (by omega),if_pos (by omega),if_pos (by omega),e',if_pos rfl,wrap_id (by omega),show (j : Int) + 1 = ((j + 1 : Nat) : Int) by omega]
theorem add_ev {l : List S29} {m m' i : Nat} (hm : m≤5) (h : l.length = 2 * 2 ^ m - 1) (hl : LateOk l) (hi : i≤2 ^ m) (hfull : ∀ j,j < i→(VX l (2 * j)).f0 = true) (hfree : i < 2 ^ m→(VX l (2 * i)).f0 = false) (hm' : (i < 2 ^ m∧m' = m)∨(i = 2 ^ m∧m' = m + 1∧m'≤5)) (f0 : Bool) (f1 f2 f3 f4 : Int) (l5 : List Int) :
 Evr (fun k=>tree_Add.f k l f0 f1 f2 f3 f4 l5) (addL l i m' ⟨true,f1,f2,f3,f4,[]⟩,(i : Int),0):=by
 have hp:=pow_le32 hm
 have hg:=hl.at
 have h5 : ∀ v ∈ l,v.f5.length < 17592186044416:=fun v hv=>by have:=hl.len v hv;omega
 refine .congr (f:=fun k=>tree_Add.l0 k l ((2 ^ m : Nat) : Int) 0 f0 f1 f2 f3 f4 l5) (fun k=>by unfold tree_Add.f;rw [(leaves_at h hp.1 (by omega)).2,Option.bind_some]) ?_
 refine add_l0 h hp.1 hp.2 f0 f1 f2 f3 f4 l5 hi hfull hfree ?_ i 0 (by omega)
 rcases hm' with ⟨hlt,rfl⟩ | ⟨rfl,rfl,hm5⟩
 · refine .succ (f:=fun k=>tree_Add.j2 k l ((2 ^ m' : Nat) : Int) (i : Int) false f0 f1 f2 f3 f4 l5) (fun k=>?_) (.succ (f:=fun k=>tree_Add.j3 k ((2 ^ m' : Nat) : Int) (i : Int) l f0 f1 f2 f3 f4 l5) (fun k=>?_) ?_)
   · rw [tree_Add.j1,if_neg (by omega)]
   · rw [tree_Add.j2,if_neg (by decide),copied_at k (by omega) h5,Option.bind_some,if_neg (by omega)]
   · have:=add_j3 (N:=l.length) hm hlt h (VX l) hg f0 f1 f2 f3 f4 l5
     rw [← mkT_self l,h] at this
     exact this
 · refine .succ (f:=fun k=>tree_Add.j2 k l ((2 ^ m : Nat) : Int) ((2 ^ m : Nat) : Int) false f0 f1 f2 f3 f4 l5) (fun k=>?_) (.succ (f:=fun k=>tree_Add.j3 k ((2 ^ (m + 1) : Nat) : Int) ((2 ^ m : Nat) : Int) (mkT (2 * 2 ^ (m + 1) - 1) (VX l)) f0 f1 f2 f3 f4 l5) (fun k=>?_) ?_)
   · have h16 : 2 ^ m≤16:=Nat.le_trans (Nat.pow_le_pow_right (by decide) (show m≤4 by omega)) (by decide)
     rw [tree_Add.j1,if_pos rfl,decide_eq_false (by omega)]
   · have h16 : 2 ^ m≤16:=Nat.le_trans (Nat.pow_le_pow_right (by decide) (show m≤4 by omega)) (by decide)
     rw [tree_Add.j2,if_neg (by decide),copied_at k (by omega) h5,Option.bind_some,if_pos rfl,wrap_id (by omega),if_pos (by omega),if_pos (by omega),wrap_id (by omega)]
     have e1 : l ++ List.replicate (2 * ((2 ^ m : Nat) : Int)).toNat z29 = mkT (2 * 2 ^ (m + 1) - 1) (VX l):=by
      conv=>lhs;rw [mkT_self l]
      rw [mkT_app (fun x hx=>VX_out hx)]
      congr 1
      rw [h,Nat.pow_succ]
      omega
     rw [e1,show ((2 ^ m : Nat) : Int) * 2 = ((2 ^ (m + 1) : Nat) : Int) by rw [Nat.pow_succ];omega]
   · exact add_j3 hm5 (by rw [Nat.pow_succ];omega) rfl (VX l) hg f0 f1 f2 f3 f4 l5
theorem add_none {l : List S29} (h : l.length = 63) (hfull : ∀ j,j < 32→(VX l (2 * j)).f0 = true) (f0 : Bool) (f1 f2 f3 f4 : Int) (l5 : List Int) : Evr (fun k=>tree_Add.f k l f0 f1 f2 f3 f4 l5) ([],0,41):=by
 refine .congr (f:=fun k=>tree_Add.l0 k l 32 0 f0 f1 f2 f3 f4 l5) (fun k=>by unfold tree_Add.f;rw [(leaves_at (n:=32) (by omega) (by omega) (by omega)).2,Option.bind_some];rfl) ?_
 refine add_l0 (n:=32) (i:=32) (by omega) (by omega) (by omega) f0 f1 f2 f3 f4 l5 (by omega) hfull (by omega) ?_ 32 0 (by omega)
 refine .succ (f:=fun k=>tree_Add.j2 k l 32 32 true f0 f1 f2 f3 f4 l5) (fun k=>?_) (.succ (f:=fun _=>some (([] : List S29),0,41)) (fun k=>?_) (.const fun _=>rfl))
 · rw [tree_Add.j1];rfl
 · rw [tree_Add.j2,if_pos rfl]
end Go.Proofs.YtbblomnhobodkaaDoor.Pure
set_option linter.unusedVariables false
set_option linter.unusedSimpArgs false
namespace Go.Proofs.YtbblomnhobodkaaDoor.Pure
open Go.RowKit Go.Proofs.YtbblomnhobodkaaDoor Go.Proofs.YtbblomnhobodkaaDoor.PTw Go.Proofs.YtbblomnhobodkaaDoorW.PW
theorem ints_append (a b : List Nat) : ints (a ++ b) = ints a ++ ints b:=by simp [ints]
def fullN (l : List S29) (j d : Nat) : List Nat:=(List.range' j d).filter fun i=>(VX l (2 * i)).f0
theorem members_l0 {l : List S29} {n : Nat} (h : l.length = 2 * n - 1) (hn : 1≤n) (hn2 : n≤1000) : ∀ (d j : Nat) (acc : List Nat),d + j = n→acc.length≤j→Evr (fun k=>tree_Members.l0 k l (ints acc) (n : Int) (j : Int)) (ints (acc ++ fullN l j d)):=by
 intro d
 induction d with
 | zero=>
  intro j acc hd ha
  refine .succ (f:=fun _=>some (ints acc)) (fun k=>by rw [tree_Members.l0,if_neg (by omega)]) (.const fun _=>?_)
  simp [fullN]
 | succ d ih=>
  intro j acc hd ha
  have e0 : (rd_T29 l (2 * (j : Int))).f0 = (VX l (2 * j)).f0:=rfl
  have e1 : fullN l j (d + 1) = if (VX l (2 * j)).f0 = true then j :: fullN l (j + 1) d else fullN l (j + 1) d:=by
   unfold fullN
   rw [List.range'_succ,List.filter_cons]
  by_cases c : (VX l (2 * j)).f0 = true
  · rw [e1,if_pos c,show acc ++ j :: fullN l (j + 1) d = acc ++ [j] ++ fullN l (j + 1) d by simp]
    refine .succ (fun k=>?_) (ih (j + 1) (acc ++ [j]) (by omega) (by simp;omega))
    rw [tree_Members.l0,if_pos (by omega),wrap_id (a:=2 * (j : Int)) (by omega),if_pos (by omega),if_pos (by omega),e0,if_pos c,ints_len,if_pos (by omega),wrap_id (by omega),show (j : Int) + 1 = ((j + 1 : Nat) : Int) by omega,ints_append]
    rfl
  · rw [e1,if_neg c]
    refine .succ (fun k=>?_) (ih (j + 1) acc (by omega) (by omega))
    rw [tree_Members.l0,if_pos (by omega),wrap_id (a:=2 * (j : Int)) (by omega),if_pos (by omega),if_pos (by omega),e0,if_neg c,wrap_id (by omega),show (j : Int) + 1 = ((j + 1 : Nat) : Int) by omega]
theorem members_ev {l : List S29} {n : Nat} (h : l.length = 2 * n - 1) (hn : 1≤n) (hn2 : n≤1000) : Evr (fun k=>tree_Members.f k l) (ints (fullN l 0 n)):=by
 refine .congr (f:=fun k=>tree_Members.l0 k l (ints []) (n : Int) 0) (fun k=>by unfold tree_Members.f;rw [(leaves_at h hn hn2).2,Option.bind_some];rfl) ?_
 have:=members_l0 h hn hn2 n 0 [] (by omega) (by simp)
 rw [List.nil_append] at this
 exact this
theorem tight_no {l : List S29} {n : Nat} (h : l.length = 2 * n - 1) (hn : 1≤n) (hn2 : n≤1000) (hno : ∀ i,n / 2≤i→i < n→(VX l (2 * i)).f0 = false) : Evr (fun k=>tree_tight.f k l) false:=by
 have hl0 : ∀ (d j : Nat),d + j = n→n / 2≤j→Evr (fun k=>tree_tight.l0 k l (n : Int) (j : Int)) false:=by
  intro d
  induction d with
  | zero=>exact fun j hd _=>.succ (f:=fun _=>some false) (fun k=>by rw [tree_tight.l0,if_neg (by omega)]) (.const fun _=>rfl)
  | succ d ih=>
   intro j hd hj
   have e0 : (rd_T29 l (2 * (j : Int))).f0 = false:=hno j hj (by omega)
   refine .succ (fun k=>?_) (ih (j + 1) (by omega) (by omega))
   rw [tree_tight.l0,if_pos (by omega),wrap_id (a:=2 * (j : Int)) (by omega),if_pos (by omega),if_pos (by omega),e0,if_neg (by decide),wrap_id (by omega),show (j : Int) + 1 = ((j + 1 : Nat) : Int) by omega]
 refine .congr (f:=fun k=>tree_tight.l0 k l (n : Int) ((n / 2 : Nat) : Int)) (fun k=>?_) (hl0 (n - n / 2) (n / 2) (by omega) (Nat.le_refl _))
 unfold tree_tight.f
 rw [(leaves_at h hn hn2).2,Option.bind_some,Int.tdiv_eq_ediv_of_nonneg (by omega),wrap_id (by omega),show (n : Int) / 2 = ((n / 2 : Nat) : Int) by omega]
theorem tight_yes {l : List S29} {n : Nat} (h : l.length = 2 * n - 1) (hn : 1≤n) (hn2 : n≤1000) {i : Nat} (hi : n / 2≤i) (hi2 : i < n) (hf : (VX l (2 * i)).f0 = true) : Evr (fun k=>tree_tight.f k l) true:=by
 have hl0 : ∀ (d j : Nat),d + j = i→Evr (fun k=>tree_tight.l0 k l (n : Int) (j : Int)) true:=by
  intro d
  induction d with
  | zero=>
   intro j hd
   have : j = i:=by omega
   subst this
   refine .succ (f:=fun _=>some true) (fun k=>?_) (.const fun _=>rfl)
   have e0 : (rd_T29 l (2 * (j : Int))).f0 = true:=hf
   rw [tree_tight.l0,if_pos (by omega),wrap_id (a:=2 * (j : Int)) (by omega),if_pos (by omega),if_pos (by omega),e0,if_pos rfl]
  | succ d ih=>
   intro j hd
   by_cases c : (rd_T29 l (2 * (j : Int))).f0 = true
   · refine .succ (f:=fun _=>some true) (fun k=>?_) (.const fun _=>rfl)
     rw [tree_tight.l0,if_pos (by omega),wrap_id (a:=2 * (j : Int)) (by omega),if_pos (by omega),if_pos (by omega),if_pos c]
   · refine .succ (fun k=>?_) (ih (j + 1) (by omega))
     rw [tree_tight.l0,if_pos (by omega),wrap_id (a:=2 * (j : Int)) (by omega),if_pos (by omega),if_pos (by omega),if_neg c,wrap_id (by omega),show (j : Int) + 1 = ((j + 1 : Nat) : Int) by omega]
 refine .congr (f:=fun k=>tree_tight.l0 k l (n : Int) ((n / 2 : Nat) : Int)) (fun k=>?_) (hl0 (i - n / 2) (n / 2) (by omega))
 unfold tree_tight.f
 rw [(leaves_at h hn hn2).2,Option.bind_some,Int.tdiv_eq_ediv_of_nonneg (by omega),wrap_id (by omega),show (n : Int) / 2 = ((n / 2 : Nat) : Int) by omega]
structure Tops (g : Nat→S29) (m m' : Nat) : Prop where
 le : m'≤m
 no : ∀ i,2 ^ m'≤i→i < 2 ^ m→(g (2 * i)).f0 = false
 yes : ∃ i,2 ^ m' / 2≤i∧i < 2 ^ m'∧(g (2 * i)).f0 = true
theorem shrink {g : Nat→S29} {m' : Nat} : ∀ (m : Nat),m≤5→Tops g m m'→Evr (fun k=>tree_Remove.l0 k (mkT (2 * 2 ^ m - 1) g)) (mkT (2 * 2 ^ m' - 1) g,0):=by
 intro m
 induction m with
 | zero=>
  intro hm ht
  have : m' = 0:=by have:=ht.le;omega
  subst this
  obtain ⟨i,h1,h2,h3⟩:=ht.yes
  have:=tight_yes (l:=mkT (2 * 2 ^ 0 - 1) g) (n:=2 ^ 0) (mkT_len _ _) (by decide) (by decide) h1 h2 (by rw [mkT_get (by omega)];exact h3)
  exact .succ (f:=fun k=>(tree_tight.f k (mkT (2 * 2 ^ 0 - 1) g)).bind fun b=>if b = true then some (mkT (2 * 2 ^ 0 - 1) g,0) else tree_Remove.l0 k ((mkT (2 * 2 ^ 0 - 1) g).take ((mkT (2 * 2 ^ 0 - 1) g).length / 2))) (fun k=>by rw [tree_Remove.l0]) (this.bind (.const fun _=>by rw [if_pos rfl]))
 | succ m ih=>
  intro hm ht
  have hp:=pow_le32 (m:=m + 1) hm
  have hps : 2 ^ (m + 1) = 2 * 2 ^ m:=by rw [Nat.pow_succ];omega
  by_cases c : m' = m + 1
  · subst c
    obtain ⟨i,h1,h2,h3⟩:=ht.yes
    have:=tight_yes (l:=mkT (2 * 2 ^ (m + 1) - 1) g) (n:=2 ^ (m + 1)) (mkT_len _ _) hp.1 (by omega) h1 h2 (by rw [mkT_get (by omega)];exact h3)
    exact .succ (f:=fun k=>(tree_tight.f k (mkT (2 * 2 ^ (m + 1) - 1) g)).bind fun b=>if b = true then some (mkT (2 * 2 ^ (m + 1) - 1) g,0) else tree_Remove.l0 k ((mkT (2 * 2 ^ (m + 1) - 1) g).take ((mkT (2 * 2 ^ (m + 1) - 1) g).length / 2))) (fun k=>by rw [tree_Remove.l0]) (this.bind (.const fun _=>by rw [if_pos rfl]))
  · have hle : m'≤m:=by have:=ht.le;omega
    have hpm : 2 ^ m'≤2 ^ m:=Nat.pow_le_pow_right (by decide) hle
    have:=tight_no (l:=mkT (2 * 2 ^ (m + 1) - 1) g) (n:=2 ^ (m + 1)) (mkT_len _ _) hp.1 (by omega) (fun i h1 h2=>by rw [mkT_get (by omega)];exact ht.no i (by omega) h2)
    have hi:=ih (by omega) ⟨hle,fun i h1 h2=>ht.no i h1 (by omega),ht.yes⟩
    refine .succ (f:=fun k=>(tree_tight.f k (mkT (2 * 2 ^ (m + 1) - 1) g)).bind fun b=>if b = true then some (mkT (2 * 2 ^ (m + 1) - 1) g,0) else tree_Remove.l0 k ((mkT (2 * 2 ^ (m + 1) - 1) g).take ((mkT (2 * 2 ^ (m + 1) - 1) g).length / 2))) (fun k=>by rw [tree_Remove.l0]) (this.bind ?_)
    refine .congr (fun k=>?_) hi
    rw [if_neg (by decide),mkT_len,mkT_take (by omega),show (2 * 2 ^ (m + 1) - 1) / 2 = 2 * 2 ^ m - 1 by omega]
def cutG (l : List S29) (i m : Nat) : Nat→S29:=fun x=>if x ∈ pathN i m then z29 else if x = 2 * i then z29 else VX l x
theorem remove_ev {l : List S29} {m m' i : Nat} (hm : m≤5) (h : l.length = 2 * 2 ^ m - 1) (hl : LateOk l) (hi : i < 2 ^ m) (hf : (VX l (2 * i)).f0 = true) (hc : (fullN l 0 (2 ^ m)).length≠1) (ht : Tops (cutG l i m) m m') : Evr (fun k=>tree_Remove.f k l (i : Int)) (mkT (2 * 2 ^ m' - 1) (cutG l i m),0):=by
 have hp:=pow_le32 hm
 have h5 : ∀ v ∈ l,v.f5.length < 17592186044416:=fun v hv=>by have:=hl.len v hv;omega
 have hfb : tree_full.f l (i : Int) = some true:=by
  rw [(full_same h hp.1 (by omega) _).2]
  unfold fullB
  rw [decide_eq_true (by omega),decide_eq_true (by omega)]
  exact congrArg some hf
 have hms:=members_ev h hp.1 (by omega)
 have hcl:=clean_ev hm hi (fun x=>if x = 2 * i then z29 else VX l x)
 have hcl2 : Evr (fun k=>tree_clean.f k ((l.set (2 * i) z29)) (i : Int)) (mkT (2 * 2 ^ m - 1) (cutG l i m)):=by
  have e : l.set (2 * i) z29 = mkT (2 * 2 ^ m - 1) (fun x=>if x = 2 * i then z29 else VX l x):=by
   conv=>lhs;rw [mkT_self l]
   rw [mkT_set,h]
  rw [e]
  exact hcl
 refine .congr (f:=fun k=>(tree_Members.f k l).bind fun ms=>if ms.length = 1 then some (([] : List S29),40) else (tree_clean.f k (l.set (2 * i) z29) (i : Int)).bind fun t3=>tree_Remove.l0 k t3) (fun k=>?_) (hms.bind ?_)
 · unfold tree_Remove.f
   rw [hfb,Option.bind_some,if_pos rfl,copied_at k (by omega) h5,Option.bind_some,wrap_id (by omega),if_pos (by omega),if_pos (by omega),show (2 * (i : Int)).toNat = 2 * i by omega]
   rfl
 · rw [ints_len]
   simp only [if_neg hc]
   exact hcl2.bind (shrink m hm ht)
theorem remove_one {l : List S29} {m : Nat} {i : Int} (hm : m≤5) (h : l.length = 2 * 2 ^ m - 1) (hc : fullB l (2 ^ m) i = true→(fullN l 0 (2 ^ m)).length = 1) : Evr (fun k=>tree_Remove.f k l i) ([],40):=by
 have hp:=pow_le32 hm
 have hms:=members_ev h hp.1 (by omega)
 by_cases c : fullB l (2 ^ m) i = true
 · refine .congr (f:=fun k=>(tree_Members.f k l).bind fun ms=>if ms.length = 1 then some (([] : List S29),40) else ((tree_copied.f k l).bind fun t2=>if 0≤(wrap64 (2 * i)) then (if (wrap64 (2 * i)) < (t2.length : Int) then ((tree_clean.f k (t2.set ((wrap64 (2 * i)) : Int).toNat (⟨false,0,0,0,0,([] : List Int)⟩ : S29)) i).bind fun t3=>tree_Remove.l0 k t3) else none) else none)) (fun k=>?_) (hms.bind ?_)
   · unfold tree_Remove.f
     rw [(full_same h hp.1 (by omega) _).2,c,Option.bind_some,if_pos rfl]
   · rw [ints_len]
     simp only [if_pos (hc c)]
     exact .const fun _=>rfl
 · refine .const fun k=>?_
   unfold tree_Remove.f
   rw [(full_same h hp.1 (by omega) _).2,Option.bind_some,if_neg c]
end Go.Proofs.YtbblomnhobodkaaDoor.Pure
set_option linter.unusedVariables false
set_option linter.unusedSimpArgs false
namespace Go.Proofs.YtbblomnhobodkaaDoor.Pure
open Go.RowKit Go.Proofs.YtbblomnhobodkaaDoor Go.Proofs.YtbblomnhobodkaaDoor.PTw Go.Proofs.YtbblomnhobodkaaDoorW.PW
def lvN (x : Nat) : Nat:=((List.range 6).find? (fun k=>x % 2 ^ (k + 1) == 2 ^ k - 1)).getD 0
def copN (i m : Nat) : List Nat:=(List.range m).map fun k=>if i / 2 ^ k % 2 = 0 then (i / 2 ^ k + 1) * 2 ^ (k + 1) + 2 ^ k - 1 else (i / 2 ^ k - 1) * 2 ^ (k + 1) + 2 ^ k - 1
set_option maxRecDepth 100000 in
theorem child_fin : ∀ m : Fin 6,∀ x : Fin 63,x.val < 2 * 2 ^ m.val - 1→heap_Children.f (x.val : Int) ((2 ^ m.val : Nat) : Int) = (if lvN x.val = 0 then some (0,0,30) else some (((x.val - 2 ^ (lvN x.val - 1) : Nat) : Int),((x.val + 2 ^ (lvN x.val - 1) : Nat) : Int),0)):=by decide +kernel
set_option maxRecDepth 100000 in
theorem lv_fin : ∀ m : Fin 6,∀ x : Fin 63,x.val < 2 * 2 ^ m.val - 1→lvN x.val≤m.val∧(lvN x.val≠0→lvN (x.val - 2 ^ (lvN x.val - 1)) = lvN x.val - 1∧lvN (x.val + 2 ^ (lvN x.val - 1)) = lvN x.val - 1∧x.val + 2 ^ (lvN x.val - 1) < 2 * 2 ^ m.val - 1∧2 ^ (lvN x.val - 1)≤x.val):=by decide +kernel
set_option maxRecDepth 100000 in
theorem width_fin : ∀ x : Fin 63,r3Width.f 20 (x.val : Int) = some ((2 ^ lvN x.val - 1 : Nat) : Int):=by decide +kernel
set_option maxRecDepth 100000 in
theorem cop_fin : ∀ m : Fin 6,∀ i : Fin 32,i.val < 2 ^ m.val→heap_Copath.f (2 * (i.val : Int)) ((2 ^ m.val : Nat) : Int) = some (ints (copN i.val m.val),0)∧r3Path.f 100 (2 * (i.val : Int)) ((2 ^ m.val : Nat) : Int) = some (ints (pathN i.val m.val))∧r3Copath.f 100 (2 * (i.val : Int)) ((2 ^ m.val : Nat) : Int) = some (ints (copN i.val m.val)):=by decide +kernel
theorem child_at {m x : Nat} (hm : m≤5) (hx : x < 2 * 2 ^ m - 1) : heap_Children.f (x : Int) ((2 ^ m : Nat) : Int) = (if lvN x = 0 then some (0,0,30) else some (((x - 2 ^ (lvN x - 1) : Nat) : Int),((x + 2 ^ (lvN x - 1) : Nat) : Int),0)):=by
 have hp:=pow_le32 hm
 exact child_fin ⟨m,by omega⟩ ⟨x,by omega⟩ hx
theorem lv_at {m x : Nat} (hm : m≤5) (hx : x < 2 * 2 ^ m - 1) : lvN x≤m∧(lvN x≠0→lvN (x - 2 ^ (lvN x - 1)) = lvN x - 1∧lvN (x + 2 ^ (lvN x - 1)) = lvN x - 1∧x + 2 ^ (lvN x - 1) < 2 * 2 ^ m - 1∧2 ^ (lvN x - 1)≤x):=by
 have hp:=pow_le32 hm
 exact lv_fin ⟨m,by omega⟩ ⟨x,by omega⟩ hx
theorem width_at {x : Nat} (hx : x < 63) : Evr (fun k=>r3Width.f k (x : Int)) ((2 ^ lvN x - 1 : Nat) : Int):=
 .of_mono (K:=20) (fun k a h=>r3Width.mono _ k _ h) (width_fin ⟨x,hx⟩)
def resN (l : List S29) : Nat→Nat→List Int
 | 0,x=>if (VX l x).f0 = true then (x : Int) :: (VX l x).f5.map (fun y=>2 * y) else []
 | k + 1,x=>if (VX l x).f0 = true then (x : Int) :: (VX l x).f5.map (fun y=>2 * y) else resN l k (x - 2 ^ k) ++ resN l k (x + 2 ^ k)
structure LateSm (l : List S29) : Prop where
 len : ∀ x,(VX l x).f5.length≤100
 sm : ∀ x,∀ y ∈ (VX l x).f5,0≤y∧y≤100
theorem resN_len {l : List S29} (h : LateSm l) : ∀ (k x : Nat),(resN l k x).length≤101 * 2 ^ k
 | 0,x=>by
  unfold resN
  split
  · simp;have:=h.len x;omega
  · simp
 | k + 1,x=>by
  unfold resN
  have h1:=resN_len h k (x - 2 ^ k)
  have h2:=resN_len h k (x + 2 ^ k)
  have hp : 1≤2 ^ k:=Nat.one_le_two_pow
  split
  · simp;have:=h.len x;rw [Nat.pow_succ];omega
  · rw [List.length_append,Nat.pow_succ];omega
theorem res_l0 {l : List S29} (late : List Int) (hl : late.length≤1000) (hs : ∀ y ∈ late,0≤y∧y≤100) : ∀ (d j : Nat) (acc : List Int),d + j = late.length→acc.length + d≤100000→Evr (fun k=>tree_Resolution.l0 k acc late (late.length : Int) (j : Int)) (acc ++ (late.drop j).map (fun y=>2 * y)):=by
 intro d
 induction d with
 | zero=>
  intro j acc hd _
  refine .succ (f:=fun _=>some acc) (fun k=>by rw [tree_Resolution.l0,if_neg (by omega)]) (.const fun _=>?_)
  rw [List.drop_eq_nil_of_le (by omega)]
  simp
 | succ d ih=>
  intro j acc hd ha
  have hj : j < late.length:=by omega
  have hy:=hs _ (List.getElem_mem hj)
  have e : rd late (j : Int) = late[j]:=by simp [rd,List.getD_eq_getElem?_getD,List.getElem?_eq_getElem hj]
  rw [List.drop_eq_getElem_cons hj,List.map_cons,show acc ++ 2 * late[j] :: (late.drop (j + 1)).map (fun y=>2 * y) = acc ++ [2 * late[j]] ++ (late.drop (j + 1)).map (fun y=>2 * y) by simp]
  refine .succ (fun k=>?_) (ih (j + 1) (acc ++ [2 * late[j]]) (by omega) (by simp;omega))
  rw [tree_Resolution.l0,if_pos (by omega),if_pos (by omega),if_pos (by omega),if_pos (by omega),e,wrap_id (a:=2 * late[j]) (by omega),wrap_id (by omega),show (j : Int) + 1 = ((j + 1 : Nat) : Int) by omega]
theorem tres_open {l : List S29} {x : Nat} (hx : x < l.length) {r : List Int} (hr : Evr (fun q=>tree_Resolution.j0 q l (x : Int) false) r) : Evr (fun q=>tree_Resolution.f q l (x : Int)) r:=
 .succ (fun q=>by rw [tree_Resolution.f,if_neg (by omega),decide_eq_false (by omega)]) hr
theorem tres_full {l : List S29} (hL : LateSm l) {x : Nat} (hx : x < l.length) (hf : (VX l x).f0 = true) : Evr (fun q=>tree_Resolution.f q l (x : Int)) ((x : Int) :: (VX l x).f5.map (fun y=>2 * y)):=by
 have h:=res_l0 (l:=l) (VX l x).f5 (by have:=hL.len x;omega) (hL.sm x) (VX l x).f5.length 0 [(x : Int)] (by omega) (by have:=hL.len x;simp;omega)
 rw [List.drop_zero] at h
 refine tres_open hx (.succ (fun q=>?_) h)
 have e : (rd_T29 l (x : Int)).f0 = true:=hf
 rw [tree_Resolution.j0,if_neg (by decide),if_pos (by omega),if_pos (by omega),e,if_pos rfl]
 rfl
theorem tres_ev {l : List S29} {m : Nat} (hm : m≤5) (h : l.length = 2 * 2 ^ m - 1) (hL : LateSm l) : ∀ (k x : Nat),lvN x = k→x < l.length→Evr (fun q=>tree_Resolution.f q l (x : Int)) (resN l k x):=by
 have hp:=pow_le32 hm
 intro k
 induction k with
 | zero=>
  intro x hk hx
  by_cases c : (VX l x).f0 = true
  · have:=tres_full hL hx c
    unfold resN
    rw [if_pos c]
    exact this
  · unfold resN
    rw [if_neg c]
    have hc:=child_at hm (x:=x) (by omega)
    rw [hk,if_pos rfl] at hc
    refine tres_open hx (.succ (f:=fun _=>some []) (fun q=>?_) (.const fun _=>rfl))
    have e : ¬ (rd_T29 l (x : Int)).f0 = true:=c
    rw [tree_Resolution.j0,if_neg (by decide),if_pos (by omega),if_pos (by omega),if_neg e,(leaves_at h hp.1 (by omega)).2,Option.bind_some,hc,Option.bind_some,if_neg (by decide)]
 | succ k ih=>
  intro x hk hx
  by_cases c : (VX l x).f0 = true
  · have:=tres_full hL hx c
    unfold resN
    rw [if_pos c]
    exact this
  · have hlv:=lv_at hm (x:=x) (by omega)
    rw [hk] at hlv
    obtain ⟨h1,h2,h3,h4⟩:=hlv.2 (by omega)
    rw [show k + 1 - 1 = k by omega] at h1 h2 h3 h4
    have r1:=ih (x - 2 ^ k) h1 (Nat.lt_of_le_of_lt (Nat.sub_le _ _) hx)
    have r2:=ih (x + 2 ^ k) h2 (by rw [h];exact h3)
    have hc:=child_at hm (x:=x) (by omega)
    rw [hk,if_neg (by omega),show k + 1 - 1 = k by omega] at hc
    have l1:=resN_len hL k (x - 2 ^ k)
    have l2:=resN_len hL k (x + 2 ^ k)
    have hpk : 2 ^ k≤32:=by
     have : k≤5:=by have:=hlv.1;omega
     exact (pow_le32 this).2
    have e : ¬ (rd_T29 l (x : Int)).f0 = true:=c
    have er : resN l (k + 1) x = resN l k (x - 2 ^ k) ++ resN l k (x + 2 ^ k):=by
     conv=>lhs;unfold resN
     rw [if_neg c]
    rw [er]
    refine tres_open hx (.succ (f:=fun q=>(tree_Resolution.f q l ((x - 2 ^ k : Nat) : Int)).bind fun a=>(tree_Resolution.f q l ((x + 2 ^ k : Nat) : Int)).bind fun b=>if a.length + b.length < 17592186044416 then some (a ++ b) else none) (fun q=>?_) (r1.bind (r2.bind (.const fun _=>?_))))
    · rw [tree_Resolution.j0,if_neg (by decide),if_pos (by omega),if_pos (by omega),if_neg e,(leaves_at h hp.1 (by omega)).2,Option.bind_some,hc,Option.bind_some,if_pos rfl]
    · rw [if_pos (by omega)]
theorem rres_late0 {l : List S29} {x : Nat} (hx : x < l.length) (late : List Int) (e5 : (rd_T29 l (x : Int)).f5 = late) (hll : late.length≤100) (hsm : ∀ y ∈ late,0≤y∧y≤100) (s : List Int) {r : List Int} : ∀ (d j : Nat) (acc : List Int),d + j = late.length→acc.length + d≤100000→Evr (fun k=>r4Resolution.l0 k l (acc ++ (late.drop j).map (fun y=>2 * y)) s) r→Evr (fun k=>r4Resolution.l1 k l acc s (x : Int) (j : Int)) r:=by
 intro d
 induction d with
 | zero=>
  intro j acc hd _ hr
  rw [List.drop_eq_nil_of_le (by omega),List.map_nil,List.append_nil] at hr
  refine .succ (fun k=>?_) hr
  rw [r4Resolution.l1,if_pos (by omega),if_pos (by omega),e5,if_neg (by omega)]
 | succ d ih=>
  intro j acc hd ha hr
  have hj : j < late.length:=by omega
  have hy:=hsm _ (List.getElem_mem hj)
  have e : rd late (j : Int) = late[j]:=by simp [rd,List.getD_eq_getElem?_getD,List.getElem?_eq_getElem hj]
  rw [List.drop_eq_getElem_cons hj,List.map_cons,show acc ++ 2 * late[j] :: (late.drop (j + 1)).map (fun y=>2 * y) = acc ++ [2 * late[j]] ++ (late.drop (j + 1)).map (fun y=>2 * y) by simp] at hr
  refine .succ (fun k=>?_) (ih (j + 1) (acc ++ [2 * late[j]]) (by omega) (by simp;omega) hr)
  rw [r4Resolution.l1,if_pos (by omega),if_pos (by omega),e5,if_pos (by omega),if_pos (by omega),if_pos (by omega),e,wrap_id (a:=2 * late[j]) (by omega),wrap_id (by omega),show (j : Int) + 1 = ((j + 1 : Nat) : Int) by omega]
theorem rres_late {l : List S29} {x : Nat} (hx : x < l.length) (hL : LateSm l) (s : List Int) {r : List Int} : ∀ (d j : Nat) (acc : List Int),d + j = (VX l x).f5.length→acc.length + d≤100000→Evr (fun k=>r4Resolution.l0 k l (acc ++ ((VX l x).f5.drop j).map (fun y=>2 * y)) s) r→Evr (fun k=>r4Resolution.l1 k l acc s (x : Int) (j : Int)) r:=
 rres_late0 hx (VX l x).f5 rfl (hL.len x) (hL.sm x) s
theorem pop_two (l : List S29) (acc s : List Int) (w x q : Nat) (h1 : 1≤w) (h2 : w≤32) (h3 : w≤x) (h4 : x < 63) (hs : s.length≤1000) : (if ((w : Nat) : Int) > 0 then (if s.length < 17592186044416 then ((some (s ++ [wrap64 ((x : Int) + (w : Int))] : List Int)).bind fun y=>if y.length < 17592186044416 then r4Resolution.l0 q l acc (y ++ [wrap64 ((x : Int) - (w : Int))]) else none) else none) else r4Resolution.l0 q l acc s) = r4Resolution.l0 q l acc (s ++ [((x + w : Nat) : Int)] ++ [((x - w : Nat) : Int)]):=by
 have e1 : wrap64 ((x : Int) + (w : Int)) = ((x + w : Nat) : Int):=by rw [wrap_id (by omega)];omega
 have e2 : wrap64 ((x : Int) - (w : Int)) = ((x - w : Nat) : Int):=by rw [wrap_id (by omega)];omega
 rw [if_pos (by omega),if_pos (by omega),Option.bind_some,if_pos (by simp;omega),e1,e2]
theorem rres_pop {l : List S29} {m : Nat} (hm : m≤5) (h : l.length = 2 * 2 ^ m - 1) (hL : LateSm l) : ∀ (k x : Nat),lvN x = k→x < l.length→∀ (acc s : List Int) (r : List Int),acc.length + 101 * 2 ^ k≤90000→s.length + k≤1000→Evr (fun q=>r4Resolution.l0 q l (acc ++ resN l k x) s) r→Evr (fun q=>r4Resolution.l0 q l acc (s ++ [(x : Int)])) r:=by
 have hp:=pow_le32 hm
 have hop : ∀ (x : Nat),x < l.length→∀ (acc s : List Int),s.length≤1000→∀ q,r4Resolution.l0 (q + 1) l acc (s ++ [(x : Int)]) = if (VX l x).f0 = true then (if acc.length < 17592186044416 then r4Resolution.l1 q l (acc ++ [(x : Int)]) s (x : Int) 0 else none) else ((r3Width.f q (x : Int)).bind fun t=>if (wrap64 (Int.tdiv (wrap64 (t + 1)) 2)) > 0 then (if s.length < 17592186044416 then ((some (s ++ [wrap64 ((x : Int) + (wrap64 (Int.tdiv (wrap64 (t + 1)) 2)))] : List Int)).bind fun y=>if y.length < 17592186044416 then r4Resolution.l0 q l acc (y ++ [wrap64 ((x : Int) - (wrap64 (Int.tdiv (wrap64 (t + 1)) 2)))]) else none) else none) else r4Resolution.l0 q l acc s):=by
  intro x hx acc s hs q
  have hlen : (s ++ [(x : Int)]).length = s.length + 1:=by simp
  have ew : wrap64 (((s ++ [(x : Int)]).length : Int) - 1) = (s.length : Int):=by rw [hlen,wrap_id (by omega)];omega
  have erd : rd (s ++ [(x : Int)]) (s.length : Int) = (x : Int):=by simp [rd,List.getD_eq_getElem?_getD]
  have etk : (s ++ [(x : Int)]).take ((s.length : Int)).toNat = s:=by simp
  rw [r4Resolution.l0,ew,erd,etk,if_pos (by omega),if_pos (by omega),if_pos (by omega),if_pos (by omega),Option.bind_some,if_pos (by omega),if_pos (by omega)]
 intro k
 induction k with
 | zero=>
  intro x hk hx acc s r ha hs hr
  refine .succ (hop x hx acc s (by omega)) ?_
  by_cases c : (VX l x).f0 = true
  · unfold resN at hr
    rw [if_pos c,show acc ++ (x : Int) :: (VX l x).f5.map (fun y=>2 * y) = acc ++ [(x : Int)] ++ ((VX l x).f5.drop 0).map (fun y=>2 * y) by simp] at hr
    have:=rres_late hx hL s (VX l x).f5.length 0 (acc ++ [(x : Int)]) (by omega) (by have:=hL.len x;simp;omega) hr
    refine .congr (fun q=>?_) this
    rw [if_pos c,if_pos (by omega)]
    rfl
  · unfold resN at hr
    rw [if_neg c,List.append_nil] at hr
    have hw:=width_at (x:=x) (by omega)
    rw [hk] at hw
    refine .congr (f:=fun q=>(r3Width.f q (x : Int)).bind fun t=>if (wrap64 (Int.tdiv (wrap64 (t + 1)) 2)) > 0 then (if s.length < 17592186044416 then ((some (s ++ [wrap64 ((x : Int) + (wrap64 (Int.tdiv (wrap64 (t + 1)) 2)))] : List Int)).bind fun y=>if y.length < 17592186044416 then r4Resolution.l0 q l acc (y ++ [wrap64 ((x : Int) - (wrap64 (Int.tdiv (wrap64 (t + 1)) 2)))]) else none) else none) else r4Resolution.l0 q l acc s) (fun q=>by rw [if_neg c]) (hw.bind ?_)
    refine .congr (fun q=>?_) hr
    have ew0 : wrap64 (Int.tdiv (wrap64 (((2 ^ 0 - 1 : Nat) : Int) + 1)) 2) = 0:=by decide +kernel
    rw [ew0,if_neg (by decide)]
 | succ k ih=>
  intro x hk hx acc s r ha hs hr
  have hpk1 : 2 ^ (k + 1) = 2 * 2 ^ k:=by rw [Nat.pow_succ];omega
  have hpk : 1≤2 ^ k:=Nat.one_le_two_pow
  refine .succ (hop x hx acc s (by omega)) ?_
  by_cases c : (VX l x).f0 = true
  · unfold resN at hr
    rw [if_pos c,show acc ++ (x : Int) :: (VX l x).f5.map (fun y=>2 * y) = acc ++ [(x : Int)] ++ ((VX l x).f5.drop 0).map (fun y=>2 * y) by simp] at hr
    have:=rres_late hx hL s (VX l x).f5.length 0 (acc ++ [(x : Int)]) (by omega) (by have:=hL.len x;simp;omega) hr
    refine .congr (fun q=>?_) this
    rw [if_pos c,if_pos (by omega)]
    rfl
  · have hlv:=lv_at hm (x:=x) (by omega)
    rw [hk] at hlv
    obtain ⟨h1,h2,h3,h4⟩:=hlv.2 (by omega)
    rw [show k + 1 - 1 = k by omega] at h1 h2 h3 h4
    have l1:=resN_len hL k (x - 2 ^ k)
    have er : resN l (k + 1) x = resN l k (x - 2 ^ k) ++ resN l k (x + 2 ^ k):=by
     conv=>lhs;unfold resN
     rw [if_neg c]
    rw [er,← List.append_assoc] at hr
    have q2:=ih (x + 2 ^ k) h2 (by omega) (acc ++ resN l k (x - 2 ^ k)) s r (by simp;omega) (by omega) hr
    have q1:=ih (x - 2 ^ k) h1 (by omega) acc (s ++ [((x + 2 ^ k : Nat) : Int)]) r (by omega) (by simp;omega) q2
    have hw:=width_at (x:=x) (by omega)
    rw [hk] at hw
    have hpk32 : 2 ^ k≤32:=by
     have : k≤5:=by have:=hlv.1;omega
     exact (pow_le32 this).2
    have ew : wrap64 (Int.tdiv (wrap64 (((2 ^ (k + 1) - 1 : Nat) : Int) + 1)) 2) = ((2 ^ k : Nat) : Int):=by
     rw [wrap_id (a:=((2 ^ (k + 1) - 1 : Nat) : Int) + 1) (by omega),Int.tdiv_eq_ediv_of_nonneg (by omega),wrap_id (by omega)]
     omega
    refine .congr (f:=fun q=>(r3Width.f q (x : Int)).bind fun t=>if (wrap64 (Int.tdiv (wrap64 (t + 1)) 2)) > 0 then (if s.length < 17592186044416 then ((some (s ++ [wrap64 ((x : Int) + (wrap64 (Int.tdiv (wrap64 (t + 1)) 2)))] : List Int)).bind fun y=>if y.length < 17592186044416 then r4Resolution.l0 q l acc (y ++ [wrap64 ((x : Int) - (wrap64 (Int.tdiv (wrap64 (t + 1)) 2)))]) else none) else none) else r4Resolution.l0 q l acc s) (fun q=>by rw [if_neg c]) (hw.bind ?_)
    refine .congr (fun q=>?_) q1
    have x63 : x < 63:=by omega
    rw [ew]
    exact pop_two l acc s (2 ^ k) x q hpk hpk32 h4 x63 (by omega)
theorem rres_ev {l : List S29} {m : Nat} (hm : m≤5) (h : l.length = 2 * 2 ^ m - 1) (hL : LateSm l) {x : Nat} (hx : x < l.length) : Evr (fun q=>r4Resolution.f q l (x : Int)) (resN l (lvN x) x):=by
 have hp:=pow_le32 hm
 have hlv:=(lv_at hm (x:=x) (by omega)).1
 have hk : 2 ^ lvN x≤32:=(pow_le32 (by omega)).2
 have he : Evr (fun q=>r4Resolution.l0 q l ([] ++ resN l (lvN x) x) []) (resN l (lvN x) x):=.succ (f:=fun _=>some (resN l (lvN x) x)) (fun q=>by rw [r4Resolution.l0,if_neg (by simp),List.nil_append]) (.const fun _=>rfl)
 have h2:=rres_pop hm h hL (lvN x) x rfl hx [] [] _ (by simp;omega) (by simp;omega) he
 refine .congr (f:=fun q=>r4Resolution.j0 q l (x : Int) [] false) (fun q=>by unfold r4Resolution.f;rw [if_neg (by omega),decide_eq_false (by omega)]) (.succ (fun q=>?_) h2)
 rw [r4Resolution.j0,if_neg (by decide)]
 rfl
end Go.Proofs.YtbblomnhobodkaaDoor.Pure
