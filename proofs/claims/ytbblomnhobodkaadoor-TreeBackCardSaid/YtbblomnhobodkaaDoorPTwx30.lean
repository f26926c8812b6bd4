/- What this claim reaches of longer texts of this session. -/
import Derived.Test.YtbblomnhobodkaaDoorPTwx0
import Derived.Test.YtbblomnhobodkaaDoorPTwx1
import Derived.Test.YtbblomnhobodkaaDoorPTwx4
import Derived.Test.YtbblomnhobodkaaDoorPTwx7
import Derived.Test.YtbblomnhobodkaaDoorPTwx22
import Derived.Shelf.Spec.TrailingZeros
import Derived.Lib.ItoaNum
import Derived.Lib.LaidTab
import Derived.Laws.Bits64
import Derived.Lib.Hide
import Derived.RangeFuncBox
import Derived.Maps.AppendAt
import Derived.Lib.SliceRun
import Derived.Shelf.Spec.SlicesInsert
import Derived.Shelf.Spec.SlicesInsertGrow
import Derived.Deep.DeepCutAuto
namespace Go.Proofs.YtbblomnhobodkaaDoor.PTw
open Go.RowKit Go.Proofs.YtbblomnhobodkaaDoorW.PW Go.Proofs.YtbblomnhobodkaaDoorW.PL Go.Proofs.YtbblomnhobodkaaDoorW.PM
attribute [local go_sem] max2_int min2_int max_two min_two max_three min_three max_four min_four   -- for this text's walks alone
set_option linter.unusedVariables false
set_option linter.unusedSimpArgs false
def tree_clean.l0 : Nat→List Int→Int→Int→List (S29)→Option ((List (S29)))
 | 0,_,_,_,_=>none
 | k + 1,x16,x17,x18,x29=>if x18 < x17 then (if 0≤x18 then (if x18 < (x16.length : Int) then (if 0≤(rd x16 x18) then (if (rd x16 x18) < (x29.length : Int) then (tree_clean.l0 k x16 x17 (wrap64 (x18 + 1)) (x29.set ((rd x16 x18) : Int).toNat (⟨false,0,0,0,0,([] : List Int)⟩ : S29))) else (none)) else (none)) else (none)) else (none)) else (some x29)
def tree_clean.f (k : Nat) (l0 : List (S29)) (a1 : Int) : Option ((List (S29))):=(tree_Leaves.f l0).bind fun t598=>((heap_Path.f (wrap64 (2 * a1)) t598).bind fun bt599=>(tree_clean.l0 k bt599.1 (bt599.1.length : Int) 0 l0))
theorem tree_clean.mono_l : ∀ k,(∀ y0 y1 y2 y3,LeO (tree_clean.l0 k y0 y1 y2 y3) (tree_clean.l0 (k + 1) y0 y1 y2 y3))
 | 0=>fun _ _ _ _ r h=>by simp [tree_clean.l0] at h
 | k + 1=>by
  have ih0:=tree_clean.mono_l k
  · intro y0 y1 y2 y3
    unfold tree_clean.l0
    repeat' first
    | (with_reducible exact ih0 _ _ _ _)
    | (with_reducible exact LeO.refl _)
    | (with_reducible exact LeO.none _)
    | (with_reducible refine LeO.ite ?_ ?_)
    | (with_reducible refine LeO.bind ?_ (fun _=>?_))
    | exact ih0 _ _ _ _
    | exact LeO.none _
    | refine LeO.ite ?_ ?_
    | refine LeO.bind ?_ (fun _=>?_)
theorem tree_clean.mono : ∀ a0 a1 k,LeO (tree_clean.f k a0 a1) (tree_clean.f (k + 1) a0 a1):=by
 intro a0 a1 k
 have ih0:=tree_clean.mono_l k
 unfold tree_clean.f
 repeat' first
  | (with_reducible exact ih0 _ _ _ _)
  | (with_reducible exact LeO.refl _)
  | (with_reducible exact LeO.none _)
  | (with_reducible refine LeO.ite ?_ ?_)
  | (with_reducible refine LeO.bind ?_ (fun _=>?_))
  | exact ih0 _ _ _ _
  | exact LeO.none _
  | refine LeO.ite ?_ ?_
  | refine LeO.bind ?_ (fun _=>?_)
set_option maxHeartbeats 8000000 in
set_option maxRecDepth 100000 in
theorem tree_clean.calls (k : Nat) (A0 : Option Addr) (c0 : Nat) (l0 : List (S29)) (a1 : Int) (r : List (S29)) (ok : Nat→Prop) (w0 w : World) (hrG : TabG w) (hs : Kd.S k29 29 w w0.heap.size ok (.slice A0 l0.length c0) l0) (hB : Below w0.heap.size w0 w) (h : tree_clean.f k l0 a1 = some r) :
 Calls Tryd.prog 61 #[.slice A0 l0.length c0,.int .i64 a1] w fun e w'=>e = .returned (.tuple #[])∧Kd.S k29 29 w' w0.heap.size ok (.slice A0 l0.length c0) r∧Below w0.heap.size w0 w'∧Kept w w' ok:=by
 have huV:=Tryd.underlying29
 have HT:=Az.mk hrG
 have HO597:=Az.mk hs
 have HB:=Az.mk hB
 have HKE:=Az.mk (Kept.refl w ok)
 have H:=h
 clear h hs hB hrG
 unfold tree_clean.f at H
 obtain ⟨t598,A40,H⟩:=Option.bind_eq_some_iff.mp H
 have A4:=Az.mk A40
 clear A40
 obtain ⟨⟨t599,t600⟩,A50,H⟩:=Option.bind_eq_some_iff.mp H
 replace H : (tree_clean.l0 k t599 (t599.length : Int) 0 l0) = some r:=H
 have A5:=Az.mk A50
 clear A50
 have H':=Az.mk H
 clear H
 go_enter Tryd.func61,Tryd.ntmps61
 go_wp2_with (first | ((with_reducible refine gate_callee (f:=29) rfl ?_);refine goesL_ (some 12) rfl rfl Tryd.func29 (by kernel_rfl) rfl #[.slice A0 l0.length c0] rfl (by (try simp only [List.map_toArray,List.map_cons,List.map_nil]);first | done | rfl) ?_;(with_reducible refine (tree_Leaves.calls _ _ l0 t598 _ ?side1 ?side2 A4.out).mono ?_);(case side1=>repeat (first | exact (Kd.S_reads' HO597.out).2.2 | (with_reducible refine Kd.C_alloc ?_ _) | (with_reducible refine Kd.C_drewN ?_ _) | (with_reducible refine Kd.C_drew ?_)));(case side2=>exact (Kd.S_reads' HO597.out).2.1);rintro e w' ⟨rfl,⟨nd,rfl⟩⟩;refine ⟨_,rfl,?_⟩) | ((with_reducible refine gate_callee (f:=52) rfl ?_);refine goesL_ (some 13) rfl rfl Tryd.func52 (by kernel_rfl) rfl #[.int .i64 (wrap64 (2 * a1)),.int .i64 t598] rfl (by (try simp only [List.map_toArray,List.map_cons,List.map_nil]);first | done | rfl) ?_;(with_reducible refine (heap_Path.calls (hrG:=?sideG) (wrap64 (2 * a1)) t598 t599 t600 _ A5.out).mono ?_);(case sideG=>first | exact HT.out | exact HT.out.drewN _ | exact (HT.out.drewN _).drewN _);rintro e w7 ⟨v601,rfl,ho0,hb⟩;refine ⟨_,rfl,?_⟩;have n0_:=Az.mk (Kd.S_elder' (by (with_reducible repeat (first | apply Kd.S_alloc | apply Kd.S_drewN | apply Kd.S_drew));exact HO597.out) (Kd.R_base ho0) hb);have n1_:=Az.mk (show Kd.R (Kd.int .i64) 3 w7 w.heap.size (fun _=>True) v601 t599 from ho0);have n2_:=Az.mk (bwT (by repeat (first | (with_reducible first | exact HB.out | apply bwA | apply bwN | apply bw1) | exact HB.out)) hb);have n3_:=Az.mk (show Kept w w7 ok from (Kept.drewN HKE.out _).below hb);clear HO597;clear HB;clear HKE;have HO597:=n0_;have HO602:=n1_;have HB:=n2_;have HKE:=n3_;clear n0_ n1_ n2_ n3_;(try clear hb);(try clear ho0);obtain ⟨Ao8,co8,eo8⟩:=Kd.R_slice HO602.out;subst eo8))
 go_loopg [18] k (fun kq v18 w'=>∃ (x18_1 : Int) (x29_1 : List (S29)),v18 = .int .i64 x18_1∧Az (tree_clean.l0 kq t599 (t599.length : Int) x18_1 x29_1 = some r)∧Az (kq≤k)∧Az (Kd.R (Kd.int .i64) 3 w' w.heap.size (fun _=>True) (.slice Ao8 t599.length co8) t599)∧Az (Kd.S k29 29 w' w0.heap.size (fun k_=>ok k_∧some k_≠((.slice Ao8 t599.length co8) : Value).ownBlock) (.slice A0 l0.length c0) x29_1)∧Az (Below w0.heap.size w0 w')∧Az (Kept w w' ok))
 case atStart=>exact ⟨(0),(l0),(by first | rfl | (simp;done) | (simp [*];done)),H',⟨Nat.le_refl _⟩,⟨by (with_reducible repeat (first | apply Kd.R_alloc | apply Kd.R_drewN | apply Kd.R_drew));exact HO602.out⟩,⟨by (with_reducible repeat (first | apply Kd.S_alloc | apply Kd.S_drewN | apply Kd.S_drew));exact HO597.out⟩,⟨by repeat (first | (with_reducible first | exact HB.out | apply bwA | apply bwN | apply bw1) | exact HB.out)⟩,⟨HKE.out⟩⟩
 case round=>
  clear H'
  try clear c2
  try clear p2
  try clear c5
  try clear c6
  try clear p6
  obtain ⟨x18_1,x29_1,rfl,HA,HK1,HO_16,HO_29,HB,HKE⟩:=hrel
  have hl29:=Az.mk (Kd.S_reads' HO_29.out).1
  cases gk with
  | zero=>exact absurd HA.out (by simp [tree_clean.l0])
  | succ k1=>
   have H:=HA.out
   clear HA
   simp only [tree_clean.l0] at H
   by_cases c9 : x18_1 < (t599.length : Int)
   · rw [if_pos c9] at H
     have c9b0 : decide (x18_1 < (t599.length : Int)) = true:=decide_eq_true c9
     clear c9
     by_cases c10 : 0≤x18_1
     · rw [if_pos c10] at H
       have c10b0 : decide (0≤x18_1) = true:=decide_eq_true c10
       clear c10
       by_cases c11 : x18_1 < (t599.length : Int)
       · rw [if_pos c11] at H
         have c11b0 : decide (x18_1 < (t599.length : Int)) = true:=decide_eq_true c11
         clear c11
         by_cases c12 : 0≤(rd t599 x18_1)
         · rw [if_pos c12] at H
           have c12b0 : decide (0≤(rd t599 x18_1)) = true:=decide_eq_true c12
           clear c12
           by_cases c13 : (rd t599 x18_1) < (x29_1.length : Int)
           · rw [if_pos c13] at H
             have c13b0 : decide ((rd t599 x18_1) < (x29_1.length : Int)) = true:=decide_eq_true c13
             have c13b1 : decide ((rd t599 x18_1) < (l0.length : Int)) = true:=decide_eq_true (by have:=hl29.out;omega)
             clear c13
             obtain ⟨y604,hy604⟩ : ∃ y_ : List (S29),y_ = (x29_1.set ((rd t599 x18_1) : Int).toNat (⟨false,0,0,0,0,([] : List Int)⟩ : S29)):=⟨_,rfl⟩
             replace H : (tree_clean.l0 k1 t599 (t599.length : Int) (wrap64 (x18_1 + 1)) y604) = some r:=by first | (rw [hy604];with_reducible exact H) | (have H2_:=(Option.bind_some _ _).symm.trans H;rw [hy604];with_reducible exact H2_) | (have H2_:=(Option.bind_some _ _).symm.trans H;with_reducible exact H2_) | with_reducible exact H | (rw [hy604];exact H) | exact H
             have Ny604:=Az.mk hy604
             clear hy604
             have H':=Az.mk H
             clear H
             have p603 : 0≤(x18_1 : Int):=of_decide_eq_true (by first | (with_reducible assumption) | assumption)
             have q603 : x18_1 < (t599.length : Int):=of_decide_eq_true (by first | (with_reducible assumption) | assumption)
             obtain ⟨ad603,e603,hx603_0⟩:=Kd.at_int (Kd.R_reads' HO_16.out).2.2 x18_1 p603 q603
             cases e603
             replace p603:=eq_true p603
             replace q603:=eq_true q603
             have p14 : 0≤((rd t599 x18_1) : Int):=of_decide_eq_true (by first | (with_reducible assumption) | assumption)
             have q14 : ((rd t599 x18_1) : Int) < ((l0.length : Int) : Int):=of_decide_eq_true (by first | (with_reducible assumption) | assumption)
             obtain ⟨go14,co14,eo14,gb14,gl14,cl14,HG14⟩:=Kd.S_form HO_29.out (by have:=hl29.out;omega)
             (first | cases eo14 | (injection eo14 with ea_ en_ ec_;(first | subst ea_ | (injection ea_ with ea_;subst ea_));subst ec_;clear en_))
             have GB14:=Az.mk gb14
             have GG14:=Az.mk HG14
             clear gb14 gl14 HG14
             obtain ⟨_,ce14,hcl14,hM14,hcc14,hfr14,_,_⟩:=Kd.S_elem HO_29.out z29 ((rd t599 x18_1) : Int) p14 q14
             obtain ⟨ve14_5,rfl,ge14_5⟩:=k29_openM hM14
             have hx14_0 : wr.cell? ⟨go14,((rd t599 x18_1) : Int).toNat * 6,none⟩ = some (.bool ((rd_T29 x29_1 (rd t599 x18_1)).f0)):=hcc14 0 _ rfl
             have hx14_1 : wr.cell? ⟨go14,((rd t599 x18_1) : Int).toNat * 6 + 1,none⟩ = some (.int .i64 ((rd_T29 x29_1 (rd t599 x18_1)).f1)):=hcc14 1 _ rfl
             have hx14_2 : wr.cell? ⟨go14,((rd t599 x18_1) : Int).toNat * 6 + 2,none⟩ = some (.int .i64 ((rd_T29 x29_1 (rd t599 x18_1)).f2)):=hcc14 2 _ rfl
             have hx14_3 : wr.cell? ⟨go14,((rd t599 x18_1) : Int).toNat * 6 + 3,none⟩ = some (.int .i64 ((rd_T29 x29_1 (rd t599 x18_1)).f3)):=hcc14 3 _ rfl
             have hx14_4 : wr.cell? ⟨go14,((rd t599 x18_1) : Int).toNat * 6 + 4,none⟩ = some (.int .i64 ((rd_T29 x29_1 (rd t599 x18_1)).f4)):=hcc14 4 _ rfl
             have hx14_5 : wr.cell? ⟨go14,((rd t599 x18_1) : Int).toNat * 6 + 5,none⟩ = some (ve14_5):=hcc14 5 _ rfl
             have hf14_0 : wr.frozen? ⟨go14,((rd t599 x18_1) : Int).toNat * 6,none⟩ = false:=hfr14 0
             have hf14_1 : wr.frozen? ⟨go14,((rd t599 x18_1) : Int).toNat * 6 + 1,none⟩ = false:=hfr14 1
             have hf14_2 : wr.frozen? ⟨go14,((rd t599 x18_1) : Int).toNat * 6 + 2,none⟩ = false:=hfr14 2
             have hf14_3 : wr.frozen? ⟨go14,((rd t599 x18_1) : Int).toNat * 6 + 3,none⟩ = false:=hfr14 3
             have hf14_4 : wr.frozen? ⟨go14,((rd t599 x18_1) : Int).toNat * 6 + 4,none⟩ = false:=hfr14 4
             have hf14_5 : wr.frozen? ⟨go14,((rd t599 x18_1) : Int).toNat * 6 + 5,none⟩ = false:=hfr14 5
             clear hcl14 hcc14 hfr14 hM14
             replace p14:=eq_true p14
             replace q14:=eq_true q14
             have HX15:=Az.mk (show Kd.S k29 29 wr w0.heap.size (fun k_=>((fun k_=>ok k_∧some k_≠(.slice (some ad603) t599.length co8 : Value).ownBlock)) k_∧¬ ((fun _=>False)) k_) (.slice (some ⟨go14,0,none⟩) l0.length c0) x29_1 from (by (with_reducible repeat (first | apply Kd.S_alloc | apply Kd.S_drewN | apply Kd.S_drew));exact Kd.S_mono HO_29.out (fun k_ hk=>⟨hk,fun e_=>e_⟩)))
             obtain ⟨oki15,ce15,hcl15,hM15,hcc15,hfr15,hoki15,hH15⟩:=Kd.S_elem HX15.out z29 ((rd t599 x18_1) : Int) (of_decide_eq_true (by first | (with_reducible assumption) | assumption)) (by have h_ : ((rd t599 x18_1) : Int) < ((l0.length : Int) : Int):=of_decide_eq_true (by first | (with_reducible assumption) | assumption);first | exact h_ | (have e_:=(Kd.S_reads' HO_29.out).1;omega) | simpa using h_)
             obtain ⟨ve15_5,rfl,ge15_5⟩:=k29_openM hM15
             have HP15:=Kd.S_seg hH15 (of_decide_eq_true (by first | (with_reducible assumption) | assumption)) (by have h_ : ((rd t599 x18_1) : Int) < ((l0.length : Int) : Int):=of_decide_eq_true (by first | (with_reducible assumption) | assumption);first | exact h_ | (have e_:=(Kd.S_reads' HO_29.out).1;omega) | simpa using h_) (seg:=[.bool false,.int .i64 0,.int .i64 0,.int .i64 0,.int .i64 0,.slice none 0 0]) (j:=0) (show 6≤6 from by decide) (x':=(⟨false,0,0,0,0,([] : List Int)⟩ : S29)) (k29_mkM _ _ _ (⟨false,0,0,0,0,([] : List Int)⟩ : S29) (Kd.R_nil _ _ _ _ _)) (fun _ hk=>hk) (fun k_ hk_=>hk_.elim)
             have hx15_0:=hcc15 0 _ rfl
             (try simp only [show (k29).sz = 6 from rfl,Nat.mul_one,Nat.add_zero] at hx15_0)
             have hf15_0:=hfr15 0
             (try simp only [show (k29).sz = 6 from rfl,Nat.mul_one,Nat.add_zero] at hf15_0)
             have hx15_1:=hcc15 1 _ rfl
             (try simp only [show (k29).sz = 6 from rfl,Nat.mul_one,Nat.add_zero] at hx15_1)
             have hf15_1:=hfr15 1
             (try simp only [show (k29).sz = 6 from rfl,Nat.mul_one,Nat.add_zero] at hf15_1)
             have hx15_2:=hcc15 2 _ rfl
             (try simp only [show (k29).sz = 6 from rfl,Nat.mul_one,Nat.add_zero] at hx15_2)
             have hf15_2:=hfr15 2
             (try simp only [show (k29).sz = 6 from rfl,Nat.mul_one,Nat.add_zero] at hf15_2)
             have hx15_3:=hcc15 3 _ rfl
             (try simp only [show (k29).sz = 6 from rfl,Nat.mul_one,Nat.add_zero] at hx15_3)
             have hf15_3:=hfr15 3
             (try simp only [show (k29).sz = 6 from rfl,Nat.mul_one,Nat.add_zero] at hf15_3)
             have hx15_4:=hcc15 4 _ rfl
             (try simp only [show (k29).sz = 6 from rfl,Nat.mul_one,Nat.add_zero] at hx15_4)
             have hf15_4:=hfr15 4
             (try simp only [show (k29).sz = 6 from rfl,Nat.mul_one,Nat.add_zero] at hf15_4)
             have hx15_5:=hcc15 5 _ rfl
             (try simp only [show (k29).sz = 6 from rfl,Nat.mul_one,Nat.add_zero] at hx15_5)
             have hf15_5:=hfr15 5
             (try simp only [show (k29).sz = 6 from rfl,Nat.mul_one,Nat.add_zero] at hf15_5)
             clear hcl15 hcc15 hfr15 hM15 hoki15 hH15
             go_wp2_with (first | ((with_reducible refine gate_store (t:=29) (p:=25) rfl ?_);refine store_event (t:=29) (p:=25) (v:=?vo_w16) (w1:=((((((wr.setCell ⟨go14,((rd t599 x18_1) : Int).toNat * 6,none⟩ (.bool false)).setCell ⟨go14,((rd t599 x18_1) : Int).toNat * 6 + 1,none⟩ (.int .i64 0)).setCell ⟨go14,((rd t599 x18_1) : Int).toNat * 6 + 2,none⟩ (.int .i64 0)).setCell ⟨go14,((rd t599 x18_1) : Int).toNat * 6 + 3,none⟩ (.int .i64 0)).setCell ⟨go14,((rd t599 x18_1) : Int).toNat * 6 + 4,none⟩ (.int .i64 0)).setCell ⟨go14,((rd t599 x18_1) : Int).toNat * 6 + 5,none⟩ (.slice none 0 0))) ?hg ?ho ?hn ?hr ?_;(case ho=>rfl);(case hg=>rfl);(case hn=>rfl);(case hr=>first | (go_simp;done) | (go_simp;rfl));intro w16 hw;have hg : wr.grownBy w16 (some go14):=(by rw [hw];exact HP15.2);have hp_ : Kd.S k29 29 w16 w0.heap.size (fun k_=>ok k_∧some k_≠(.slice (some ad603) t599.length co8 : Value).ownBlock) (.slice (some ⟨go14,0,none⟩) l0.length c0) y604:=(by rw [hw,Ny604.out];exact HP15.1);clear HP15;have n0_:=Az.mk (Kd.R_over' (v:=(.slice (some ⟨go14,0,none⟩) l0.length c0)) (by (with_reducible repeat (first | apply Kd.R_alloc | apply Kd.R_drewN | apply Kd.R_drew));exact HO_16.out) (Kd.S_typed HO_29.out) (by decide) hg);have n1_:=Az.mk (hp_);have n2_:=Az.mk ((by rw [hw];exact bwS (bwS (bwS (bwS (bwS (bwS (HB.out) GB14.out) GB14.out) GB14.out) GB14.out) GB14.out) GB14.out : Below w0.heap.size w0 w16));have n3_:=Az.mk (Kept.of_grown hg HKE.out (fun k_ e_=>by cases e_;exact .inl ((Kd.S_R HO_29.out).1 _ rfl).1));clear HO_16;clear HO_29;clear HB;clear HKE;have HO_16:=n0_;have HO_29:=n1_;have HB:=n2_;have HKE:=n3_;clear n0_ n1_ n2_ n3_;clear hg hw hp_))
             go_roundg k1
             case measure=>have:=HK1.out;omega
             case rel=>exact ⟨(wrap64 (x18_1 + 1)),(y604),(by first | rfl | (simp;done) | (simp [*];done)),H',⟨by have:=HK1.out;omega⟩,⟨by (with_reducible repeat (first | apply Kd.R_alloc | apply Kd.R_drewN | apply Kd.R_drew));exact HO_16.out⟩,⟨by (with_reducible repeat (first | apply Kd.S_alloc | apply Kd.S_drewN | apply Kd.S_drew));exact HO_29.out⟩,⟨by repeat (first | (with_reducible first | exact HB.out | apply bwA | apply bwN | apply bw1) | exact HB.out)⟩,⟨HKE.out⟩⟩
           · rw [if_neg c13] at H
             exact absurd H (by simp)
         · rw [if_neg c12] at H
           exact absurd H (by simp)
       · rw [if_neg c11] at H
         exact absurd H (by simp)
     · rw [if_neg c10] at H
       exact absurd H (by simp)
   · rw [if_neg c9] at H
     have c9b0 : decide (x18_1 < (t599.length : Int)) = false:=decide_eq_false c9
     clear c9
     obtain rfl:=Option.some.inj H
     go_wp2
     go_end0
     exact ⟨rfl,Kd.S_mono HO_29.out (fun _ hk=>hk.1),HB.out,HKE.out⟩
def tree_Merge.l0 : Nat→List Int→List Int→List Int→List (S29)→Int→Option (List (S29) × Int)
 | 0,_,_,_,_,_=>none
 | k + 1,p,ks,hs,x,j=>if j < (p.length : Int) then (if 0≤j then (if j < (ks.length : Int) then (if j < (hs.length : Int) then (if 0≤rd p j then (if rd p j < (x.length : Int) then tree_Merge.l0 k p ks hs (x.set (rd p j).toNat (⟨true,rd ks j,0,0,rd hs j,([] : List Int)⟩ : S29)) (wrap64 (j + 1)) else none) else none) else none) else none) else none) else some (x,0)
def tree_Merge.f (k : Nat) (l0 : List (S29)) (a1 : Int) (a2_0 : Bool) (a2_1 : Int) (a2_2 : Int) (a2_3 : Int) (a2_4 : Int) (l2_5 : List Int) (l3 : List Int) (l4 : List Int) : Option ((List (S29)) × Int):=(tree_full.f l0 a1).bind fun t=>if t = true then ((tree_Filtered.f k l0 a1).bind fun p=>if l3.length = p.1.length∧l4.length = p.1.length then ((tree_copied.f k l0).bind fun t2=>if 0≤(wrap64 (2 * a1)) then (if (wrap64 (2 * a1)) < (t2.length : Int) then ((tree_clean.f k (t2.set ((wrap64 (2 * a1)) : Int).toNat (⟨true,a2_1,a2_2,a2_3,a2_4,([] : List Int)⟩ : S29)) a1).bind fun t3=>tree_Merge.l0 k p.1 l3 l4 t3 0) else none) else none) else some (([] : List (S29)),30)) else some (([] : List (S29)),40)
theorem tree_Merge.mono_l : ∀ k y0 y1 y2 y3 y4,LeO (tree_Merge.l0 k y0 y1 y2 y3 y4) (tree_Merge.l0 (k + 1) y0 y1 y2 y3 y4)
 | 0=>fun _ _ _ _ _ r h=>by simp [tree_Merge.l0] at h
 | k + 1=>by
  intro y0 y1 y2 y3 y4
  unfold tree_Merge.l0
  exact LeO.ite (LeO.ite (LeO.ite (LeO.ite (LeO.ite (LeO.ite (tree_Merge.mono_l k _ _ _ _ _) (LeO.none _)) (LeO.none _)) (LeO.none _)) (LeO.none _)) (LeO.none _)) (LeO.refl _)
theorem tree_Merge.mono : ∀ a0 a1 a2 a3 a4 a5 a6 a7 a8 a9 k,LeO (tree_Merge.f k a0 a1 a2 a3 a4 a5 a6 a7 a8 a9) (tree_Merge.f (k + 1) a0 a1 a2 a3 a4 a5 a6 a7 a8 a9):=by
 intro a0 a1 a2 a3 a4 a5 a6 a7 a8 a9 k
 unfold tree_Merge.f
 refine LeO.bind (LeO.refl _) (fun _=>LeO.ite (LeO.bind (tree_Filtered.mono _ _ _) (fun _=>LeO.ite (LeO.bind (tree_copied.mono _ _) (fun _=>LeO.ite (LeO.ite (LeO.bind (tree_clean.mono _ _ _) (fun _=>tree_Merge.mono_l _ _ _ _ _ _)) (LeO.none _)) (LeO.none _))) (LeO.refl _))) (LeO.refl _))
set_option maxHeartbeats 8000000 in
set_option maxRecDepth 100000 in
theorem tree_Merge.calls (k : Nat) (A0 : Option Addr) (c0 : Nat) (l0 : List (S29)) (a1 : Int) (a2_0 : Bool) (a2_1 : Int) (a2_2 : Int) (a2_3 : Int) (a2_4 : Int) (P2_5_ : Nat→Prop) (A2_5 : Option Addr) (c2_5 : Nat) (l2_5 : List Int) (A3 : Option Addr) (c3 : Nat) (l3 : List Int) (A4 : Option Addr) (c4 : Nat) (l4 : List Int) (r1 : List (S29)) (r2 : Int) (w : World) (hrG : TabG w) (hr0 : Kd.C k29 w A0 l0.length l0) (hc0 : l0.length≤c0) (hs2_5 : Kd.V (Kd.int .i64) 3 w w.heap.size (fun k_=>P2_5_ k_) (.slice A2_5 l2_5.length c2_5) l2_5) (hr3 : Kd.C (Kd.int .i64) w A3 l3.length l3) (hc3 : l3.length≤c3) (hr4 : Kd.C (Kd.int .i64) w A4 l4.length l4) (hc4 : l4.length≤c4) (h : tree_Merge.f k l0 a1 a2_0 a2_1 a2_2 a2_3 a2_4 l2_5 l3 l4 = some (r1,r2)) :
 Calls Tryd.prog 31 #[.slice A0 l0.length c0,.int .i64 a1,.agg #[.bool a2_0,.int .i64 a2_1,.int .i64 a2_2,.int .i64 a2_3,.int .i64 a2_4,.slice A2_5 l2_5.length c2_5],.slice A3 l3.length c3,.slice A4 l4.length c4] w fun e w'=>∃ v0_ : Value,e = .returned (.tuple #[v0_,.int .i64 r2])∧Kd.S k29 29 w' w.heap.size (fun k_=>(w.heap.size≤k_)) v0_ r1∧Below w.heap.size w w':=by
 have huV:=Tryd.underlying29
 have HT:=Az.mk hrG
 clear hrG
 have HC:=Az.mk hr0
 have HL:=Az.mk hc0
 obtain ⟨_,hl5,hc5⟩:=V_now hs2_5
 have HC5:=Az.mk hc5
 have HL5:=Az.mk hl5
 have HK3:=Az.mk hr3
 have HK4:=Az.mk hr4
 have hn3:=hr3.2.1
 have hn4:=hr4.2.1
 have HN34:=Az.mk (And.intro hn3 hn4)
 clear hr0 hc0 hs2_5 hc5 hl5 hr3 hr4 hn3 hn4
 unfold tree_Merge.f at h
 obtain ⟨t,A40,H⟩:=Option.bind_eq_some_iff.mp h
 have A4_:=Az.mk A40
 clear A40 h
 have HB0:=Az.mk (bwA (Below.refl w.heap.size w) (.cells #[.bool a2_0,.int .i64 a2_1,.int .i64 a2_2,.int .i64 a2_3,.int .i64 a2_4,.slice A2_5 l2_5.length c2_5] 29))
 cases t
 · rw [if_neg (by decide)] at H
   simp only [Option.some.injEq,Prod.mk.injEq] at H
   obtain ⟨rfl,rfl⟩:=H
   go_enter Tryd.func31,Tryd.ntmps31
   go_wp2_with (go_at_call 60;(with_reducible refine (tree_full.calls _ _ l0 a1 false _ (Kd.C_alloc HC.out _) HL.out A4_.out).mono ?_);rintro e w1 ⟨rfl,⟨nd,rfl⟩⟩)
   go_ret2
   exact ⟨_,rfl,Kd.S_nil _ _ _ _ _,bwN HB0.out _⟩
 · rw [if_pos rfl] at H
   obtain ⟨⟨p,q⟩,A50,H⟩:=Option.bind_eq_some_iff.mp H
   have A5_:=Az.mk A50
   clear A50
   dsimp only at H
   go_enter Tryd.func31,Tryd.ntmps31
   go_upto_region 4 with (first
    | (go_at_call 60;(with_reducible refine (tree_full.calls _ _ l0 a1 true _ (Kd.C_alloc HC.out _) HL.out A4_.out).mono ?_);rintro e w1 ⟨rfl,⟨nd,rfl⟩⟩)
    | (go_at_call 23;(with_reducible refine (tree_Filtered.calls _ _ _ l0 a1 p q _ (TabG.below HT.out (bwN HB0.out nd)) (Kd.C_drewN (Kd.C_alloc HC.out _) nd) HL.out A5_.out).mono ?_);rintro e w2 ⟨vp,vq,rfl,hRp,hRq,hb⟩;have HB2:=Az.mk (bwT (bwN HB0.out nd) hb);have HX2:=Az.mk hb;have HRp:=Az.mk (Kd.R_lower hRp (by exact (bwZ (bwN HB0.out nd))));clear hRp hRq hb))
   obtain ⟨Ap,cp,rfl⟩:=Kd.R_slice HRp.out
   have hpl : p.length≤9223372036854775807:=(Kd.R_reads' HRp.out).2.2.2.1
   by_cases hlen : l3.length = p.length∧l4.length = p.length
   case neg=>
    rw [if_neg hlen] at H
    simp only [Option.some.injEq,Prod.mk.injEq] at H
    obtain ⟨rfl,rfl⟩:=H
    by_cases he3 : l3.length = p.length
    · have hb3 : ((l3.length : Int) != (p.length : Int)) = false:=by simp;omega
      have hb4 : ((l4.length : Int) != (p.length : Int)) = true:=by
       have : l4.length≠p.length:=fun e=>hlen ⟨he3,e⟩
       simp;omega
      clear he3 hlen hpl
      go_wp2
      go_ret2
      exact ⟨_,rfl,Kd.S_nil _ _ _ _ _,HB2.out⟩
    · have hb3 : ((l3.length : Int) != (p.length : Int)) = true:=by simp;omega
      clear he3 hlen hpl
      go_wp2
      go_ret2
      exact ⟨_,rfl,Kd.S_nil _ _ _ _ _,HB2.out⟩
   rw [if_pos hlen] at H
   obtain ⟨he3,he4⟩:=hlen
   have HE:=Az.mk (And.intro he3 (And.intro he4 hpl))
   have hb3 : ((l3.length : Int) != (p.length : Int)) = false:=by simp;omega
   have hb4 : ((l4.length : Int) != (p.length : Int)) = false:=by simp;omega
   clear he3 he4 hpl
   obtain ⟨t2,A60,H⟩:=Option.bind_eq_some_iff.mp H
   have A6_:=Az.mk A60
   clear A60
   have ex : ∃ ji,wrap64 (2 * a1) = ji:=⟨_,rfl⟩
   obtain ⟨ji,hji⟩:=ex
   rw [hji] at H
   have hjiw : (IntKind.i64.wrap (2 * a1)) = ji:=(i64_w _).trans hji
   by_cases h0 : 0≤ji
   case neg=>rw [if_neg h0] at H;cases H
   rw [if_pos h0] at H
   by_cases h1 : ji < (t2.length : Int)
   case neg=>rw [if_neg h1] at H;cases H
   rw [if_pos h1] at H
   have HH:=Az.mk H
   clear H
   go_upto_region 7 with (go_at_call 50;(with_reducible refine (tree_copied.calls _ _ _ l0 t2 _ (Kd.C_below (Kd.C_drewN (Kd.C_alloc HC.out _) nd) HX2.out) HL.out A6_.out).mono ?_);rintro e w3 ⟨v3,rfl,hS,hb⟩;have HBX:=Az.mk hb;have HS3:=Az.mk (Kd.S_mono (Kd.S_bound hS) (fun k_ hk=>hk.2.1) : Kd.S k29 29 w3 w2.heap.size (fun k_=>w2.heap.size≤k_) v3 t2);clear hS hb)
   obtain ⟨g,c3_,rfl,gb,gl,_,_⟩:=Kd.S_form HS3.out (by omega)
   have hblk : w3.heap[w.heap.size]? = some (.cells #[.bool a2_0,.int .i64 a2_1,.int .i64 a2_2,.int .i64 a2_3,.int .i64 a2_4,.slice A2_5 l2_5.length c2_5] 29 (0,0)):=(HBX.out.block _ (Nat.lt_of_lt_of_le (by simp) HX2.out.size)).trans ((HX2.out.block _ (by simp)).trans heap_alloc_at)
   have lx0:=cell_of hblk 0
   have lx1:=cell_of hblk 1
   have lx2:=cell_of hblk 2
   have lx3:=cell_of hblk 3
   have lx4:=cell_of hblk 4
   have lx5:=cell_of hblk 5
   simp only [List.getElem?_toArray,List.getElem?_cons_zero,List.getElem?_cons_succ] at lx0 lx1 lx2 lx3 lx4 lx5
   have HC53:=Az.mk (Kd.C_below (Kd.C_below (Kd.C_drewN (Kd.C_alloc HC5.out (.cells #[.bool a2_0,.int .i64 a2_1,.int .i64 a2_2,.int .i64 a2_3,.int .i64 a2_4,.slice A2_5 l2_5.length c2_5] 29)) nd) HX2.out) HBX.out)
   have GB:=Az.mk gb
   have p0:=eq_true h0
   have p1:=eq_true h1
   have H0:=Az.mk h0
   have H1:=Az.mk h1
   clear gb gl hji h0 h1 hblk
   go_upto_region 8 with (first
    | (go_at_call 51;(with_reducible refine (tree_leafOf.nil a2_0 a2_1 a2_2 a2_3 a2_4 A2_5 c2_5 l2_5 _ HC53.out HL5.out).mono ?_);rintro e w4 ⟨rfl,hb4⟩;have HS4:=Az.mk (Kd.S_below HS3.out hb4);have HB4:=Az.mk (bwT HBX.out hb4);clear hb4 lx0 lx1 lx2 lx3 lx4 lx5;obtain ⟨oki,ce,hcl,hM,hcc,hfr,hoki,hH⟩:=Kd.S_elem HS4.out z29 ji H0.out H1.out;obtain ⟨ve5,rfl,ge5⟩:=k29_openM hM;have HP:=Az.mk (Kd.S_seg0 hH H0.out H1.out (seg:=[.bool true,.int .i64 a2_1,.int .i64 a2_2,.int .i64 a2_3,.int .i64 a2_4,.slice none 0 0]) (j:=0) (show 6≤6 from by decide) (x':=(⟨true,a2_1,a2_2,a2_3,a2_4,([] : List Int)⟩ : S29)) (k29_mkM _ _ _ (⟨true,a2_1,a2_2,a2_3,a2_4,([] : List Int)⟩ : S29) (Kd.R_nil _ _ _ _ _)) (fun _ hk=>hk));have hx0 : w4.cell? ⟨g,ji.toNat * 6,none⟩ = some (.bool _):=hcc 0 _ rfl;have hx1 : w4.cell? ⟨g,ji.toNat * 6 + 1,none⟩ = some (.int .i64 _):=hcc 1 _ rfl;have hx2 : w4.cell? ⟨g,ji.toNat * 6 + 2,none⟩ = some (.int .i64 _):=hcc 2 _ rfl;have hx3 : w4.cell? ⟨g,ji.toNat * 6 + 3,none⟩ = some (.int .i64 _):=hcc 3 _ rfl;have hx4 : w4.cell? ⟨g,ji.toNat * 6 + 4,none⟩ = some (.int .i64 _):=hcc 4 _ rfl;have hx5 : w4.cell? ⟨g,ji.toNat * 6 + 5,none⟩ = some ve5:=hcc 5 _ rfl;have hf0 : w4.frozen? ⟨g,ji.toNat * 6,none⟩ = false:=hfr 0;have hf1 : w4.frozen? ⟨g,ji.toNat * 6 + 1,none⟩ = false:=hfr 1;have hf2 : w4.frozen? ⟨g,ji.toNat * 6 + 2,none⟩ = false:=hfr 2;have hf3 : w4.frozen? ⟨g,ji.toNat * 6 + 3,none⟩ = false:=hfr 3;have hf4 : w4.frozen? ⟨g,ji.toNat * 6 + 4,none⟩ = false:=hfr 4;have hf5 : w4.frozen? ⟨g,ji.toNat * 6 + 5,none⟩ = false:=hfr 5;clear hcl hM hcc hfr hoki hH ge5)
    | ((with_reducible refine gate_store (t:=29) (p:=46) rfl ?_);refine store_event (t:=29) (p:=46) (v:=?vo) (w1:=((((((w4.setCell ⟨g,ji.toNat * 6,none⟩ (.bool true)).setCell ⟨g,ji.toNat * 6 + 1,none⟩ (.int .i64 a2_1)).setCell ⟨g,ji.toNat * 6 + 2,none⟩ (.int .i64 a2_2)).setCell ⟨g,ji.toNat * 6 + 3,none⟩ (.int .i64 a2_3)).setCell ⟨g,ji.toNat * 6 + 4,none⟩ (.int .i64 a2_4)).setCell ⟨g,ji.toNat * 6 + 5,none⟩ (.slice none 0 0))) ?hg ?ho ?hn ?hr ?_;(case ho=>rfl);(case hg=>rfl);(case hn=>rfl);(case hr=>first | (go_simp;done) | (go_simp;rfl));intro w5 hw;have HS5:=Az.mk (show Kd.S k29 29 w5 w2.heap.size (fun k_=>w2.heap.size≤k_) (.slice (some ⟨g,0,none⟩) t2.length c3_) (t2.set ji.toNat (⟨true,a2_1,a2_2,a2_3,a2_4,([] : List Int)⟩ : S29)) from by rw [hw];exact HP.out.1);have HG5:=Az.mk (show w4.grownBy w5 (some g) from by rw [hw];exact HP.out.2);clear hw))
   obtain ⟨y,hy⟩ : ∃ y,y = (t2.set ji.toNat (⟨true,a2_1,a2_2,a2_3,a2_4,([] : List Int)⟩ : S29)):=⟨_,rfl⟩
   have hyl : y.length = t2.length:=by rw [hy,List.length_set]
   have HB5:=Az.mk (show Below w2.heap.size w2 w5 from pw_below_grown HB4.out (some g) (bwZ HB4.out) HG5.out (fun k_ e_=>by cases e_;exact GB.out))
   obtain ⟨t3,A70,H⟩:=Option.bind_eq_some_iff.mp HH.out
   have HT5:=Az.mk (TabG.below HT.out (bwT HB2.out HB5.out))
   have HS6:=HS5.out
   have A8:=A70
   rw [← hy] at HS6 A8
   have hcl:=tree_clean.calls k (some ⟨g,0,none⟩) c3_ y a1 t3 (fun k_=>w2.heap.size≤k_) w2 w5 HT5.out (by rw [hyl];exact HS6) HB5.out A8
   rw [hyl] at hcl
   have HCL:=Az.mk hcl
   have HH2:=Az.mk H
   clear hcl HS6 A8 hyl hy y HS5 HP HG5 A70 H HH p0 p1 hx0 hx1 hx2 hx3 hx4 hx5 hf0 hf1 hf2 hf3 hf4 hf5
   go_upto_region 9 with (go_at_call 61;(with_reducible refine HCL.out.mono ?_);rintro e w6 ⟨rfl,hS6,hB6,_⟩;have HS6:=Az.mk hS6;have HB6:=Az.mk hB6;clear hS6 hB6)
   have HCp:=Az.mk (Kd.R_reads' HRp.out).2.2
   clear HRp HCL HT5 HB5 HB4 HS4 HS3 HBX HC53 HC5 HL5 H0 H1 GB HC HL HX2
   go_wp2
   go_loopg [52] k (fun kq v w'=>∃ (j : Int) (x : List (S29)),v = .int .i64 j∧Az (kq≤k)∧Az (tree_Merge.l0 kq p l3 l4 x j = some (r1,r2))∧Az (Kd.S k29 29 w' w2.heap.size (fun k_=>w2.heap.size≤k_) (.slice (some ⟨g,0,none⟩) t2.length c3_) x)∧Az (Below w2.heap.size w2 w'))
   case atStart=>exact ⟨0,t3,rfl,⟨Nat.le_refl _⟩,HH2,HS6,HB6⟩
   case round=>
    clear HH2 HS6 HB6
    obtain ⟨j,x,rfl,HK1,HR,HS,HB⟩:=hrel
    cases gk with
    | zero=>exact absurd HR.out (by simp [tree_Merge.l0])
    | succ k1=>
     have H:=HR.out
     simp only [tree_Merge.l0] at H
     have hxl:=(Kd.S_reads' HS.out).1
     have HXL:=Az.mk hxl
     clear HR hxl
     by_cases c1 : j < (p.length : Int)
     case neg=>
      rw [if_neg c1] at H
      have c1b : decide (j < (p.length : Int)) = false:=decide_eq_false c1
      simp only [Option.some.injEq,Prod.mk.injEq] at H
      obtain ⟨rfl,rfl⟩:=H
      clear c1
      go_wp2
      go_ret2
      exact ⟨_,rfl,Kd.S_mono (Kd.S_lower HS.out (bwZ HB2.out)) (fun k_ hk=>Nat.le_trans (bwZ HB2.out) hk),bwT HB2.out HB.out⟩
     rw [if_pos c1] at H
     by_cases c2 : 0≤j
     case neg=>rw [if_neg c2] at H;cases H
     rw [if_pos c2] at H
     by_cases c3 : j < (l3.length : Int)
     case neg=>rw [if_neg c3] at H;cases H
     rw [if_pos c3] at H
     by_cases c4 : j < (l4.length : Int)
     case neg=>rw [if_neg c4] at H;cases H
     rw [if_pos c4] at H
     by_cases c5 : 0≤rd p j
     case neg=>rw [if_neg c5] at H;cases H
     rw [if_pos c5] at H
     by_cases c6 : rd p j < (x.length : Int)
     case neg=>rw [if_neg c6] at H;cases H
     rw [if_pos c6] at H
     have H':=Az.mk H
     have c1b : decide (j < (p.length : Int)) = true:=decide_eq_true c1
     obtain ⟨adp,ep,hcp⟩:=Kd.at_int (Kd.C_below HCp.out HB.out) j c2 c1
     cases ep
     obtain ⟨ad3,e3,hc3_⟩:=Kd.at_int (Kd.C_below HK3.out (bwT HB2.out HB.out)) j c2 c3
     cases e3
     obtain ⟨ad4,e4,hc4_⟩:=Kd.at_int (Kd.C_below HK4.out (bwT HB2.out HB.out)) j c2 c4
     cases e4
     obtain ⟨oki,ce,hcl,hM,hcc,hfr,hoki,hH⟩:=Kd.S_elem HS.out z29 (rd p j) c5 (by have:=HXL.out;omega)
     obtain ⟨ve5,rfl,ge5⟩:=k29_openM hM
     have HP:=Az.mk (Kd.S_seg0 hH c5 (by have:=HXL.out;omega) (seg:=[.bool true,.int .i64 (rd l3 j),.int .i64 0,.int .i64 0,.int .i64 (rd l4 j),.slice none 0 0]) (j:=0) (show 6≤6 from by decide) (x':=(⟨true,rd l3 j,0,0,rd l4 j,([] : List Int)⟩ : S29)) (k29_mkM _ _ _ (⟨true,rd l3 j,0,0,rd l4 j,([] : List Int)⟩ : S29) (Kd.R_nil _ _ _ _ _)) (fun _ hk=>hk))
     have gbb : w2.heap.size≤g:=Kd.S_base HS.out g rfl
     have hx0 : wr.cell? ⟨g,(rd p j).toNat * 6,none⟩ = some (.bool _):=hcc 0 _ rfl
     have hx1 : wr.cell? ⟨g,(rd p j).toNat * 6 + 1,none⟩ = some (.int .i64 _):=hcc 1 _ rfl
     have hx2 : wr.cell? ⟨g,(rd p j).toNat * 6 + 2,none⟩ = some (.int .i64 _):=hcc 2 _ rfl
     have hx3 : wr.cell? ⟨g,(rd p j).toNat * 6 + 3,none⟩ = some (.int .i64 _):=hcc 3 _ rfl
     have hx4 : wr.cell? ⟨g,(rd p j).toNat * 6 + 4,none⟩ = some (.int .i64 _):=hcc 4 _ rfl
     have hx5 : wr.cell? ⟨g,(rd p j).toNat * 6 + 5,none⟩ = some ve5:=hcc 5 _ rfl
     have hf0 : wr.frozen? ⟨g,(rd p j).toNat * 6,none⟩ = false:=hfr 0
     have hf1 : wr.frozen? ⟨g,(rd p j).toNat * 6 + 1,none⟩ = false:=hfr 1
     have hf2 : wr.frozen? ⟨g,(rd p j).toNat * 6 + 2,none⟩ = false:=hfr 2
     have hf3 : wr.frozen? ⟨g,(rd p j).toNat * 6 + 3,none⟩ = false:=hfr 3
     have hf4 : wr.frozen? ⟨g,(rd p j).toNat * 6 + 4,none⟩ = false:=hfr 4
     have hf5 : wr.frozen? ⟨g,(rd p j).toNat * 6 + 5,none⟩ = false:=hfr 5
     have p1:=eq_true c1
     have p2:=eq_true c2
     have p3:=eq_true c3
     have p4:=eq_true c4
     have p5:=eq_true c5
     have p6:=eq_true (show rd p j < (t2.length : Int) by have:=HXL.out;omega)
     clear hcl hM hcc hfr hoki hH ge5 H c1 c2 c3 c4 c5 c6
     generalize hq : rd p j = q at *
     have HGB:=Az.mk gbb
     clear HK3 HK4 HXL HE HN34 gbb
     go_wp2
     refine Mix.wp_region_mix (fun _=>True) (fun i=>[0,0,0,0,12,28,0,0,192,448,1020,2047,4095].getD i 0) (fun i=>[2,2,2,2,2,2,2,2,2,2,2,2,3].getD i 0) (by kernel_rfl) ⟨by kernel_rfl,by kernel_rfl,by kernel_rfl,by kernel_rfl,by kernel_rfl⟩ trivial ?_;simp only [Mix.whole,List.getD_cons_zero,List.getD_cons_succ,Nat.reduceAdd]
     repeat (first | (refine Mix.pin_no rfl rfl (fun K hK=>?_);go_step;refine hK _ ?_;clear hK K) | (refine Mix.pin_not rfl rfl rfl rfl (fun K hK=>?_);simp only [List.setIfInBounds_toArray,List.set_cons_zero,List.set_cons_succ];refine hK _ ?_;clear hK K) | (refine Mix.pin_yes rfl rfl rfl rfl (fun K hK=>?_);go_step;refine hK _ ?_;clear hK K))
     refine Mix.last_no rfl (fun K hK=>?_)
     go_step
     obtain ⟨wn,hwn⟩ : ∃ wn,wn = ((((((wr.setCell ⟨g,q.toNat * 6,none⟩ (.bool true)).setCell ⟨g,q.toNat * 6 + 1,none⟩ (.int .i64 (rd l3 j))).setCell ⟨g,q.toNat * 6 + 2,none⟩ (.int .i64 0)).setCell ⟨g,q.toNat * 6 + 3,none⟩ (.int .i64 0)).setCell ⟨g,q.toNat * 6 + 4,none⟩ (.int .i64 (rd l4 j))).setCell ⟨g,q.toNat * 6 + 5,none⟩ (.slice none 0 0)):=⟨_,rfl⟩
     have HSn:=Az.mk (show Kd.S k29 29 wn w2.heap.size (fun k_=>w2.heap.size≤k_) (.slice (some ⟨g,0,none⟩) t2.length c3_) (x.set q.toNat (⟨true,rd l3 j,0,0,rd l4 j,([] : List Int)⟩ : S29)) from by rw [hwn];exact HP.out.1)
     have HGn:=Az.mk (show wr.grownBy wn (some g) from by rw [hwn];exact HP.out.2)
     rw [← hwn]
     have HBn:=Az.mk (pw_below_grown HB.out (some g) (bwZ HB.out) HGn.out (fun k_ e_=>by cases e_;exact HGB.out))
     clear hwn HP hx0 hx1 hx2 hx3 hx4 hx5 hf0 hf1 hf2 hf3 hf4 hf5 hcp hc3_ hc4_ p1 p2 p3 p4 p5 p6 c1b HGn HS HB
     refine hK _ _ ?_
     clear hK K
     refine Mix.walk_nil ?_
     go_wp2
     go_roundg k1
     case measure=>have:=HK1.out;omega
     case rel=>exact ⟨wrap64 (j + 1),_,rfl,⟨by have:=HK1.out;omega⟩,H',⟨Kd.S_drew HSn.out⟩,⟨below_drew HBn.out⟩⟩
end Go.Proofs.YtbblomnhobodkaaDoor.PTw
namespace Go.Proofs.YtbblomnhobodkaaDoor.PTw
open Go.RowKit Go.Proofs.YtbblomnhobodkaaDoorW.PW Go.Proofs.YtbblomnhobodkaaDoorW.PL Go.Proofs.YtbblomnhobodkaaDoorW.PM
attribute [local go_sem] max2_int min2_int max_two min_two max_three min_three max_four min_four   -- for this text's walks alone
set_option linter.unusedVariables false
set_option linter.unusedSimpArgs false
def tree_Remove.l0 : Nat→List (S29)→Option ((List (S29)) × Int)
 | 0,_=>none
 | k + 1,x=>(tree_tight.f k x).bind fun b=>if b = true then some (x,0) else tree_Remove.l0 k (x.take (x.length / 2))
def tree_Remove.f (k : Nat) (l0 : List (S29)) (a1 : Int) : Option ((List (S29)) × Int):=(tree_full.f l0 a1).bind fun t=>if t = true then ((tree_Members.f k l0).bind fun ms=>if ms.length = 1 then some (([] : List (S29)),40) else ((tree_copied.f k l0).bind fun t2=>if 0≤(wrap64 (2 * a1)) then (if (wrap64 (2 * a1)) < (t2.length : Int) then ((tree_clean.f k (t2.set ((wrap64 (2 * a1)) : Int).toNat (⟨false,0,0,0,0,([] : List Int)⟩ : S29)) a1).bind fun t3=>tree_Remove.l0 k t3) else none) else none)) else some (([] : List (S29)),40)
theorem tree_Remove.mono_l : ∀ k,(∀ y0,LeO (tree_Remove.l0 k y0) (tree_Remove.l0 (k + 1) y0))
 | 0=>fun _ r h=>by simp [tree_Remove.l0] at h
 | k + 1=>by
  have ih0:=tree_Remove.mono_l k
  intro y0
  unfold tree_Remove.l0
  refine LeO.bind (tree_tight.mono _ _) (fun _=>?_)
  exact LeO.ite (LeO.refl _) (ih0 _)
theorem tree_Remove.mono : ∀ a0 a1 k,LeO (tree_Remove.f k a0 a1) (tree_Remove.f (k + 1) a0 a1):=by
 intro a0 a1 k
 have ih0:=tree_Remove.mono_l k
 unfold tree_Remove.f
 refine LeO.bind (LeO.refl _) (fun _=>LeO.ite (LeO.bind (tree_Members.mono _ _) (fun _=>LeO.ite (LeO.refl _) (LeO.bind (tree_copied.mono _ _) (fun _=>LeO.ite (LeO.ite (LeO.bind (tree_clean.mono _ _ _) (fun _=>ih0 _)) (LeO.none _)) (LeO.none _))))) (LeO.refl _))
set_option maxHeartbeats 8000000 in
set_option maxRecDepth 100000 in
theorem tree_Remove.calls (k : Nat) (P0_ : Nat→Prop) (A0 : Option Addr) (c0 : Nat) (l0 : List (S29)) (a1 : Int) (r1 : List (S29)) (r2 : Int) (w : World) (hrG : TabG w) (hs0 : Kd.V k29 29 w w.heap.size (fun k_=>P0_ k_) (.slice A0 l0.length c0) l0) (h : tree_Remove.f k l0 a1 = some (r1,r2)) :
 Calls Tryd.prog 32 #[.slice A0 l0.length c0,.int .i64 a1] w fun e w'=>∃ v0_ : Value,e = .returned (.tuple #[v0_,.int .i64 r2])∧Kd.V k29 29 w' w.heap.size (fun k_=>(P0_ k_∨w.heap.size≤k_)) v0_ r1∧Below w.heap.size w w':=by
 have huV:=Tryd.underlying29
 have HT:=Az.mk hrG
 obtain ⟨_,hlc,hC⟩:=V_now hs0
 have HC:=Az.mk hC
 have HL:=Az.mk hlc
 clear hrG hs0 hC hlc
 unfold tree_Remove.f at h
 obtain ⟨t,A40,H⟩:=Option.bind_eq_some_iff.mp h
 have A4:=Az.mk A40
 clear A40 h
 cases t
 · rw [if_neg (by decide)] at H
   simp only [Option.some.injEq,Prod.mk.injEq] at H
   obtain ⟨rfl,rfl⟩:=H
   go_enter Tryd.func32,Tryd.ntmps32
   go_wp2_with (go_at_call 60;(with_reducible refine (tree_full.calls _ _ l0 a1 false _ HC.out HL.out A4.out).mono ?_);rintro e w1 ⟨rfl,⟨nd,rfl⟩⟩)
   go_ret2
   exact ⟨_,rfl,Kd.V_nil _ _ _ _ _,bwN (Below.refl _ _) _⟩
 · rw [if_pos rfl] at H
   obtain ⟨ms,A50,H⟩:=Option.bind_eq_some_iff.mp H
   have A5:=Az.mk A50
   clear A50
   go_enter Tryd.func32,Tryd.ntmps32
   by_cases hm : ms.length = 1
   · rw [if_pos hm] at H
     simp only [Option.some.injEq,Prod.mk.injEq] at H
     obtain ⟨rfl,rfl⟩:=H
     go_wp2_with (first
      | (go_at_call 60;(with_reducible refine (tree_full.calls _ _ l0 a1 true _ HC.out HL.out A4.out).mono ?_);rintro e w1 ⟨rfl,⟨nd,rfl⟩⟩)
      | (go_at_call 24;(with_reducible refine (tree_Members.calls _ _ _ l0 ms _ (Kd.C_drewN HC.out nd) HL.out A5.out).mono ?_);rintro e w2 ⟨v2,rfl,hR,hb⟩;obtain ⟨A2,c2,rfl⟩:=Kd.R_slice hR;rw [hm];have HB2:=Az.mk (bwT (bwN (Below.refl w.heap.size w) nd) hb);clear hR hb))
     go_ret2
     exact ⟨_,rfl,Kd.V_nil _ _ _ _ _,HB2.out⟩
   · rw [if_neg hm] at H
     have hmb : ((ms.length : Int) == 1) = false:=by simp;omega
     obtain ⟨t2,A60,H⟩:=Option.bind_eq_some_iff.mp H
     have A6:=Az.mk A60
     clear A60
     have ex : ∃ ji,wrap64 (2 * a1) = ji:=⟨_,rfl⟩
     obtain ⟨ji,hji⟩:=ex
     rw [hji] at H
     have hjiw : (IntKind.i64.wrap (2 * a1)) = ji:=(i64_w _).trans hji
     by_cases h0 : 0≤ji
     case neg=>rw [if_neg h0] at H;cases H
     rw [if_pos h0] at H
     by_cases h1 : ji < (t2.length : Int)
     case neg=>rw [if_neg h1] at H;cases H
     rw [if_pos h1] at H
     obtain ⟨t3,A70,H⟩:=Option.bind_eq_some_iff.mp H
     have A7:=Az.mk A70
     have HH:=Az.mk H
     clear A70 H hm
     go_upto_region 4 with (first
      | (go_at_call 60;(with_reducible refine (tree_full.calls _ _ l0 a1 true _ HC.out HL.out A4.out).mono ?_);rintro e w1 ⟨rfl,⟨nd,rfl⟩⟩)
      | (go_at_call 24;(with_reducible refine (tree_Members.calls _ _ _ l0 ms _ (Kd.C_drewN HC.out nd) HL.out A5.out).mono ?_);rintro e w2 ⟨v2,rfl,hR,hb⟩;obtain ⟨A2,c2,rfl⟩:=Kd.R_slice hR;have HB2:=Az.mk (bwT (bwN (Below.refl w.heap.size w) nd) hb);have HC2:=Az.mk (Kd.C_below (Kd.C_drewN HC.out nd) hb);clear hR hb)
      | (go_at_call 50;(with_reducible refine (tree_copied.calls _ _ _ l0 t2 _ HC2.out HL.out A6.out).mono ?_);rintro e w3 ⟨v3,rfl,hS,hb⟩;have HB3:=Az.mk (bwT HB2.out hb);have HS3:=Az.mk (Kd.S_lower hS (by exact (bwZ HB2.out)));clear hS hb))
     obtain ⟨g,c3,rfl,gb,gl,_,_⟩:=Kd.S_form HS3.out (by omega)
     obtain ⟨oki,ce,hcl,hM,hcc,hfr,hoki,hH⟩:=Kd.S_elem HS3.out z29 ji h0 h1
     obtain ⟨ve5,rfl,ge5⟩:=k29_openM hM
     have HP:=Az.mk (Kd.S_seg0 hH h0 h1 (seg:=[.bool false,.int .i64 0,.int .i64 0,.int .i64 0,.int .i64 0,.slice none 0 0]) (j:=0) (show 6≤6 from by decide) (x':=(⟨false,0,0,0,0,([] : List Int)⟩ : S29)) (k29_mkM _ _ _ (⟨false,0,0,0,0,([] : List Int)⟩ : S29) (Kd.R_nil _ _ _ _ _)) (fun _ hk=>hk))
     have hx0 : w3.cell? ⟨g,ji.toNat * 6,none⟩ = some (.bool _):=hcc 0 _ rfl
     have hx1 : w3.cell? ⟨g,ji.toNat * 6 + 1,none⟩ = some (.int .i64 _):=hcc 1 _ rfl
     have hx2 : w3.cell? ⟨g,ji.toNat * 6 + 2,none⟩ = some (.int .i64 _):=hcc 2 _ rfl
     have hx3 : w3.cell? ⟨g,ji.toNat * 6 + 3,none⟩ = some (.int .i64 _):=hcc 3 _ rfl
     have hx4 : w3.cell? ⟨g,ji.toNat * 6 + 4,none⟩ = some (.int .i64 _):=hcc 4 _ rfl
     have hx5 : w3.cell? ⟨g,ji.toNat * 6 + 5,none⟩ = some ve5:=hcc 5 _ rfl
     have hf0 : w3.frozen? ⟨g,ji.toNat * 6,none⟩ = false:=hfr 0
     have hf1 : w3.frozen? ⟨g,ji.toNat * 6 + 1,none⟩ = false:=hfr 1
     have hf2 : w3.frozen? ⟨g,ji.toNat * 6 + 2,none⟩ = false:=hfr 2
     have hf3 : w3.frozen? ⟨g,ji.toNat * 6 + 3,none⟩ = false:=hfr 3
     have hf4 : w3.frozen? ⟨g,ji.toNat * 6 + 4,none⟩ = false:=hfr 4
     have hf5 : w3.frozen? ⟨g,ji.toNat * 6 + 5,none⟩ = false:=hfr 5
     have GB:=Az.mk gb
     have p0:=eq_true h0
     have p1:=eq_true h1
     clear hcl hM hcc hfr hoki hH ge5 gb gl HS3 hji h0 h1
     go_upto_region 5 with ((with_reducible refine gate_store (t:=29) (p:=23) rfl ?_);refine store_event (t:=29) (p:=23) (v:=?vo) (w1:=((((((w3.setCell ⟨g,ji.toNat * 6,none⟩ (.bool false)).setCell ⟨g,ji.toNat * 6 + 1,none⟩ (.int .i64 0)).setCell ⟨g,ji.toNat * 6 + 2,none⟩ (.int .i64 0)).setCell ⟨g,ji.toNat * 6 + 3,none⟩ (.int .i64 0)).setCell ⟨g,ji.toNat * 6 + 4,none⟩ (.int .i64 0)).setCell ⟨g,ji.toNat * 6 + 5,none⟩ (.slice none 0 0))) ?hg ?ho ?hn ?hr ?_;(case ho=>rfl);(case hg=>rfl);(case hn=>rfl);(case hr=>first | (go_simp;done) | (go_simp;rfl));intro w4 hw;have HS4:=Az.mk (show Kd.S k29 29 w4 w.heap.size (fun _=>True) (.slice (some ⟨g,0,none⟩) t2.length c3) (t2.set ji.toNat (⟨false,0,0,0,0,([] : List Int)⟩ : S29)) from by rw [hw];exact HP.out.1);have HG4:=Az.mk (show w3.grownBy w4 (some g) from by rw [hw];exact HP.out.2);clear hw)
     obtain ⟨y,hy⟩ : ∃ y,y = (t2.set ji.toNat (⟨false,0,0,0,0,([] : List Int)⟩ : S29)):=⟨_,rfl⟩
     have hyl : y.length = t2.length:=by rw [hy,List.length_set]
     have HB4:=Az.mk (show Below w.heap.size w w4 from pw_below_grown HB3.out (some g) (bwZ HB3.out) HG4.out (fun k_ e_=>by cases e_;exact GB.out))
     have HT4:=Az.mk (TabG.below HT.out HB4.out)
     have HS5:=HS4.out
     have A8:=A7.out
     rw [← hy] at HS5 A8
     have hcl:=tree_clean.calls k (some ⟨g,0,none⟩) c3 y a1 t3 (fun _=>True) w w4 HT4.out (by rw [hyl];exact HS5) HB4.out A8
     rw [hyl] at hcl
     have HCL:=Az.mk hcl
     clear hcl HS5 A8 hyl hy y HS4 HP HG4 A7 p0 p1 hx0 hx1 hx2 hx3 hx4 hx5 hf0 hf1 hf2 hf3 hf4 hf5
     go_wp2_with (go_at_call 61;(with_reducible refine HCL.out.mono ?_);rintro e w5 ⟨rfl,hS5,hB5,_⟩;have HS5:=Az.mk hS5;have HB5:=Az.mk hB5;clear hS5 hB5)
     have h3:=(Kd.S_reads' HS5.out).1
     have HH3:=Az.mk h3
     clear h3
     go_loopg [6] k (fun kq v w'=>∃ (x : List (S29)) (A : Option Addr) (n c : Nat),v = .slice A n c∧Az (n = x.length)∧Az (kq≤k)∧Az (tree_Remove.l0 kq x = some (r1,r2))∧Az (Kd.V k29 29 w' w.heap.size (fun k_=>(P0_ k_∨w.heap.size≤k_)) (.slice A n c) x)∧Az (Below w.heap.size w w'))
     case atStart=>exact ⟨t3,_,_,_,rfl,HH3,⟨Nat.le_refl _⟩,HH,⟨Kd.V_mono (Kd.S_V (Kd.S_bound HS5.out)) (fun k_ hk=>.inr hk.2.1)⟩,HB5⟩
     case round=>
      obtain ⟨x,A,n,c,rfl,HN,HK1,HR,HV,HBr⟩:=hrel
      clear HH HH3 HS5 HB5 HCL HB4 HT4 HB3 HB2 HC2 HC
      obtain ⟨hvl,hvc,hvC⟩:=V_now HV.out
      have hvn:=HN.out
      cases gk with
      | zero=>exact absurd HR.out (by simp [tree_Remove.l0])
      | succ k1=>
       have H:=HR.out
       simp only [tree_Remove.l0] at H
       obtain ⟨b,A90,H⟩:=Option.bind_eq_some_iff.mp H
       have htg:=tree_tight.calls k1 A c x b wr hvC (by rw [← hvn];exact hvc) A90
       rw [← hvn] at htg
       have HTG:=Az.mk htg
       clear htg A90 HR hvC
       cases b
       · rw [if_neg (by decide)] at H
         have HH:=Az.mk H
         obtain ⟨m,hm⟩ : ∃ m,m = n / 2:=⟨_,rfl⟩
         have hq : wrap64 ((n : Int) / 2) = (m : Int):=by
          have:=HV.out
          obtain ⟨_,_,_,_,hF⟩:=this
          have hmax:=(Kd.F_now hF).2.1
          rw [← hvn] at hmax
          unfold wrap64
          omega
         have hc1 : decide ((m : Int)≤(c : Int)) = true:=by simp;omega
         have hc2 : decide (m≤c) = true:=by simp;omega
         have hc3 : (m≤c) = True:=eq_true (by omega)
         have HCP:=Az.mk (clip_calls A m c (by omega))
         have HV2:=Az.mk (V_cut HV.out m (by omega))
         have HM:=Az.mk hm
         clear hm
         clear H hvl hvc hvn
         go_wp2_with (first
          | (go_at_call 42;(with_reducible refine HTG.out.mono ?_);rintro e w6 ⟨rfl,⟨nd6,rfl⟩⟩)
          | (go_at_call 62;(with_reducible refine (HCP.out _).mono ?_);rintro e w7 ⟨rfl,rfl⟩))
         go_roundg k1
         case measure=>have:=HK1.out;omega
         case rel=>exact ⟨x.take m,A,m,m,rfl,⟨by have:=HN.out;have:=HM.out;rw [List.length_take];omega⟩,⟨by have:=HK1.out;omega⟩,⟨by have:=HH.out;rw [← HN.out,← HM.out] at this;exact this⟩,⟨Kd.V_drewN HV2.out _⟩,⟨bwN HBr.out _⟩⟩
       · rw [if_pos rfl] at H
         simp only [Option.some.injEq,Prod.mk.injEq] at H
         obtain ⟨rfl,rfl⟩:=H
         clear hvl hvc hvn
         go_wp2_with (go_at_call 42;(with_reducible refine HTG.out.mono ?_);rintro e w6 ⟨rfl,⟨nd6,rfl⟩⟩)
         go_ret2
         exact ⟨_,rfl,Kd.V_drewN HV.out _,bwN HBr.out _⟩
end Go.Proofs.YtbblomnhobodkaaDoor.PTw
