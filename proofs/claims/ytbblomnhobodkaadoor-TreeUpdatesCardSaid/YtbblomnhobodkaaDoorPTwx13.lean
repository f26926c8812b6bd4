/- What this claim reaches of longer texts of this session. -/
import Derived.Test.YtbblomnhobodkaaDoorPTwx0
import Derived.Test.YtbblomnhobodkaaDoorPTwx1
import Derived.Test.YtbblomnhobodkaaDoorPTwx8
import Derived.Shelf.Spec.TrailingZeros
import Derived.Lib.ItoaNum
import Derived.Lib.LaidTab
import Derived.Laws.Bits64
import Derived.Lib.Hide
import Derived.RangeFuncBox
import Derived.Maps.AppendAt
import Derived.Lib.SliceRun
import Derived.Shelf.Spec.SlicesInsert
import Derived.Shelf.Spec.SlicesInsertGrow
import Derived.Deep.DeepCutAuto
namespace Go.Proofs.YtbblomnhobodkaaDoor.PTw
open Go.RowKit Go.Proofs.YtbblomnhobodkaaDoorW.PW Go.Proofs.YtbblomnhobodkaaDoorW.PL Go.Proofs.YtbblomnhobodkaaDoorW.PM
attribute [local go_sem] max2_int min2_int max_two min_two max_three min_three max_four min_four   -- for this text's walks alone
set_option linter.unusedVariables false
set_option linter.unusedSimpArgs false
def r4Same.l0 : Nat→List (S29)→List (S29)→Int→Option (Bool)
 | 0,_,_,_=>none
 | k + 1,x0,x1,x5=>if x5 < (x0.length : Int) then (if 0≤x5 then (if x5 < (x1.length : Int) then (if (((rd_T29 x0 x5).f0) != ((rd_T29 x1 x5).f0)) = true then (some false) else (if ((rd_T29 x0 x5).f1) = ((rd_T29 x1 x5).f1) then (if ((rd_T29 x0 x5).f2) = ((rd_T29 x1 x5).f2) then (if ((rd_T29 x0 x5).f3) = ((rd_T29 x1 x5).f3) then (if ((rd_T29 x0 x5).f4) = ((rd_T29 x1 x5).f4) then ((r1Ints.f k ((rd_T29 x0 x5).f5) ((rd_T29 x1 x5).f5)).bind fun t325=>(if t325 = true then (r4Same.l0 k x0 x1 (wrap64 (x5 + 1))) else (some false))) else (some false)) else (some false)) else (some false)) else (some false))) else (none)) else (none)) else (some true)
def r4Same.f (k : Nat) (l0 : List (S29)) (l1 : List (S29)) : Option (Bool):=if (l0.length : Int) = (l1.length : Int) then (r4Same.l0 k l0 l1 0) else (some false)
theorem r4Same.mono_l : ∀ k,(∀ y0 y1 y2,LeO (r4Same.l0 k y0 y1 y2) (r4Same.l0 (k + 1) y0 y1 y2))
 | 0=>fun _ _ _ r h=>by simp [r4Same.l0] at h
 | k + 1=>by
  have ih0:=r4Same.mono_l k
  · intro y0 y1 y2
    unfold r4Same.l0
    repeat' first
    | (with_reducible exact ih0 _ _ _)
    | (with_reducible exact r1Ints.mono _ _ _)
    | (with_reducible exact LeO.refl _)
    | (with_reducible exact LeO.none _)
    | (with_reducible refine LeO.ite ?_ ?_)
    | (with_reducible refine LeO.bind ?_ (fun _=>?_))
    | exact ih0 _ _ _
    | exact r1Ints.mono _ _ _
    | exact LeO.none _
    | refine LeO.ite ?_ ?_
    | refine LeO.bind ?_ (fun _=>?_)
theorem r4Same.mono : ∀ a0 a1 k,LeO (r4Same.f k a0 a1) (r4Same.f (k + 1) a0 a1):=by
 intro a0 a1 k;have ih0:=r4Same.mono_l k;unfold r4Same.f
 repeat' first
  | (with_reducible exact ih0 _ _ _)
  | (with_reducible exact r1Ints.mono _ _ _)
  | (with_reducible exact LeO.refl _)
  | (with_reducible exact LeO.none _)
  | (with_reducible refine LeO.ite ?_ ?_)
  | (with_reducible refine LeO.bind ?_ (fun _=>?_))
  | exact ih0 _ _ _
  | exact r1Ints.mono _ _ _
  | exact LeO.none _
  | refine LeO.ite ?_ ?_
  | refine LeO.bind ?_ (fun _=>?_)
def r4Same.T6 : Bool × List (List Nat × List Nat):=(true,[([],[]),([],[]),([0,1],[0,1]),([2],[2]),([],[]),([],[]),([4,5],[4,5]),([6],[6]),([],[]),([],[]),([8,3,0,1,2,3,8,9],[3,8]),([9,7,10,0,1,2,3,4,5,6,7,8,9,10],[7,9])])
def r4Same.B6 : List Nat:=[0,0,3,7,0,0,48,112,0,0,783,2047]
theorem r4Same.tab6 : rtab .any (opsOf Tryd.f17 6) = r4Same.T6:=by kernel_rfl
theorem r4Same.bits6 : waitsOk r4Same.T6.2 r4Same.B6 = true:=by kernel_rfl
set_option maxHeartbeats 8000000 in
set_option maxRecDepth 100000 in
theorem r4Same.calls (k : Nat) (A0 : Option Addr) (c0 : Nat) (l0 : List (S29)) (A1 : Option Addr) (c1 : Nat) (l1 : List (S29)) (r : Bool) (w : World) (hr0 : Kd.C k29 w A0 l0.length l0) (hc0 : l0.length≤c0) (hr1 : Kd.C k29 w A1 l1.length l1) (hc1 : l1.length≤c1) (h : r4Same.f k l0 l1 = some r) :
 Calls Tryd.prog 17 #[.slice A0 l0.length c0,.slice A1 l1.length c1] w fun e w'=>e = .returned (.bool r)∧Below w.heap.size w w':=by
 have hu29:=Tryd.underlying29;have HR0:=Az.mk hr0;have HC0:=Az.mk hc0;clear hr0 hc0;have HR1:=Az.mk hr1;have HC1:=Az.mk hc1;clear hr1 hc1;have HB:=Az.mk (Below.refl w.heap.size w);have H : (if (l0.length : Int) = (l1.length : Int) then (r4Same.l0 k l0 l1 0) else (some false)) = some r:=h;clear h
 by_cases c3 : (l0.length : Int) = (l1.length : Int)
 · rw [if_pos c3] at H
   have c3b0 : ((l0.length : Int) == (l1.length : Int)) = true:=beq_iff_eq.mpr c3;have c3b1 : ((l0.length : Int) != (l1.length : Int)) = false:=bne_eq_false_iff_eq.mpr c3
   have c3b2 : (l0.length == l1.length) = true:=by first | simpa using c3 | (simp at c3 ⊢;omega)
   clear c3;have H':=Az.mk H;clear H
   go_enter Tryd.func17,Tryd.ntmps17
   go_wp2
   go_loopg [5] k (fun kq v5 w'=>∃ (x5_1 : Int),v5 = .int .i64 x5_1∧Az (r4Same.l0 kq l0 l1 x5_1 = some r)∧Az (kq≤k)∧Az (Below w.heap.size w w'))
   case atStart=>exact ⟨(0),rs_,H',⟨Nat.le_refl _⟩,⟨bmv HB.out⟩⟩
   case round=>
    clear H';(try clear c1);(try clear c3);(try clear c3b0);(try clear c3b1);(try clear c3b2);obtain ⟨x5_1,rfl,HA,HK1,HB⟩:=hrel
    cases gk with
    | zero=>exact absurd HA.out (by simp [r4Same.l0])
    | succ k1=>
     have H:=HA.out;clear HA;simp only [r4Same.l0] at H
     by_cases c4 : x5_1 < (l0.length : Int)
     · rw [if_pos c4] at H
       have c4b0 : decide (x5_1 < (l0.length : Int)) = true:=decide_eq_true c4;clear c4
       by_cases c5 : 0≤x5_1
       · rw [if_pos c5] at H
         have c5b0 : decide (0≤x5_1) = true:=decide_eq_true c5;clear c5
         by_cases c6 : x5_1 < (l1.length : Int)
         · rw [if_pos c6] at H
           have c6b0 : decide (x5_1 < (l1.length : Int)) = true:=decide_eq_true c6;clear c6;have HH:=Az.mk H;clear H
           try go_wp2
           have n0_:=Az.mk (bw1 HB.out);clear HB;have HB:=n0_;clear n0_;have p321 : 0≤(x5_1 : Int):=dt_;have q321 : x5_1 < (l0.length : Int):=dt_;obtain ⟨ad321,A321_5,c321_5,e321,hx321_0,hx321_1,hx321_2,hx321_3,hx321_4,hx321_5,hl321_5,hi321_5⟩:=at_T29 HR0.out x5_1 p321 q321;have hw321_5:=hx321_5;have hw321_4:=hx321_4;have hw321_3:=hx321_3;have hw321_2:=hx321_2;have hw321_1:=hx321_1;have hw321_0:=hx321_0;cases e321;replace hx321_0:=hbc HB.out hx321_0;replace hx321_1:=hbc HB.out hx321_1;replace hx321_2:=hbc HB.out hx321_2;replace hx321_3:=hbc HB.out hx321_3;replace hx321_4:=hbc HB.out hx321_4;replace hx321_5:=hbc HB.out hx321_5;have HR321_5:=Az.mk hi321_5;have HC321_5:=Az.mk hl321_5;clear hi321_5 hl321_5;replace p321:=eq_true p321;replace q321:=eq_true q321;have p322 : 0≤(x5_1 : Int):=dt_;have q322 : x5_1 < (l1.length : Int):=dt_;obtain ⟨ad322,A322_5,c322_5,e322,hx322_0,hx322_1,hx322_2,hx322_3,hx322_4,hx322_5,hl322_5,hi322_5⟩:=at_T29 HR1.out x5_1 p322 q322;have hw322_5:=hx322_5;have hw322_4:=hx322_4;have hw322_3:=hx322_3;have hw322_2:=hx322_2;have hw322_1:=hx322_1;have hw322_0:=hx322_0;cases e322;replace hx322_0:=hbc HB.out hx322_0;replace hx322_1:=hbc HB.out hx322_1;replace hx322_2:=hbc HB.out hx322_2;replace hx322_3:=hbc HB.out hx322_3;replace hx322_4:=hbc HB.out hx322_4;replace hx322_5:=hbc HB.out hx322_5;have HR322_5:=Az.mk hi322_5;have HC322_5:=Az.mk hl322_5;clear hi322_5 hl322_5;replace p322:=eq_true p322;replace q322:=eq_true q322;refine start_ (n:=12) (S:=fun w'=>w'.cell? (ad321.add ((x5_1).toNat * 6)) = some (.bool ((rd_T29 l0 x5_1).f0))∧w'.cell? ⟨(ad321.add ((x5_1).toNat * 6)).block,(ad321.add ((x5_1).toNat * 6)).off + 1,none⟩ = some (.int .i64 ((rd_T29 l0 x5_1).f1))∧w'.cell? ⟨(ad321.add ((x5_1).toNat * 6)).block,(ad321.add ((x5_1).toNat * 6)).off + 2,none⟩ = some (.int .i64 ((rd_T29 l0 x5_1).f2))∧w'.cell? ⟨(ad321.add ((x5_1).toNat * 6)).block,(ad321.add ((x5_1).toNat * 6)).off + 3,none⟩ = some (.int .i64 ((rd_T29 l0 x5_1).f3))∧w'.cell? ⟨(ad321.add ((x5_1).toNat * 6)).block,(ad321.add ((x5_1).toNat * 6)).off + 4,none⟩ = some (.int .i64 ((rd_T29 l0 x5_1).f4))∧w'.cell? ⟨(ad321.add ((x5_1).toNat * 6)).block,(ad321.add ((x5_1).toNat * 6)).off + 5,none⟩ = some (.slice A321_5 ((rd_T29 l0 x5_1).f5).length c321_5)∧w'.cell? (ad322.add ((x5_1).toNat * 6)) = some (.bool ((rd_T29 l1 x5_1).f0))∧w'.cell? ⟨(ad322.add ((x5_1).toNat * 6)).block,(ad322.add ((x5_1).toNat * 6)).off + 1,none⟩ = some (.int .i64 ((rd_T29 l1 x5_1).f1))∧w'.cell? ⟨(ad322.add ((x5_1).toNat * 6)).block,(ad322.add ((x5_1).toNat * 6)).off + 2,none⟩ = some (.int .i64 ((rd_T29 l1 x5_1).f2))∧w'.cell? ⟨(ad322.add ((x5_1).toNat * 6)).block,(ad322.add ((x5_1).toNat * 6)).off + 3,none⟩ = some (.int .i64 ((rd_T29 l1 x5_1).f3))∧w'.cell? ⟨(ad322.add ((x5_1).toNat * 6)).block,(ad322.add ((x5_1).toNat * 6)).off + 4,none⟩ = some (.int .i64 ((rd_T29 l1 x5_1).f4))∧w'.cell? ⟨(ad322.add ((x5_1).toNat * 6)).block,(ad322.add ((x5_1).toNat * 6)).off + 5,none⟩ = some (.slice A322_5 ((rd_T29 l1 x5_1).f5).length c322_5)) (ds:=[]) #[false,false,false,false,false,false,false,false,false,false,false,false] (by kernel_rfl) rfl rfl ⟨(hbc HB.out hw321_0),(hbc HB.out hw321_1),(hbc HB.out hw321_2),(hbc HB.out hw321_3),(hbc HB.out hw321_4),(hbc HB.out hw321_5),(hbc HB.out hw322_0),(hbc HB.out hw322_1),(hbc HB.out hw322_2),(hbc HB.out hw322_3),(hbc HB.out hw322_4),(hbc HB.out hw322_5)⟩ (fun hHeld=>?_);refine with_tabW r4Same.tab6 r4Same.bits6 (fun HT_ HW_=>?_)
           generalize wr.drew = w8 at HB HR321_5 HR322_5 hx321_0 hx321_1 hx321_2 hx321_3 hx321_4 hx321_5 hx322_0 hx322_1 hx322_2 hx322_3 hx322_4 hx322_5 hHeld ⊢
           refine pure_ (i:=0) (N:=some 19) (v:=?_) (a':=?_) #[true,false,false,false,false,false,false,false,false,false,false,false] rfl rfl (any_of HT_.out (by kernel_rfl)) (fun _ _ _ h=>h) (Or.inl ⟨by rfl,?_⟩) ?_ ?_;rotate_left
           · intro w'
             go_simp
             with_reducible rfl
           rotate_left
           · simp only [Act.put,List.setIfInBounds_toArray,List.set_cons_zero,List.set_cons_succ,i64_w,i32_w]
             rfl
           refine pure_ (i:=1) (N:=some 20) (v:=?_) (a':=?_) #[true,true,false,false,false,false,false,false,false,false,false,false] rfl rfl (any_of HT_.out (by kernel_rfl)) (fun _ _ _ h=>h) (Or.inl ⟨by rfl,?_⟩) ?_ ?_;rotate_left
           · intro w'
             go_simp
             with_reducible rfl
           rotate_left
           · simp only [Act.put,List.setIfInBounds_toArray,List.set_cons_zero,List.set_cons_succ,i64_w,i32_w]
             rfl
           refine pure_ (i:=2) (N:=some 21) (v:=?_) (a':=?_) #[true,true,true,false,false,false,false,false,false,false,false,false] rfl rfl (any_of HT_.out (by kernel_rfl)) (fun _ _ _ h=>h) (Or.inl ⟨by rfl,?_⟩) ?_ ?_;rotate_left
           · intro w'
             go_simp
             with_reducible rfl
           rotate_left
           · simp only [Act.put,List.setIfInBounds_toArray,List.set_cons_zero,List.set_cons_succ,i64_w,i32_w]
             rfl
           refine pure_ (i:=4) (N:=some 23) (v:=?_) (a':=?_) #[true,true,true,false,true,false,false,false,false,false,false,false] rfl rfl (any_of HT_.out (by kernel_rfl)) (fun _ _ _ h=>h) (Or.inl ⟨by rfl,?_⟩) ?_ ?_;rotate_left
           · intro w'
             go_simp
             with_reducible rfl
           rotate_left
           · simp only [Act.put,List.setIfInBounds_toArray,List.set_cons_zero,List.set_cons_succ,i64_w,i32_w]
             rfl
           refine pure_ (i:=5) (N:=some 24) (v:=?_) (a':=?_) #[true,true,true,false,true,true,false,false,false,false,false,false] rfl rfl (any_of HT_.out (by kernel_rfl)) (fun _ _ _ h=>h) (Or.inl ⟨by rfl,?_⟩) ?_ ?_;rotate_left
           · intro w'
             go_simp
             with_reducible rfl
           rotate_left
           · simp only [Act.put,List.setIfInBounds_toArray,List.set_cons_zero,List.set_cons_succ,i64_w,i32_w]
             rfl
           refine pure_ (i:=6) (N:=some 25) (v:=?_) (a':=?_) #[true,true,true,false,true,true,true,false,false,false,false,false] rfl rfl (any_of HT_.out (by kernel_rfl)) (fun _ _ _ h=>h) (Or.inl ⟨by rfl,?_⟩) ?_ ?_;rotate_left
           · intro w'
             go_simp
             with_reducible rfl
           rotate_left
           · simp only [Act.put,List.setIfInBounds_toArray,List.set_cons_zero,List.set_cons_succ,i64_w,i32_w]
             rfl
           refine take_ (i:=3) (N:=some 22) (v:=?_) (a':=?_) #[true,true,true,true,true,true,true,false,false,false,false,false] rfl rfl (take_ofW HT_.out HW_.out (by kernel_rfl)) (fun _ _ _ h=>h) (Or.inl ⟨by rfl,?_⟩) hHeld ?_ ?_;rotate_left
           · rintro w' ⟨s0,s1,s2,s3,s4,s5,s6,s7,s8,s9,s10,s11⟩
             go_simp
             with_reducible rfl
           rotate_left
           · simp only [Act.put,List.setIfInBounds_toArray,List.set_cons_zero,List.set_cons_succ,i64_w,i32_w]
             rfl
           refine take_ (i:=7) (N:=some 26) (v:=?_) (a':=?_) #[true,true,true,true,true,true,true,true,false,false,false,false] rfl rfl (take_ofW HT_.out HW_.out (by kernel_rfl)) (fun _ _ _ h=>h) (Or.inl ⟨by rfl,?_⟩) hHeld ?_ ?_;rotate_left
           · rintro w' ⟨s0,s1,s2,s3,s4,s5,s6,s7,s8,s9,s10,s11⟩
             go_simp
             with_reducible rfl
           rotate_left
           · simp only [Act.put,List.setIfInBounds_toArray,List.set_cons_zero,List.set_cons_succ,i64_w,i32_w]
             rfl
           refine join_ (σ:=Nat × Nat) 2 #[true,true,true,true,true,true,true,true,true,true,false,false] (fun s_=>[(6,.pointer (some ⟨s_.1,0,none⟩)),(7,.pointer (some ⟨s_.2,0,none⟩))]) (fun s_ w'=>(w'.cell? (ad321.add ((x5_1).toNat * 6)) = some (.bool ((rd_T29 l0 x5_1).f0))∧w'.cell? ⟨(ad321.add ((x5_1).toNat * 6)).block,(ad321.add ((x5_1).toNat * 6)).off + 1,none⟩ = some (.int .i64 ((rd_T29 l0 x5_1).f1))∧w'.cell? ⟨(ad321.add ((x5_1).toNat * 6)).block,(ad321.add ((x5_1).toNat * 6)).off + 2,none⟩ = some (.int .i64 ((rd_T29 l0 x5_1).f2))∧w'.cell? ⟨(ad321.add ((x5_1).toNat * 6)).block,(ad321.add ((x5_1).toNat * 6)).off + 3,none⟩ = some (.int .i64 ((rd_T29 l0 x5_1).f3))∧w'.cell? ⟨(ad321.add ((x5_1).toNat * 6)).block,(ad321.add ((x5_1).toNat * 6)).off + 4,none⟩ = some (.int .i64 ((rd_T29 l0 x5_1).f4))∧w'.cell? ⟨(ad321.add ((x5_1).toNat * 6)).block,(ad321.add ((x5_1).toNat * 6)).off + 5,none⟩ = some (.slice A321_5 ((rd_T29 l0 x5_1).f5).length c321_5)∧w'.cell? (ad322.add ((x5_1).toNat * 6)) = some (.bool ((rd_T29 l1 x5_1).f0))∧w'.cell? ⟨(ad322.add ((x5_1).toNat * 6)).block,(ad322.add ((x5_1).toNat * 6)).off + 1,none⟩ = some (.int .i64 ((rd_T29 l1 x5_1).f1))∧w'.cell? ⟨(ad322.add ((x5_1).toNat * 6)).block,(ad322.add ((x5_1).toNat * 6)).off + 2,none⟩ = some (.int .i64 ((rd_T29 l1 x5_1).f2))∧w'.cell? ⟨(ad322.add ((x5_1).toNat * 6)).block,(ad322.add ((x5_1).toNat * 6)).off + 3,none⟩ = some (.int .i64 ((rd_T29 l1 x5_1).f3))∧w'.cell? ⟨(ad322.add ((x5_1).toNat * 6)).block,(ad322.add ((x5_1).toNat * 6)).off + 4,none⟩ = some (.int .i64 ((rd_T29 l1 x5_1).f4))∧w'.cell? ⟨(ad322.add ((x5_1).toNat * 6)).block,(ad322.add ((x5_1).toNat * 6)).off + 5,none⟩ = some (.slice A322_5 ((rd_T29 l1 x5_1).f5).length c322_5))∧(w'.heap[s_.1]? = some (.cells #[.bool false,.int .i64 0,.int .i64 0,.int .i64 0,.int .i64 0,.slice none 0 0] 29 (0,0)))∧(w'.heap[s_.2]? = some (.cells #[.bool false,.int .i64 0,.int .i64 0,.int .i64 0,.int .i64 0,.slice none 0 0] 29 (0,0)))∧(w.heap.size≤s_.1)∧(w.heap.size≤s_.1)∧(s_.2≠s_.1)∧(s_.1≠s_.2)∧(w.heap.size≤s_.2)∧(w.heap.size≤s_.2)∧(Below w.heap.size w w')) ?_ ?_;rotate_left
           · intro hCont
             refine two_ (i:=8) (j:=9) (Ni:=some 6) (Nj:=some 7) #[true,true,true,true,true,true,true,true,true,false,false,false] #[true,true,true,true,true,true,true,true,false,true,false,false] rfl rfl rfl rfl (two_of HT_.out (by kernel_rfl)) (by decide) (by decide) (fun K hK=>?_) (fun K hK=>?_)
             · skip
               refine box_step ?hg (N:=6) ?hd (cs:=#[.bool false,.int .i64 0,.int .i64 0,.int .i64 0,.int .i64 0,.slice none 0 0]) (t:=29) ?hr ?_;(case hd=>rfl);(case hg=>rfl);(case hr=>exact gr_);intro gb323 hg w9 hbox hb;have n0_:=Az.mk (bwT (bmv HB.out) hb);have n1_:=Az.mk (hbox);have n2_:=Az.mk ((by rw [hg];exact (bwZ (bmv HB.out)) : w.heap.size≤gb323));have n3_:=Az.mk ((by rw [hg];exact (bwZ (bmv HB.out)) : w.heap.size≤gb323));clear HB;have HB:=n0_;have BK323:=n1_;have GW323:=n2_;have GE323:=n3_;clear n0_ n1_ n2_ n3_;clear hb hbox hg;refine hK.out _ _ ⟨(hbc HB.out hw321_0),(hbc HB.out hw321_1),(hbc HB.out hw321_2),(hbc HB.out hw321_3),(hbc HB.out hw321_4),(hbc HB.out hw321_5),(hbc HB.out hw322_0),(hbc HB.out hw322_1),(hbc HB.out hw322_2),(hbc HB.out hw322_3),(hbc HB.out hw322_4),(hbc HB.out hw322_5)⟩ (fun hHeld=>?_);clear hK K;refine norm_ (a':=?_) ?_ ?_;rotate_left
               · show Act.put _ (some 6) _ = _
                 simp only [Act.put,List.setIfInBounds_toArray,List.set_cons_zero,List.set_cons_succ,i64_w,i32_w]
                 rfl
               refine one_ (i:=9) (N:=some 7) #[true,true,true,true,true,true,true,true,true,true,false,false] rfl rfl (one_of HT_.out (by kernel_rfl)) (by decide) (fun K hK=>?_);refine box_step ?hg (N:=7) ?hd (cs:=#[.bool false,.int .i64 0,.int .i64 0,.int .i64 0,.int .i64 0,.slice none 0 0]) (t:=29) ?hr ?_;(case hd=>rfl);(case hg=>rfl);(case hr=>exact gr_);intro gb324 hg w10 hbox hb;have n0_:=Az.mk (kB (blk_mv BK323.out) hb);have n1_:=Az.mk (bwT (by repeat (first | (with_reducible first | exact HB.out | apply bwA | apply bwN | apply bw1 | refine bwS ?_ GE323.out) | exact HB.out)) hb);have n2_:=Az.mk (hbox);have n3_:=Az.mk ((by rw [hg];exact (bwZ (by repeat (first | (with_reducible first | exact HB.out | apply bwA | apply bwN | apply bw1 | refine bwS ?_ GE323.out) | exact HB.out))) : w.heap.size≤gb324));have n4_:=Az.mk ((by rw [hg];exact (bwZ (by repeat (first | (with_reducible first | exact HB.out | apply bwA | apply bwN | apply bw1 | refine bwS ?_ GE323.out) | exact HB.out))) : w.heap.size≤gb324));have n5_:=Az.mk ((by rw [hg];exact Nat.ne_of_lt (blk_lt (g:=gb323) (o:=.cells #[.bool false,.int .i64 0,.int .i64 0,.int .i64 0,.int .i64 0,.slice none 0 0] 29 (0,0)) (blk_mv BK323.out)) : gb323≠gb324));have n6_:=Az.mk ((by rw [hg];exact Nat.ne_of_gt (blk_lt (g:=gb323) (o:=.cells #[.bool false,.int .i64 0,.int .i64 0,.int .i64 0,.int .i64 0,.slice none 0 0] 29 (0,0)) (blk_mv BK323.out)) : gb324≠gb323));clear BK323;clear HB;have BK323:=n0_;have HB:=n1_;have BK324:=n2_;have GW324:=n3_;have GE324:=n4_;have NB323_324:=n5_;have NB324_323:=n6_;clear n0_ n1_ n2_ n3_ n4_ n5_ n6_;clear hb hbox hg;refine hK.out _ _ ⟨(hbc HB.out hw321_0),(hbc HB.out hw321_1),(hbc HB.out hw321_2),(hbc HB.out hw321_3),(hbc HB.out hw321_4),(hbc HB.out hw321_5),(hbc HB.out hw322_0),(hbc HB.out hw322_1),(hbc HB.out hw322_2),(hbc HB.out hw322_3),(hbc HB.out hw322_4),(hbc HB.out hw322_5)⟩ (fun hHeld=>?_);clear hK K;refine norm_ (a':=?_) ?_ ?_;rotate_left
               · show Act.put _ (some 7) _ = _
                 simp only [Act.put,List.setIfInBounds_toArray,List.set_cons_zero,List.set_cons_succ,i64_w,i32_w]
                 rfl
               exact norm_ (by simp only [putAll,Act.put,List.setIfInBounds_toArray,List.set_cons_zero,List.set_cons_succ]) (hCont (gb323,gb324) _ ⟨hHeld,(blk_mv BK323.out),(blk_mv BK324.out),GW323.out,GE323.out,NB324_323.out,NB323_324.out,GW324.out,GE324.out,(by repeat (first | (with_reducible first | exact HB.out | apply bwA | apply bwN | apply bw1 | refine bwS ?_ GE323.out | refine bwS ?_ GE324.out) | exact HB.out))⟩)
             · skip
               refine box_step ?hg (N:=7) ?hd (cs:=#[.bool false,.int .i64 0,.int .i64 0,.int .i64 0,.int .i64 0,.slice none 0 0]) (t:=29) ?hr ?_;(case hd=>rfl);(case hg=>rfl);(case hr=>exact gr_);intro gb324 hg w9 hbox hb;have n0_:=Az.mk (bwT (bmv HB.out) hb);have n1_:=Az.mk (hbox);have n2_:=Az.mk ((by rw [hg];exact (bwZ (bmv HB.out)) : w.heap.size≤gb324));have n3_:=Az.mk ((by rw [hg];exact (bwZ (bmv HB.out)) : w.heap.size≤gb324));clear HB;have HB:=n0_;have BK324:=n1_;have GW324:=n2_;have GE324:=n3_;clear n0_ n1_ n2_ n3_;clear hb hbox hg;refine hK.out _ _ ⟨(hbc HB.out hw321_0),(hbc HB.out hw321_1),(hbc HB.out hw321_2),(hbc HB.out hw321_3),(hbc HB.out hw321_4),(hbc HB.out hw321_5),(hbc HB.out hw322_0),(hbc HB.out hw322_1),(hbc HB.out hw322_2),(hbc HB.out hw322_3),(hbc HB.out hw322_4),(hbc HB.out hw322_5)⟩ (fun hHeld=>?_);clear hK K;refine norm_ (a':=?_) ?_ ?_;rotate_left
               · show Act.put _ (some 7) _ = _
                 simp only [Act.put,List.setIfInBounds_toArray,List.set_cons_zero,List.set_cons_succ,i64_w,i32_w]
                 rfl
               refine one_ (i:=8) (N:=some 6) #[true,true,true,true,true,true,true,true,true,true,false,false] rfl rfl (one_of HT_.out (by kernel_rfl)) (by decide) (fun K hK=>?_);refine box_step ?hg (N:=6) ?hd (cs:=#[.bool false,.int .i64 0,.int .i64 0,.int .i64 0,.int .i64 0,.slice none 0 0]) (t:=29) ?hr ?_;(case hd=>rfl);(case hg=>rfl);(case hr=>exact gr_);intro gb323 hg w10 hbox hb;have n0_:=Az.mk (kB (blk_mv BK324.out) hb);have n1_:=Az.mk (bwT (by repeat (first | (with_reducible first | exact HB.out | apply bwA | apply bwN | apply bw1 | refine bwS ?_ GE324.out) | exact HB.out)) hb);have n2_:=Az.mk (hbox);have n3_:=Az.mk ((by rw [hg];exact (bwZ (by repeat (first | (with_reducible first | exact HB.out | apply bwA | apply bwN | apply bw1 | refine bwS ?_ GE324.out) | exact HB.out))) : w.heap.size≤gb323));have n4_:=Az.mk ((by rw [hg];exact (bwZ (by repeat (first | (with_reducible first | exact HB.out | apply bwA | apply bwN | apply bw1 | refine bwS ?_ GE324.out) | exact HB.out))) : w.heap.size≤gb323));have n5_:=Az.mk ((by rw [hg];exact Nat.ne_of_lt (blk_lt (g:=gb324) (o:=.cells #[.bool false,.int .i64 0,.int .i64 0,.int .i64 0,.int .i64 0,.slice none 0 0] 29 (0,0)) (blk_mv BK324.out)) : gb324≠gb323));have n6_:=Az.mk ((by rw [hg];exact Nat.ne_of_gt (blk_lt (g:=gb324) (o:=.cells #[.bool false,.int .i64 0,.int .i64 0,.int .i64 0,.int .i64 0,.slice none 0 0] 29 (0,0)) (blk_mv BK324.out)) : gb323≠gb324));clear BK324;clear HB;have BK324:=n0_;have HB:=n1_;have BK323:=n2_;have GW323:=n3_;have GE323:=n4_;have NB324_323:=n5_;have NB323_324:=n6_;clear n0_ n1_ n2_ n3_ n4_ n5_ n6_;clear hb hbox hg;refine hK.out _ _ ⟨(hbc HB.out hw321_0),(hbc HB.out hw321_1),(hbc HB.out hw321_2),(hbc HB.out hw321_3),(hbc HB.out hw321_4),(hbc HB.out hw321_5),(hbc HB.out hw322_0),(hbc HB.out hw322_1),(hbc HB.out hw322_2),(hbc HB.out hw322_3),(hbc HB.out hw322_4),(hbc HB.out hw322_5)⟩ (fun hHeld=>?_);clear hK K;refine norm_ (a':=?_) ?_ ?_;rotate_left
               · show Act.put _ (some 6) _ = _
                 simp only [Act.put,List.setIfInBounds_toArray,List.set_cons_zero,List.set_cons_succ,i64_w,i32_w]
                 rfl
               exact norm_ (by simp only [putAll,Act.put,List.setIfInBounds_toArray,List.set_cons_zero,List.set_cons_succ]) (hCont (gb323,gb324) _ ⟨hHeld,(blk_mv BK323.out),(blk_mv BK324.out),GW323.out,GE323.out,NB324_323.out,NB323_324.out,GW324.out,GE324.out,(by repeat (first | (with_reducible first | exact HB.out | apply bwA | apply bwN | apply bw1 | refine bwS ?_ GE324.out | refine bwS ?_ GE323.out) | exact HB.out))⟩)
           rintro ⟨gb323,gb324⟩ w11 ⟨hS_,h0_,h1_,h2_,h3_,h4_,h5_,h6_,h7_,h8_⟩;have n0_ : Az (w11.heap[gb323]? = some (.cells #[.bool false,.int .i64 0,.int .i64 0,.int .i64 0,.int .i64 0,.slice none 0 0] 29 (0,0))):=⟨h0_⟩;have n1_ : Az (w11.heap[gb324]? = some (.cells #[.bool false,.int .i64 0,.int .i64 0,.int .i64 0,.int .i64 0,.slice none 0 0] 29 (0,0))):=⟨h1_⟩;have n2_ : Az (w.heap.size≤gb323):=⟨h2_⟩;have n3_ : Az (w.heap.size≤gb323):=⟨h3_⟩;have n4_ : Az (gb324≠gb323):=⟨h4_⟩;have n5_ : Az (gb323≠gb324):=⟨h5_⟩;have n6_ : Az (w.heap.size≤gb324):=⟨h6_⟩;have n7_ : Az (w.heap.size≤gb324):=⟨h7_⟩;have n8_ : Az (Below w.heap.size w w11):=⟨h8_⟩;clear HB;clear h0_ h1_ h2_ h3_ h4_ h5_ h6_ h7_ h8_;have BK323:=n0_;have BK324:=n1_;have GW323:=n2_;have GE323:=n3_;have NB324_323:=n4_;have NB323_324:=n5_;have GW324:=n6_;have GE324:=n7_;have HB:=n8_;clear n0_ n1_ n2_ n3_ n4_ n5_ n6_ n7_ n8_;have hHeld : w11.cell? (ad321.add ((x5_1).toNat * 6)) = some (.bool ((rd_T29 l0 x5_1).f0))∧w11.cell? ⟨(ad321.add ((x5_1).toNat * 6)).block,(ad321.add ((x5_1).toNat * 6)).off + 1,none⟩ = some (.int .i64 ((rd_T29 l0 x5_1).f1))∧w11.cell? ⟨(ad321.add ((x5_1).toNat * 6)).block,(ad321.add ((x5_1).toNat * 6)).off + 2,none⟩ = some (.int .i64 ((rd_T29 l0 x5_1).f2))∧w11.cell? ⟨(ad321.add ((x5_1).toNat * 6)).block,(ad321.add ((x5_1).toNat * 6)).off + 3,none⟩ = some (.int .i64 ((rd_T29 l0 x5_1).f3))∧w11.cell? ⟨(ad321.add ((x5_1).toNat * 6)).block,(ad321.add ((x5_1).toNat * 6)).off + 4,none⟩ = some (.int .i64 ((rd_T29 l0 x5_1).f4))∧w11.cell? ⟨(ad321.add ((x5_1).toNat * 6)).block,(ad321.add ((x5_1).toNat * 6)).off + 5,none⟩ = some (.slice A321_5 ((rd_T29 l0 x5_1).f5).length c321_5)∧w11.cell? (ad322.add ((x5_1).toNat * 6)) = some (.bool ((rd_T29 l1 x5_1).f0))∧w11.cell? ⟨(ad322.add ((x5_1).toNat * 6)).block,(ad322.add ((x5_1).toNat * 6)).off + 1,none⟩ = some (.int .i64 ((rd_T29 l1 x5_1).f1))∧w11.cell? ⟨(ad322.add ((x5_1).toNat * 6)).block,(ad322.add ((x5_1).toNat * 6)).off + 2,none⟩ = some (.int .i64 ((rd_T29 l1 x5_1).f2))∧w11.cell? ⟨(ad322.add ((x5_1).toNat * 6)).block,(ad322.add ((x5_1).toNat * 6)).off + 3,none⟩ = some (.int .i64 ((rd_T29 l1 x5_1).f3))∧w11.cell? ⟨(ad322.add ((x5_1).toNat * 6)).block,(ad322.add ((x5_1).toNat * 6)).off + 4,none⟩ = some (.int .i64 ((rd_T29 l1 x5_1).f4))∧w11.cell? ⟨(ad322.add ((x5_1).toNat * 6)).block,(ad322.add ((x5_1).toNat * 6)).off + 5,none⟩ = some (.slice A322_5 ((rd_T29 l1 x5_1).f5).length c322_5):=hS_;refine norm_ (a':=?_) ?_ ?_;rotate_left
           · simp only [putAll,Act.put,List.setIfInBounds_toArray,List.set_cons_zero,List.set_cons_succ]
             rfl
           refine one_ (i:=10) (N:=none) #[true,true,true,true,true,true,true,true,true,true,true,false] rfl rfl (one_of HT_.out (by kernel_rfl)) (by decide) (fun K hK=>?_);have hs12 : w11.cell? ⟨gb323,0,none⟩ = some (.bool false):=(kC BK323.out 0).trans rfl;have hfs12:=kF BK323.out 0;have hns12_1:=NB324_323.out;have hms12_1:=NB323_324.out;have hs13 : w11.cell? ⟨gb323,1,none⟩ = some (.int .i64 0):=(kC BK323.out 1).trans rfl;have hfs13:=kF BK323.out 1;have hns13_1:=NB324_323.out;have hms13_1:=NB323_324.out;have hs14 : w11.cell? ⟨gb323,2,none⟩ = some (.int .i64 0):=(kC BK323.out 2).trans rfl;have hfs14:=kF BK323.out 2;have hns14_1:=NB324_323.out;have hms14_1:=NB323_324.out;have hs15 : w11.cell? ⟨gb323,3,none⟩ = some (.int .i64 0):=(kC BK323.out 3).trans rfl;have hfs15:=kF BK323.out 3;have hns15_1:=NB324_323.out;have hms15_1:=NB323_324.out;have hs16 : w11.cell? ⟨gb323,4,none⟩ = some (.int .i64 0):=(kC BK323.out 4).trans rfl;have hfs16:=kF BK323.out 4;have hns16_1:=NB324_323.out;have hms16_1:=NB323_324.out;have hs17 : w11.cell? ⟨gb323,5,none⟩ = some (.slice none 0 0):=(kC BK323.out 5).trans rfl;have hfs17:=kF BK323.out 5;have hns17_1:=NB324_323.out;have hms17_1:=NB323_324.out;refine skip_ (w1:=?_) (by rfl) rfl ?_ ?_;rotate_left
           · go_simp
             rfl
           have hfar321_0_323:=Nat.ne_of_lt (Nat.lt_of_lt_of_le (World.block_lt_of_cell? _ _ hw321_0) GW323.out);have hfar321_1_323:=Nat.ne_of_lt (Nat.lt_of_lt_of_le (World.block_lt_of_cell? _ _ hw321_1) GW323.out);have hfar321_2_323:=Nat.ne_of_lt (Nat.lt_of_lt_of_le (World.block_lt_of_cell? _ _ hw321_2) GW323.out);have hfar321_3_323:=Nat.ne_of_lt (Nat.lt_of_lt_of_le (World.block_lt_of_cell? _ _ hw321_3) GW323.out);have hfar321_4_323:=Nat.ne_of_lt (Nat.lt_of_lt_of_le (World.block_lt_of_cell? _ _ hw321_4) GW323.out);have hfar321_5_323:=Nat.ne_of_lt (Nat.lt_of_lt_of_le (World.block_lt_of_cell? _ _ hw321_5) GW323.out);have hfar322_0_323:=Nat.ne_of_lt (Nat.lt_of_lt_of_le (World.block_lt_of_cell? _ _ hw322_0) GW323.out);have hfar322_1_323:=Nat.ne_of_lt (Nat.lt_of_lt_of_le (World.block_lt_of_cell? _ _ hw322_1) GW323.out);have hfar322_2_323:=Nat.ne_of_lt (Nat.lt_of_lt_of_le (World.block_lt_of_cell? _ _ hw322_2) GW323.out);have hfar322_3_323:=Nat.ne_of_lt (Nat.lt_of_lt_of_le (World.block_lt_of_cell? _ _ hw322_3) GW323.out);have hfar322_4_323:=Nat.ne_of_lt (Nat.lt_of_lt_of_le (World.block_lt_of_cell? _ _ hw322_4) GW323.out);have hfar322_5_323:=Nat.ne_of_lt (Nat.lt_of_lt_of_le (World.block_lt_of_cell? _ _ hw322_5) GW323.out);refine hK.out _ _ ⟨((cell_far (p:=⟨gb323,_,none⟩) hfar321_0_323 _).trans (((cell_far (p:=⟨gb323,_,none⟩) hfar321_0_323 _).trans (((cell_far (p:=⟨gb323,_,none⟩) hfar321_0_323 _).trans (((cell_far (p:=⟨gb323,_,none⟩) hfar321_0_323 _).trans (((cell_far (p:=⟨gb323,_,none⟩) hfar321_0_323 _).trans (((cell_far (p:=⟨gb323,_,none⟩) hfar321_0_323 _).trans (hHeld.1)))))))))))),((cell_far (p:=⟨gb323,_,none⟩) hfar321_1_323 _).trans (((cell_far (p:=⟨gb323,_,none⟩) hfar321_1_323 _).trans (((cell_far (p:=⟨gb323,_,none⟩) hfar321_1_323 _).trans (((cell_far (p:=⟨gb323,_,none⟩) hfar321_1_323 _).trans (((cell_far (p:=⟨gb323,_,none⟩) hfar321_1_323 _).trans (((cell_far (p:=⟨gb323,_,none⟩) hfar321_1_323 _).trans (hHeld.2.1)))))))))))),((cell_far (p:=⟨gb323,_,none⟩) hfar321_2_323 _).trans (((cell_far (p:=⟨gb323,_,none⟩) hfar321_2_323 _).trans (((cell_far (p:=⟨gb323,_,none⟩) hfar321_2_323 _).trans (((cell_far (p:=⟨gb323,_,none⟩) hfar321_2_323 _).trans (((cell_far (p:=⟨gb323,_,none⟩) hfar321_2_323 _).trans (((cell_far (p:=⟨gb323,_,none⟩) hfar321_2_323 _).trans (hHeld.2.2.1)))))))))))),((cell_far (p:=⟨gb323,_,none⟩) hfar321_3_323 _).trans (((cell_far (p:=⟨gb323,_,none⟩) hfar321_3_323 _).trans (((cell_far (p:=⟨gb323,_,none⟩) hfar321_3_323 _).trans (((cell_far (p:=⟨gb323,_,none⟩) hfar321_3_323 _).trans (((cell_far (p:=⟨gb323,_,none⟩) hfar321_3_323 _).trans (((cell_far (p:=⟨gb323,_,none⟩) hfar321_3_323 _).trans (hHeld.2.2.2.1)))))))))))),((cell_far (p:=⟨gb323,_,none⟩) hfar321_4_323 _).trans (((cell_far (p:=⟨gb323,_,none⟩) hfar321_4_323 _).trans (((cell_far (p:=⟨gb323,_,none⟩) hfar321_4_323 _).trans (((cell_far (p:=⟨gb323,_,none⟩) hfar321_4_323 _).trans (((cell_far (p:=⟨gb323,_,none⟩) hfar321_4_323 _).trans (((cell_far (p:=⟨gb323,_,none⟩) hfar321_4_323 _).trans (hHeld.2.2.2.2.1)))))))))))),((cell_far (p:=⟨gb323,_,none⟩) hfar321_5_323 _).trans (((cell_far (p:=⟨gb323,_,none⟩) hfar321_5_323 _).trans (((cell_far (p:=⟨gb323,_,none⟩) hfar321_5_323 _).trans (((cell_far (p:=⟨gb323,_,none⟩) hfar321_5_323 _).trans (((cell_far (p:=⟨gb323,_,none⟩) hfar321_5_323 _).trans (((cell_far (p:=⟨gb323,_,none⟩) hfar321_5_323 _).trans (hHeld.2.2.2.2.2.1)))))))))))),((cell_far (p:=⟨gb323,_,none⟩) hfar322_0_323 _).trans (((cell_far (p:=⟨gb323,_,none⟩) hfar322_0_323 _).trans (((cell_far (p:=⟨gb323,_,none⟩) hfar322_0_323 _).trans (((cell_far (p:=⟨gb323,_,none⟩) hfar322_0_323 _).trans (((cell_far (p:=⟨gb323,_,none⟩) hfar322_0_323 _).trans (((cell_far (p:=⟨gb323,_,none⟩) hfar322_0_323 _).trans (hHeld.2.2.2.2.2.2.1)))))))))))),((cell_far (p:=⟨gb323,_,none⟩) hfar322_1_323 _).trans (((cell_far (p:=⟨gb323,_,none⟩) hfar322_1_323 _).trans (((cell_far (p:=⟨gb323,_,none⟩) hfar322_1_323 _).trans (((cell_far (p:=⟨gb323,_,none⟩) hfar322_1_323 _).trans (((cell_far (p:=⟨gb323,_,none⟩) hfar322_1_323 _).trans (((cell_far (p:=⟨gb323,_,none⟩) hfar322_1_323 _).trans (hHeld.2.2.2.2.2.2.2.1)))))))))))),((cell_far (p:=⟨gb323,_,none⟩) hfar322_2_323 _).trans (((cell_far (p:=⟨gb323,_,none⟩) hfar322_2_323 _).trans (((cell_far (p:=⟨gb323,_,none⟩) hfar322_2_323 _).trans (((cell_far (p:=⟨gb323,_,none⟩) hfar322_2_323 _).trans (((cell_far (p:=⟨gb323,_,none⟩) hfar322_2_323 _).trans (((cell_far (p:=⟨gb323,_,none⟩) hfar322_2_323 _).trans (hHeld.2.2.2.2.2.2.2.2.1)))))))))))),((cell_far (p:=⟨gb323,_,none⟩) hfar322_3_323 _).trans (((cell_far (p:=⟨gb323,_,none⟩) hfar322_3_323 _).trans (((cell_far (p:=⟨gb323,_,none⟩) hfar322_3_323 _).trans (((cell_far (p:=⟨gb323,_,none⟩) hfar322_3_323 _).trans (((cell_far (p:=⟨gb323,_,none⟩) hfar322_3_323 _).trans (((cell_far (p:=⟨gb323,_,none⟩) hfar322_3_323 _).trans (hHeld.2.2.2.2.2.2.2.2.2.1)))))))))))),((cell_far (p:=⟨gb323,_,none⟩) hfar322_4_323 _).trans (((cell_far (p:=⟨gb323,_,none⟩) hfar322_4_323 _).trans (((cell_far (p:=⟨gb323,_,none⟩) hfar322_4_323 _).trans (((cell_far (p:=⟨gb323,_,none⟩) hfar322_4_323 _).trans (((cell_far (p:=⟨gb323,_,none⟩) hfar322_4_323 _).trans (((cell_far (p:=⟨gb323,_,none⟩) hfar322_4_323 _).trans (hHeld.2.2.2.2.2.2.2.2.2.2.1)))))))))))),((cell_far (p:=⟨gb323,_,none⟩) hfar322_5_323 _).trans (((cell_far (p:=⟨gb323,_,none⟩) hfar322_5_323 _).trans (((cell_far (p:=⟨gb323,_,none⟩) hfar322_5_323 _).trans (((cell_far (p:=⟨gb323,_,none⟩) hfar322_5_323 _).trans (((cell_far (p:=⟨gb323,_,none⟩) hfar322_5_323 _).trans (((cell_far (p:=⟨gb323,_,none⟩) hfar322_5_323 _).trans (hHeld.2.2.2.2.2.2.2.2.2.2.2))))))))))))⟩ (fun hHeld=>?_);clear hK K;refine one_ (i:=11) (N:=none) #[true,true,true,true,true,true,true,true,true,true,true,true] rfl rfl (one_of HT_.out (by kernel_rfl)) (by decide) (fun K hK=>?_);have hs18 : w11.cell? ⟨gb324,0,none⟩ = some (.bool false):=(kC BK324.out 0).trans rfl;have hfs18:=kF BK324.out 0;have hns18_0:=NB323_324.out;have hms18_0:=NB324_323.out;have hs19 : w11.cell? ⟨gb324,1,none⟩ = some (.int .i64 0):=(kC BK324.out 1).trans rfl;have hfs19:=kF BK324.out 1;have hns19_0:=NB323_324.out;have hms19_0:=NB324_323.out;have hs20 : w11.cell? ⟨gb324,2,none⟩ = some (.int .i64 0):=(kC BK324.out 2).trans rfl;have hfs20:=kF BK324.out 2;have hns20_0:=NB323_324.out;have hms20_0:=NB324_323.out;have hs21 : w11.cell? ⟨gb324,3,none⟩ = some (.int .i64 0):=(kC BK324.out 3).trans rfl;have hfs21:=kF BK324.out 3;have hns21_0:=NB323_324.out;have hms21_0:=NB324_323.out;have hs22 : w11.cell? ⟨gb324,4,none⟩ = some (.int .i64 0):=(kC BK324.out 4).trans rfl;have hfs22:=kF BK324.out 4;have hns22_0:=NB323_324.out;have hms22_0:=NB324_323.out;have hs23 : w11.cell? ⟨gb324,5,none⟩ = some (.slice none 0 0):=(kC BK324.out 5).trans rfl;have hfs23:=kF BK324.out 5;have hns23_0:=NB323_324.out;have hms23_0:=NB324_323.out;refine skip_ (w1:=?_) (by rfl) rfl ?_ ?_;rotate_left
           · go_simp
             rfl
           have hfar321_0_324:=Nat.ne_of_lt (Nat.lt_of_lt_of_le (World.block_lt_of_cell? _ _ hw321_0) GW324.out);have hfar321_1_324:=Nat.ne_of_lt (Nat.lt_of_lt_of_le (World.block_lt_of_cell? _ _ hw321_1) GW324.out);have hfar321_2_324:=Nat.ne_of_lt (Nat.lt_of_lt_of_le (World.block_lt_of_cell? _ _ hw321_2) GW324.out);have hfar321_3_324:=Nat.ne_of_lt (Nat.lt_of_lt_of_le (World.block_lt_of_cell? _ _ hw321_3) GW324.out);have hfar321_4_324:=Nat.ne_of_lt (Nat.lt_of_lt_of_le (World.block_lt_of_cell? _ _ hw321_4) GW324.out);have hfar321_5_324:=Nat.ne_of_lt (Nat.lt_of_lt_of_le (World.block_lt_of_cell? _ _ hw321_5) GW324.out);have hfar322_0_324:=Nat.ne_of_lt (Nat.lt_of_lt_of_le (World.block_lt_of_cell? _ _ hw322_0) GW324.out);have hfar322_1_324:=Nat.ne_of_lt (Nat.lt_of_lt_of_le (World.block_lt_of_cell? _ _ hw322_1) GW324.out);have hfar322_2_324:=Nat.ne_of_lt (Nat.lt_of_lt_of_le (World.block_lt_of_cell? _ _ hw322_2) GW324.out);have hfar322_3_324:=Nat.ne_of_lt (Nat.lt_of_lt_of_le (World.block_lt_of_cell? _ _ hw322_3) GW324.out);have hfar322_4_324:=Nat.ne_of_lt (Nat.lt_of_lt_of_le (World.block_lt_of_cell? _ _ hw322_4) GW324.out);have hfar322_5_324:=Nat.ne_of_lt (Nat.lt_of_lt_of_le (World.block_lt_of_cell? _ _ hw322_5) GW324.out);refine hK.out _ _ ⟨((cell_far (p:=⟨gb324,_,none⟩) hfar321_0_324 _).trans (((cell_far (p:=⟨gb324,_,none⟩) hfar321_0_324 _).trans (((cell_far (p:=⟨gb324,_,none⟩) hfar321_0_324 _).trans (((cell_far (p:=⟨gb324,_,none⟩) hfar321_0_324 _).trans (((cell_far (p:=⟨gb324,_,none⟩) hfar321_0_324 _).trans (((cell_far (p:=⟨gb324,_,none⟩) hfar321_0_324 _).trans (hHeld.1)))))))))))),((cell_far (p:=⟨gb324,_,none⟩) hfar321_1_324 _).trans (((cell_far (p:=⟨gb324,_,none⟩) hfar321_1_324 _).trans (((cell_far (p:=⟨gb324,_,none⟩) hfar321_1_324 _).trans (((cell_far (p:=⟨gb324,_,none⟩) hfar321_1_324 _).trans (((cell_far (p:=⟨gb324,_,none⟩) hfar321_1_324 _).trans (((cell_far (p:=⟨gb324,_,none⟩) hfar321_1_324 _).trans (hHeld.2.1)))))))))))),((cell_far (p:=⟨gb324,_,none⟩) hfar321_2_324 _).trans (((cell_far (p:=⟨gb324,_,none⟩) hfar321_2_324 _).trans (((cell_far (p:=⟨gb324,_,none⟩) hfar321_2_324 _).trans (((cell_far (p:=⟨gb324,_,none⟩) hfar321_2_324 _).trans (((cell_far (p:=⟨gb324,_,none⟩) hfar321_2_324 _).trans (((cell_far (p:=⟨gb324,_,none⟩) hfar321_2_324 _).trans (hHeld.2.2.1)))))))))))),((cell_far (p:=⟨gb324,_,none⟩) hfar321_3_324 _).trans (((cell_far (p:=⟨gb324,_,none⟩) hfar321_3_324 _).trans (((cell_far (p:=⟨gb324,_,none⟩) hfar321_3_324 _).trans (((cell_far (p:=⟨gb324,_,none⟩) hfar321_3_324 _).trans (((cell_far (p:=⟨gb324,_,none⟩) hfar321_3_324 _).trans (((cell_far (p:=⟨gb324,_,none⟩) hfar321_3_324 _).trans (hHeld.2.2.2.1)))))))))))),((cell_far (p:=⟨gb324,_,none⟩) hfar321_4_324 _).trans (((cell_far (p:=⟨gb324,_,none⟩) hfar321_4_324 _).trans (((cell_far (p:=⟨gb324,_,none⟩) hfar321_4_324 _).trans (((cell_far (p:=⟨gb324,_,none⟩) hfar321_4_324 _).trans (((cell_far (p:=⟨gb324,_,none⟩) hfar321_4_324 _).trans (((cell_far (p:=⟨gb324,_,none⟩) hfar321_4_324 _).trans (hHeld.2.2.2.2.1)))))))))))),((cell_far (p:=⟨gb324,_,none⟩) hfar321_5_324 _).trans (((cell_far (p:=⟨gb324,_,none⟩) hfar321_5_324 _).trans (((cell_far (p:=⟨gb324,_,none⟩) hfar321_5_324 _).trans (((cell_far (p:=⟨gb324,_,none⟩) hfar321_5_324 _).trans (((cell_far (p:=⟨gb324,_,none⟩) hfar321_5_324 _).trans (((cell_far (p:=⟨gb324,_,none⟩) hfar321_5_324 _).trans (hHeld.2.2.2.2.2.1)))))))))))),((cell_far (p:=⟨gb324,_,none⟩) hfar322_0_324 _).trans (((cell_far (p:=⟨gb324,_,none⟩) hfar322_0_324 _).trans (((cell_far (p:=⟨gb324,_,none⟩) hfar322_0_324 _).trans (((cell_far (p:=⟨gb324,_,none⟩) hfar322_0_324 _).trans (((cell_far (p:=⟨gb324,_,none⟩) hfar322_0_324 _).trans (((cell_far (p:=⟨gb324,_,none⟩) hfar322_0_324 _).trans (hHeld.2.2.2.2.2.2.1)))))))))))),((cell_far (p:=⟨gb324,_,none⟩) hfar322_1_324 _).trans (((cell_far (p:=⟨gb324,_,none⟩) hfar322_1_324 _).trans (((cell_far (p:=⟨gb324,_,none⟩) hfar322_1_324 _).trans (((cell_far (p:=⟨gb324,_,none⟩) hfar322_1_324 _).trans (((cell_far (p:=⟨gb324,_,none⟩) hfar322_1_324 _).trans (((cell_far (p:=⟨gb324,_,none⟩) hfar322_1_324 _).trans (hHeld.2.2.2.2.2.2.2.1)))))))))))),((cell_far (p:=⟨gb324,_,none⟩) hfar322_2_324 _).trans (((cell_far (p:=⟨gb324,_,none⟩) hfar322_2_324 _).trans (((cell_far (p:=⟨gb324,_,none⟩) hfar322_2_324 _).trans (((cell_far (p:=⟨gb324,_,none⟩) hfar322_2_324 _).trans (((cell_far (p:=⟨gb324,_,none⟩) hfar322_2_324 _).trans (((cell_far (p:=⟨gb324,_,none⟩) hfar322_2_324 _).trans (hHeld.2.2.2.2.2.2.2.2.1)))))))))))),((cell_far (p:=⟨gb324,_,none⟩) hfar322_3_324 _).trans (((cell_far (p:=⟨gb324,_,none⟩) hfar322_3_324 _).trans (((cell_far (p:=⟨gb324,_,none⟩) hfar322_3_324 _).trans (((cell_far (p:=⟨gb324,_,none⟩) hfar322_3_324 _).trans (((cell_far (p:=⟨gb324,_,none⟩) hfar322_3_324 _).trans (((cell_far (p:=⟨gb324,_,none⟩) hfar322_3_324 _).trans (hHeld.2.2.2.2.2.2.2.2.2.1)))))))))))),((cell_far (p:=⟨gb324,_,none⟩) hfar322_4_324 _).trans (((cell_far (p:=⟨gb324,_,none⟩) hfar322_4_324 _).trans (((cell_far (p:=⟨gb324,_,none⟩) hfar322_4_324 _).trans (((cell_far (p:=⟨gb324,_,none⟩) hfar322_4_324 _).trans (((cell_far (p:=⟨gb324,_,none⟩) hfar322_4_324 _).trans (((cell_far (p:=⟨gb324,_,none⟩) hfar322_4_324 _).trans (hHeld.2.2.2.2.2.2.2.2.2.2.1)))))))))))),((cell_far (p:=⟨gb324,_,none⟩) hfar322_5_324 _).trans (((cell_far (p:=⟨gb324,_,none⟩) hfar322_5_324 _).trans (((cell_far (p:=⟨gb324,_,none⟩) hfar322_5_324 _).trans (((cell_far (p:=⟨gb324,_,none⟩) hfar322_5_324 _).trans (((cell_far (p:=⟨gb324,_,none⟩) hfar322_5_324 _).trans (((cell_far (p:=⟨gb324,_,none⟩) hfar322_5_324 _).trans (hHeld.2.2.2.2.2.2.2.2.2.2.2))))))))))))⟩ (fun hHeld=>?_);clear hK K;refine done_ (done_of HT_.out (by kernel_rfl)) ?_;have hnb24:=NB323_324.out;have hnc24:=NB324_323.out;have hcz25_0 : w11.cell? ⟨gb323,0,none⟩ = some (.bool false):=(kC BK323.out 0).trans rfl;have hcz25_1 : w11.cell? ⟨gb323,1,none⟩ = some (.int .i64 0):=(kC BK323.out 1).trans rfl;have hcz25_2 : w11.cell? ⟨gb323,2,none⟩ = some (.int .i64 0):=(kC BK323.out 2).trans rfl;have hcz25_3 : w11.cell? ⟨gb323,3,none⟩ = some (.int .i64 0):=(kC BK323.out 3).trans rfl;have hcz25_4 : w11.cell? ⟨gb323,4,none⟩ = some (.int .i64 0):=(kC BK323.out 4).trans rfl;have hcz25_5 : w11.cell? ⟨gb323,5,none⟩ = some (.slice none 0 0):=(kC BK323.out 5).trans rfl;have hfz25_0:=kF BK323.out 0;have hfz25_1:=kF BK323.out 1;have hfz25_2:=kF BK323.out 2;have hfz25_3:=kF BK323.out 3;have hfz25_4:=kF BK323.out 4;have hfz25_5:=kF BK323.out 5;have hcz26_0 : w11.cell? ⟨gb324,0,none⟩ = some (.bool false):=(kC BK324.out 0).trans rfl;have hcz26_1 : w11.cell? ⟨gb324,1,none⟩ = some (.int .i64 0):=(kC BK324.out 1).trans rfl;have hcz26_2 : w11.cell? ⟨gb324,2,none⟩ = some (.int .i64 0):=(kC BK324.out 2).trans rfl;have hcz26_3 : w11.cell? ⟨gb324,3,none⟩ = some (.int .i64 0):=(kC BK324.out 3).trans rfl;have hcz26_4 : w11.cell? ⟨gb324,4,none⟩ = some (.int .i64 0):=(kC BK324.out 4).trans rfl;have hcz26_5 : w11.cell? ⟨gb324,5,none⟩ = some (.slice none 0 0):=(kC BK324.out 5).trans rfl;have hfz26_0:=kF BK324.out 0;have hfz26_1:=kF BK324.out 1;have hfz26_2:=kF BK324.out 2;have hfz26_3:=kF BK324.out 3;have hfz26_4:=kF BK324.out 4;have hfz26_5:=kF BK324.out 5;have H:=HH.out;clear HH
           by_cases c7 : (((rd_T29 l0 x5_1).f0) != ((rd_T29 l1 x5_1).f0)) = true
           · rw [if_pos c7] at H
             have c7b0 : (((rd_T29 l0 x5_1).f0) != ((rd_T29 l1 x5_1).f0)) = true:=c7
             (try (have c7b1 : decide (((rd_T29 l0 x5_1).f0) = ((rd_T29 l1 x5_1).f0)) = false:=by simpa using c7))
             (try (have c7b2 : (((rd_T29 l0 x5_1).f0) == ((rd_T29 l1 x5_1).f0)) = false:=by simpa using c7))
             (try (have c7b3 : ¬ (((rd_T29 l0 x5_1).f0) = ((rd_T29 l1 x5_1).f0)):=by simpa using c7))
             clear c7;obtain rfl:=Option.some.inj H
             try go_wp2
             go_ret
             exact ⟨by first | rfl | (simp [errW_none,errW_some] <;> rfl) | (simp [*,errW_none,errW_some] <;> rfl),by repeat (first | (with_reducible first | exact HB.out | apply bwA | apply bwN | apply bw1 | refine bwS ?_ GE323.out | refine bwS ?_ GE324.out) | exact HB.out)⟩
           · rw [if_neg c7] at H
             have c7b0 : (((rd_T29 l0 x5_1).f0) != ((rd_T29 l1 x5_1).f0)) = false:=by simpa using c7
             (try (have c7b1 : decide (((rd_T29 l0 x5_1).f0) = ((rd_T29 l1 x5_1).f0)) = true:=by simpa using c7))
             (try (have c7b2 : (((rd_T29 l0 x5_1).f0) == ((rd_T29 l1 x5_1).f0)) = true:=by simpa using c7))
             clear c7
             by_cases c27 : ((rd_T29 l0 x5_1).f1) = ((rd_T29 l1 x5_1).f1)
             · rw [if_pos c27] at H
               have c27b0 : (((rd_T29 l0 x5_1).f1) == ((rd_T29 l1 x5_1).f1)) = true:=beq_iff_eq.mpr c27;have c27b1 : (((rd_T29 l0 x5_1).f1) != ((rd_T29 l1 x5_1).f1)) = false:=bne_eq_false_iff_eq.mpr c27;clear c27
               by_cases c28 : ((rd_T29 l0 x5_1).f2) = ((rd_T29 l1 x5_1).f2)
               · rw [if_pos c28] at H
                 have c28b0 : (((rd_T29 l0 x5_1).f2) == ((rd_T29 l1 x5_1).f2)) = true:=beq_iff_eq.mpr c28;have c28b1 : (((rd_T29 l0 x5_1).f2) != ((rd_T29 l1 x5_1).f2)) = false:=bne_eq_false_iff_eq.mpr c28;clear c28
                 by_cases c29 : ((rd_T29 l0 x5_1).f3) = ((rd_T29 l1 x5_1).f3)
                 · rw [if_pos c29] at H
                   have c29b0 : (((rd_T29 l0 x5_1).f3) == ((rd_T29 l1 x5_1).f3)) = true:=beq_iff_eq.mpr c29;have c29b1 : (((rd_T29 l0 x5_1).f3) != ((rd_T29 l1 x5_1).f3)) = false:=bne_eq_false_iff_eq.mpr c29;clear c29
                   by_cases c30 : ((rd_T29 l0 x5_1).f4) = ((rd_T29 l1 x5_1).f4)
                   · rw [if_pos c30] at H
                     have c30b0 : (((rd_T29 l0 x5_1).f4) == ((rd_T29 l1 x5_1).f4)) = true:=beq_iff_eq.mpr c30;have c30b1 : (((rd_T29 l0 x5_1).f4) != ((rd_T29 l1 x5_1).f4)) = false:=bne_eq_false_iff_eq.mpr c30;clear c30;replace H:=Option.bind_eq_some_iff.mp H;obtain ⟨t325,A310,H⟩:=H;(try dsimp only at H);have A31:=Az.mk A310;clear A310
                     by_cases c32 : t325 = true
                     · subst c32
                       rw [if_pos rfl] at H;have H':=Az.mk H;clear H
                       try go_wp2_with (first | (go_at_call 34;(with_reducible refine (r1Ints.calls k1 _ _ ((rd_T29 l0 x5_1).f5) _ _ ((rd_T29 l1 x5_1).f5) true _ ?side1 ?side2 ?side3 ?side4 A31.out).mono ?_);(case side1=>exact Kd.C_below HR321_5.out (by repeat (first | (with_reducible first | exact HB.out | apply bwA | apply bwN | apply bw1 | refine bwS ?_ GE323.out | refine bwS ?_ GE324.out) | exact HB.out)));(case side2=>exact HC321_5.out);(case side3=>exact Kd.C_below HR322_5.out (by repeat (first | (with_reducible first | exact HB.out | apply bwA | apply bwN | apply bw1 | refine bwS ?_ GE323.out | refine bwS ?_ GE324.out) | exact HB.out)));(case side4=>exact HC322_5.out);rintro e w' ⟨rfl,⟨nd,rfl⟩⟩))
                       go_roundg k1
                       case measure=>have:=HK1.out;omega
                       case rel=>exact ⟨(wrap64 (x5_1 + 1)),rs_,H',⟨by have:=HK1.out;omega⟩,⟨by repeat (first | (with_reducible first | exact HB.out | apply bwA | apply bwN | apply bw1 | refine bwS ?_ GE323.out | refine bwS ?_ GE324.out) | exact HB.out)⟩⟩
                     · replace c32:=Bool.eq_false_iff.mpr c32
                       subst c32;rw [if_neg (show ¬ (false = true) by decide)] at H;obtain rfl:=Option.some.inj H
                       try go_wp2_with (first | (go_at_call 34;(with_reducible refine (r1Ints.calls k1 _ _ ((rd_T29 l0 x5_1).f5) _ _ ((rd_T29 l1 x5_1).f5) false _ ?side1 ?side2 ?side3 ?side4 A31.out).mono ?_);(case side1=>exact Kd.C_below HR321_5.out (by repeat (first | (with_reducible first | exact HB.out | apply bwA | apply bwN | apply bw1 | refine bwS ?_ GE323.out | refine bwS ?_ GE324.out) | exact HB.out)));(case side2=>exact HC321_5.out);(case side3=>exact Kd.C_below HR322_5.out (by repeat (first | (with_reducible first | exact HB.out | apply bwA | apply bwN | apply bw1 | refine bwS ?_ GE323.out | refine bwS ?_ GE324.out) | exact HB.out)));(case side4=>exact HC322_5.out);rintro e w' ⟨rfl,⟨nd,rfl⟩⟩))
                       go_ret
                       exact ⟨by first | rfl | (simp [errW_none,errW_some] <;> rfl) | (simp [*,errW_none,errW_some] <;> rfl),by repeat (first | (with_reducible first | exact HB.out | apply bwA | apply bwN | apply bw1 | refine bwS ?_ GE323.out | refine bwS ?_ GE324.out) | exact HB.out)⟩
                   · rw [if_neg c30] at H
                     have c30b0 : (((rd_T29 l0 x5_1).f4) == ((rd_T29 l1 x5_1).f4)) = false:=beq_eq_false_iff_ne.mpr c30;have c30b1 : (((rd_T29 l0 x5_1).f4) != ((rd_T29 l1 x5_1).f4)) = true:=bne_iff_ne.mpr c30;obtain rfl:=Option.some.inj H
                     try go_wp2
                     go_ret
                     exact ⟨by first | rfl | (simp [errW_none,errW_some] <;> rfl) | (simp [*,errW_none,errW_some] <;> rfl),by repeat (first | (with_reducible first | exact HB.out | apply bwA | apply bwN | apply bw1 | refine bwS ?_ GE323.out | refine bwS ?_ GE324.out) | exact HB.out)⟩
                 · rw [if_neg c29] at H
                   have c29b0 : (((rd_T29 l0 x5_1).f3) == ((rd_T29 l1 x5_1).f3)) = false:=beq_eq_false_iff_ne.mpr c29;have c29b1 : (((rd_T29 l0 x5_1).f3) != ((rd_T29 l1 x5_1).f3)) = true:=bne_iff_ne.mpr c29;obtain rfl:=Option.some.inj H
                   try go_wp2
                   go_ret
                   exact ⟨by first | rfl | (simp [errW_none,errW_some] <;> rfl) | (simp [*,errW_none,errW_some] <;> rfl),by repeat (first | (with_reducible first | exact HB.out | apply bwA | apply bwN | apply bw1 | refine bwS ?_ GE323.out | refine bwS ?_ GE324.out) | exact HB.out)⟩
               · rw [if_neg c28] at H
                 have c28b0 : (((rd_T29 l0 x5_1).f2) == ((rd_T29 l1 x5_1).f2)) = false:=beq_eq_false_iff_ne.mpr c28;have c28b1 : (((rd_T29 l0 x5_1).f2) != ((rd_T29 l1 x5_1).f2)) = true:=bne_iff_ne.mpr c28;obtain rfl:=Option.some.inj H
                 try go_wp2
                 go_ret
                 exact ⟨by first | rfl | (simp [errW_none,errW_some] <;> rfl) | (simp [*,errW_none,errW_some] <;> rfl),by repeat (first | (with_reducible first | exact HB.out | apply bwA | apply bwN | apply bw1 | refine bwS ?_ GE323.out | refine bwS ?_ GE324.out) | exact HB.out)⟩
             · rw [if_neg c27] at H
               have c27b0 : (((rd_T29 l0 x5_1).f1) == ((rd_T29 l1 x5_1).f1)) = false:=beq_eq_false_iff_ne.mpr c27;have c27b1 : (((rd_T29 l0 x5_1).f1) != ((rd_T29 l1 x5_1).f1)) = true:=bne_iff_ne.mpr c27;obtain rfl:=Option.some.inj H
               try go_wp2
               go_ret
               exact ⟨by first | rfl | (simp [errW_none,errW_some] <;> rfl) | (simp [*,errW_none,errW_some] <;> rfl),by repeat (first | (with_reducible first | exact HB.out | apply bwA | apply bwN | apply bw1 | refine bwS ?_ GE323.out | refine bwS ?_ GE324.out) | exact HB.out)⟩
         · rw [if_neg c6] at H
           exact absurd H (by simp)
       · rw [if_neg c5] at H
         exact absurd H (by simp)
     · rw [if_neg c4] at H
       have c4b0 : decide (x5_1 < (l0.length : Int)) = false:=decide_eq_false c4;clear c4;obtain rfl:=Option.some.inj H
       go_wp2
       go_ret
       exact ⟨by first | rfl | (simp [errW_none,errW_some] <;> rfl) | (simp [*,errW_none,errW_some] <;> rfl),bmv HB.out⟩
 · rw [if_neg c3] at H
   have c3b0 : ((l0.length : Int) == (l1.length : Int)) = false:=beq_eq_false_iff_ne.mpr c3;have c3b1 : ((l0.length : Int) != (l1.length : Int)) = true:=bne_iff_ne.mpr c3
   have c3b2 : (l0.length == l1.length) = false:=by first | simpa using c3 | (simp at c3 ⊢;omega)
   obtain rfl:=Option.some.inj H
   go_enter Tryd.func17,Tryd.ntmps17
   go_wp2
   go_ret
   exact ⟨by first | rfl | (simp [errW_none,errW_some] <;> rfl) | (simp [*,errW_none,errW_some] <;> rfl),bmv HB.out⟩
end Go.Proofs.YtbblomnhobodkaaDoor.PTw
namespace Go.Proofs.YtbblomnhobodkaaDoor.PTw
open Go.RowKit Go.Proofs.YtbblomnhobodkaaDoorW.PW Go.Proofs.YtbblomnhobodkaaDoorW.PL Go.Proofs.YtbblomnhobodkaaDoorW.PM
attribute [local go_sem] max2_int min2_int max_two min_two max_three min_three max_four min_four   -- for this text's walks alone
set_option linter.unusedVariables false
set_option linter.unusedSimpArgs false
def r4Members.l0 : Nat→List (S29)→List Int→Int→Option (List Int)
 | 0,_,_,_=>none
 | k + 1,x0,x3,x4=>(r4Leaves.f x0).bind fun t469=>(if x4 < t469 then ((r4Full.f x0 x4).bind fun t470=>(if t470 = true then (if x3.length < 17592186044416 then (r4Members.l0 k x0 (x3 ++ [x4]) (wrap64 (x4 + 1))) else (none)) else (r4Members.l0 k x0 x3 (wrap64 (x4 + 1))))) else (some x3))
def r4Members.f (k : Nat) (l0 : List (S29)) : Option (List Int):=r4Members.l0 k l0 ([] : List Int) 0
theorem r4Members.mono_l : ∀ k,(∀ y0 y1 y2,LeO (r4Members.l0 k y0 y1 y2) (r4Members.l0 (k + 1) y0 y1 y2))
 | 0=>fun _ _ _ r h=>by simp [r4Members.l0] at h
 | k + 1=>by
  have ih0:=r4Members.mono_l k
  · intro y0 y1 y2
    unfold r4Members.l0
    repeat' first
    | (with_reducible exact ih0 _ _ _)
    | (with_reducible exact LeO.refl _)
    | (with_reducible exact LeO.none _)
    | (with_reducible refine LeO.ite ?_ ?_)
    | (with_reducible refine LeO.bind ?_ (fun _=>?_))
    | exact ih0 _ _ _
    | exact LeO.none _
    | refine LeO.ite ?_ ?_
    | refine LeO.bind ?_ (fun _=>?_)
theorem r4Members.mono : ∀ a0 k,LeO (r4Members.f k a0) (r4Members.f (k + 1) a0):=by
 intro a0 k;have ih0:=r4Members.mono_l k;unfold r4Members.f
 repeat' first
  | (with_reducible exact ih0 _ _ _)
  | (with_reducible exact LeO.refl _)
  | (with_reducible exact LeO.none _)
  | (with_reducible refine LeO.ite ?_ ?_)
  | (with_reducible refine LeO.bind ?_ (fun _=>?_))
  | exact ih0 _ _ _
  | exact LeO.none _
  | refine LeO.ite ?_ ?_
  | refine LeO.bind ?_ (fun _=>?_)
set_option maxHeartbeats 8000000 in
set_option maxRecDepth 100000 in
theorem r4Members.calls (k : Nat) (A0 : Option Addr) (c0 : Nat) (l0 : List (S29)) (r : List Int) (w : World) (hr0 : Kd.C k29 w A0 l0.length l0) (hc0 : l0.length≤c0) (h : r4Members.f k l0 = some r) :
 Calls Tryd.prog 27 #[.slice A0 l0.length c0] w fun e w'=>∃ v0_ : Value,e = .returned (v0_)∧Kd.R (Kd.int .i64) 3 w' w.heap.size (fun _=>True) v0_ r∧Below w.heap.size w w':=by
 have HR0:=Az.mk hr0;have HC0:=Az.mk hc0;clear hr0 hc0;have HB:=Az.mk (Below.refl w.heap.size w);have H : (r4Members.l0 k l0 ([] : List Int) 0) = some r:=h;clear h;have H':=Az.mk H;clear H
 go_enter Tryd.func27,Tryd.ntmps27
 go_wp2
 go_loopg [3,4] k (fun kq v3 v4 w'=>∃ (x3_1 : List Int) (x4_1 : Int),v4 = .int .i64 x4_1∧Az (r4Members.l0 kq l0 x3_1 x4_1 = some r)∧Az (kq≤k)∧Az (Kd.R (Kd.int .i64) 3 w' w.heap.size (fun _=>True) v3 x3_1)∧Az (Below w.heap.size w w'))
 case atStart=>exact ⟨(([] : List Int)),(0),rs_,H',⟨Nat.le_refl _⟩,⟨by first | exact Kd.R_nil _ _ _ _ _ | exact Kd.N_nil _ _ _ _ _ | exact Kd.V_nil _ _ _ _ _ | exact Kd.Q_nil _ _ _ _ _ | exact Kd.S_nil _ _ _ _ _⟩,⟨bmv HB.out⟩⟩
 case round=>
  clear H';obtain ⟨x3_1,x4_1,rfl,HA,HK1,HO_3,HB⟩:=hrel
  cases gk with
  | zero=>exact absurd HA.out (by simp [r4Members.l0])
  | succ k1=>
   have H:=HA.out;clear HA;simp only [r4Members.l0] at H;replace H:=Option.bind_eq_some_iff.mp H;obtain ⟨t469,A20,H⟩:=H;(try dsimp only at H);have A2:=Az.mk A20;clear A20
   by_cases c3 : x4_1 < t469
   · rw [if_pos c3] at H
     have c3b0 : decide (x4_1 < t469) = true:=decide_eq_true c3;clear c3;replace H:=Option.bind_eq_some_iff.mp H;obtain ⟨t470,A40,H⟩:=H;(try dsimp only at H);have A4:=Az.mk A40;clear A40
     by_cases c5 : t470 = true
     · subst c5
       rw [if_pos rfl] at H
       by_cases c6 : x3_1.length < 17592186044416
       · rw [if_pos c6] at H
         have LMc6:=Az.mk c6;clear c6
         obtain ⟨y471,hy471⟩ : ∃ y_ : List Int,y_ = (x3_1 ++ [x4_1]):=⟨_,rfl⟩
         replace H : (r4Members.l0 k1 l0 y471 (wrap64 (x4_1 + 1))) = some r:=by first | (rw [hy471];with_reducible exact H) | (have H2_:=(Option.bind_some _ _).symm.trans H;rw [hy471];with_reducible exact H2_) | (have H2_:=(Option.bind_some _ _).symm.trans H;with_reducible exact H2_) | with_reducible exact H | (rw [hy471];exact H) | exact H
         have Ny471:=Az.mk hy471;clear hy471;have H':=Az.mk H;clear H
         go_wp2_with (first | ((with_reducible refine gate_callee (f:=21) rfl ?_);refine goesL_ (some 7) rfl rfl Tryd.func21 (by kernel_rfl) rfl #[.slice A0 l0.length c0] rfl tl_ ?_;(with_reducible refine (r4Leaves.calls _ _ l0 t469 _ ?side1 ?side2 A2.out).mono ?_);(case side1=>exact C_mv ((Kd.C_below HR0.out HB.out)));(case side2=>exact HC0.out);rintro e w' ⟨rfl,⟨nd,rfl⟩⟩;refine ⟨_,rfl,?_⟩) | ((with_reducible refine gate_callee (f:=22) rfl ?_);refine goesL_ (some 13) rfl rfl Tryd.func22 (by kernel_rfl) rfl #[.slice A0 l0.length c0,.int .i64 x4_1] rfl tl_ ?_;(with_reducible refine (r4Full.calls _ _ l0 x4_1 true _ ?side1 ?side2 A4.out).mono ?_);(case side1=>exact C_mv ((Kd.C_below HR0.out HB.out)));(case side2=>exact HC0.out);rintro e w' ⟨rfl,⟨nd,rfl⟩⟩;refine ⟨_,rfl,?_⟩) | ((with_reducible refine gate_builtin (b:=.append) (xs:=#[.tmp 14,.tmp 16]) rfl ?_);at_builtin;refine Kd.R_append (Kd.int .i64) (w0:=w) w.heap.size rfl (.tmp 14) (.tmp 16) 27 3 (.int .i64 0) 8 rfl Tryd.underlying27 info3 rfl (by decide) (by omega) u3 x3_1 x4_1 [.int .i64 x4_1] (fun _=>True) (fun _=>False) rfl rfl ?aP (fun _ hk=>hk.elim) ?aF ?aO ?aB ?aS ?aL ?_;(case aP=>exact rfl);(case aB=>exact (bmv HB.out));(case aF=>exact (fun _ _=>trivial));(case aO=>exact (R_mv HO_3.out));(case aS=>exact (bwZ (bmv HB.out)));(case aL=>have:=LMc6.out;omega);intro v472 w7 ho hb hg hat;rw [← Ny471.out] at ho;have n0_:=Az.mk (hb);have n1_:=Az.mk (ho);clear HB;clear HO_3;have HB:=n0_;have HO473:=n1_;clear n0_ n1_;clear ho hb hg hat))
         go_roundg k1
         case measure=>have:=HK1.out;omega
         case rel=>exact ⟨(y471),(wrap64 (x4_1 + 1)),rs_,H',⟨by have:=HK1.out;omega⟩,⟨R_mv HO473.out⟩,⟨bmv HB.out⟩⟩
       · rw [if_neg c6] at H
         exact absurd H (by simp)
     · replace c5:=Bool.eq_false_iff.mpr c5
       subst c5;rw [if_neg (show ¬ (false = true) by decide)] at H;have H':=Az.mk H;clear H
       go_wp2_with (first | ((with_reducible refine gate_callee (f:=21) rfl ?_);refine goesL_ (some 7) rfl rfl Tryd.func21 (by kernel_rfl) rfl #[.slice A0 l0.length c0] rfl tl_ ?_;(with_reducible refine (r4Leaves.calls _ _ l0 t469 _ ?side1 ?side2 A2.out).mono ?_);(case side1=>exact C_mv ((Kd.C_below HR0.out HB.out)));(case side2=>exact HC0.out);rintro e w' ⟨rfl,⟨nd,rfl⟩⟩;refine ⟨_,rfl,?_⟩) | ((with_reducible refine gate_callee (f:=22) rfl ?_);refine goesL_ (some 13) rfl rfl Tryd.func22 (by kernel_rfl) rfl #[.slice A0 l0.length c0,.int .i64 x4_1] rfl tl_ ?_;(with_reducible refine (r4Full.calls _ _ l0 x4_1 false _ ?side1 ?side2 A4.out).mono ?_);(case side1=>exact C_mv ((Kd.C_below HR0.out HB.out)));(case side2=>exact HC0.out);rintro e w' ⟨rfl,⟨nd,rfl⟩⟩;refine ⟨_,rfl,?_⟩))
       go_roundg k1
       case measure=>have:=HK1.out;omega
       case rel=>exact ⟨(x3_1),(wrap64 (x4_1 + 1)),rs_,H',⟨by have:=HK1.out;omega⟩,⟨R_mv HO_3.out⟩,⟨bmv HB.out⟩⟩
   · rw [if_neg c3] at H
     have c3b0 : decide (x4_1 < t469) = false:=decide_eq_false c3;clear c3;obtain rfl:=Option.some.inj H
     go_wp2_with (first | ((with_reducible refine gate_callee (f:=21) rfl ?_);refine goesL_ (some 7) rfl rfl Tryd.func21 (by kernel_rfl) rfl #[.slice A0 l0.length c0] rfl tl_ ?_;(with_reducible refine (r4Leaves.calls _ _ l0 t469 _ ?side1 ?side2 A2.out).mono ?_);(case side1=>exact C_mv ((Kd.C_below HR0.out HB.out)));(case side2=>exact HC0.out);rintro e w' ⟨rfl,⟨nd,rfl⟩⟩;refine ⟨_,rfl,?_⟩))
     go_ret
     exact ⟨_,by first | rfl | (simp [errW_none,errW_some] <;> rfl) | (simp [*,errW_none,errW_some] <;> rfl),R_mv HO_3.out,bmv HB.out⟩
def r4Leaf.f (a0_0 : Bool) (a0_1 : Int) (a0_2 : Int) (a0_3 : Int) (a0_4 : Int) (l0_5 : List Int) : Option (Bool × Int × Int × Int × Int × List Int):=some (true,a0_1,a0_2,a0_3,a0_4,([] : List Int))
set_option maxHeartbeats 8000000 in
set_option maxRecDepth 100000 in
theorem r4Leaf.calls (a0_0 : Bool) (a0_1 : Int) (a0_2 : Int) (a0_3 : Int) (a0_4 : Int) (A0_5 : Option Addr) (c0_5 : Nat) (l0_5 : List Int) (r1 : Bool) (r2 : Int) (r3 : Int) (r4 : Int) (r5 : Int) (r6 : List Int) (w : World) (hr0_5 : Kd.C (Kd.int .i64) w A0_5 l0_5.length l0_5) (hc0_5 : l0_5.length≤c0_5) (h : r4Leaf.f a0_0 a0_1 a0_2 a0_3 a0_4 l0_5 = some (r1,r2,r3,r4,r5,r6)) :
 Calls Tryd.prog 35 #[.agg #[.bool a0_0,.int .i64 a0_1,.int .i64 a0_2,.int .i64 a0_3,.int .i64 a0_4,.slice A0_5 l0_5.length c0_5]] w fun e w'=>∃ v5_ : Value,e = .returned (.agg #[.bool r1,.int .i64 r2,.int .i64 r3,.int .i64 r4,.int .i64 r5,v5_])∧Kd.R (Kd.int .i64) 3 w' w.heap.size (fun _=>True) v5_ r6∧Below w.heap.size w w':=by
 have hu29:=Tryd.underlying29;have HR0_5:=Az.mk hr0_5;have HC0_5:=Az.mk hc0_5;clear hr0_5 hc0_5;have HB:=Az.mk (Below.refl w.heap.size w);have H : (some (true,a0_1,a0_2,a0_3,a0_4,([] : List Int))) = some (r1,r2,r3,r4,r5,r6):=h;clear h;simp only [Option.some.injEq,Prod.mk.injEq] at H;obtain ⟨rfl,rfl,rfl,rfl,rfl,rfl⟩:=H
 go_enter Tryd.func35,Tryd.ntmps35
 go_wp2_with (first | ((with_reducible refine gate_dst (N:=1) rfl ?_);refine box_event ?hg (N:=1) ?hd (cs:=#[.bool a0_0,.int .i64 a0_1,.int .i64 a0_2,.int .i64 a0_3,.int .i64 a0_4,.slice A0_5 l0_5.length c0_5]) (t:=29) ?hr ?_;(case hd=>rfl);(case hg=>rfl);(case hr=>exact gr_);intro gb333 hg w2 hbox hb;have BK333:=Az.mk (hbox);have GW333:=Az.mk ((by rw [hg];exact (bwZ (bmv HB.out)) : w.heap.size≤gb333));have GE333:=Az.mk ((by rw [hg];exact (bwZ (bmv HB.out)) : w.heap.size≤gb333));replace HB:=Az.mk (bwT (bmv HB.out) hb);clear hb hbox hg) | ((with_reducible refine gate_dst (N:=2) rfl ?_);refine box_event ?hg (N:=2) ?hd (cs:=#[.bool false,.int .i64 0,.int .i64 0,.int .i64 0,.int .i64 0,.slice none 0 0]) (t:=29) ?hr ?_;(case hd=>rfl);(case hg=>rfl);(case hr=>exact gr_);intro gb334 hg w3 hbox hb;have BK334:=Az.mk (hbox);have GW334:=Az.mk ((by rw [hg];exact (bwZ (by repeat (with_reducible first | exact bmv HB.out | refine bwS ?_ GE333.out))) : w.heap.size≤gb334));have GE334:=Az.mk ((by rw [hg];exact (bwZ (by repeat (with_reducible first | exact bmv HB.out | refine bwS ?_ GE333.out))) : w.heap.size≤gb334));have NB333_334:=Az.mk ((by rw [hg];exact Nat.ne_of_lt (blk_lt (g:=gb333) (o:=.cells #[.bool a0_0,.int .i64 a0_1,.int .i64 a0_2,.int .i64 a0_3,.int .i64 a0_4,.slice A0_5 l0_5.length c0_5] 29 (0,0)) (blk_mv BK333.out)) : gb333≠gb334));have NB334_333:=Az.mk ((by rw [hg];exact Nat.ne_of_gt (blk_lt (g:=gb333) (o:=.cells #[.bool a0_0,.int .i64 a0_1,.int .i64 a0_2,.int .i64 a0_3,.int .i64 a0_4,.slice A0_5 l0_5.length c0_5] 29 (0,0)) (blk_mv BK333.out)) : gb334≠gb333));replace BK333:=Az.mk (kB (blk_mv BK333.out) hb);replace HB:=Az.mk (bwT (by repeat (with_reducible first | exact bmv HB.out | refine bwS ?_ GE333.out)) hb);clear hb hbox hg;have hnb4:=NB333_334.out;have hnc4:=NB334_333.out;obtain ⟨⟨hcz5_0,hcz5_1,hcz5_2,hcz5_3,hcz5_4,hcz5_5⟩,hfz5_0,hfz5_1,hfz5_2,hfz5_3,hfz5_4,hfz5_5⟩:=cells6 BK333.out;obtain ⟨⟨hcz6_0,hcz6_1,hcz6_2,hcz6_3,hcz6_4,hcz6_5⟩,hfz6_0,hfz6_1,hfz6_2,hfz6_3,hfz6_4,hfz6_5⟩:=cells6 BK334.out))
 refine bodyPost_ret (results_cell_row rfl _ _ gb334 29 #[.bool true,.int .i64 a0_1,.int .i64 a0_2,.int .i64 a0_3,.int .i64 a0_4,.slice none 0 0] (0,0) _ rfl (by (with_reducible repeat (first | refine kN ?_ _ | refine kD ?_ | refine kA ?_ _));refine blk_put (cs:=#[.bool true,.int .i64 a0_1,.int .i64 a0_2,.int .i64 a0_3,.int .i64 a0_4,.slice none 0 0]) ?_ 5 _ rfl;(with_reducible repeat (first | refine kN ?_ _ | refine kD ?_ | refine kA ?_ _));refine blk_put (cs:=#[.bool true,.int .i64 a0_1,.int .i64 a0_2,.int .i64 a0_3,.int .i64 0,.slice none 0 0]) ?_ 4 _ rfl;(with_reducible repeat (first | refine kN ?_ _ | refine kD ?_ | refine kA ?_ _));refine blk_put (cs:=#[.bool true,.int .i64 a0_1,.int .i64 a0_2,.int .i64 0,.int .i64 0,.slice none 0 0]) ?_ 3 _ rfl;(with_reducible repeat (first | refine kN ?_ _ | refine kD ?_ | refine kA ?_ _));refine blk_put (cs:=#[.bool true,.int .i64 a0_1,.int .i64 0,.int .i64 0,.int .i64 0,.slice none 0 0]) ?_ 2 _ rfl;(with_reducible repeat (first | refine kN ?_ _ | refine kD ?_ | refine kA ?_ _));refine blk_put (cs:=#[.bool true,.int .i64 0,.int .i64 0,.int .i64 0,.int .i64 0,.slice none 0 0]) ?_ 1 _ rfl;(with_reducible repeat (first | refine kN ?_ _ | refine kD ?_ | refine kA ?_ _));refine blk_put (cs:=#[.bool false,.int .i64 0,.int .i64 0,.int .i64 0,.int .i64 0,.slice none 0 0]) ?_ 0 _ rfl;(with_reducible repeat (first | refine kN ?_ _ | refine kD ?_ | refine kA ?_ _));exact BK334.out) Tryd.underlying29 rfl (by kernel_rfl)) rfl ?_;exact ⟨_,by first | rfl | (simp [errW_none,errW_some] <;> rfl) | (simp [*,errW_none,errW_some] <;> rfl),by first | exact Kd.R_nil _ _ _ _ _ | exact Kd.N_nil _ _ _ _ _ | exact Kd.V_nil _ _ _ _ _ | exact Kd.Q_nil _ _ _ _ _ | exact Kd.S_nil _ _ _ _ _,by repeat (with_reducible first | exact bmv HB.out | refine bwS ?_ GE333.out | refine bwS ?_ GE334.out)⟩
set_option maxHeartbeats 8000000 in
set_option maxRecDepth 100000 in
theorem r4Leaf.nil (a0_0 : Bool) (a0_1 : Int) (a0_2 : Int) (a0_3 : Int) (a0_4 : Int) (A0_5 : Option Addr) (c0_5 : Nat) (l0_5 : List Int) (w : World) (hr0_5 : Kd.C (Kd.int .i64) w A0_5 l0_5.length l0_5) (hc0_5 : l0_5.length≤c0_5) :
 Calls Tryd.prog 35 #[.agg #[.bool a0_0,.int .i64 a0_1,.int .i64 a0_2,.int .i64 a0_3,.int .i64 a0_4,.slice A0_5 l0_5.length c0_5]] w fun e w'=>e = .returned (.agg #[.bool true,.int .i64 a0_1,.int .i64 a0_2,.int .i64 a0_3,.int .i64 a0_4,.slice none 0 0])∧Below w.heap.size w w':=by
 have hu29:=Tryd.underlying29;have HR0_5:=Az.mk hr0_5;have HC0_5:=Az.mk hc0_5;clear hr0_5 hc0_5;have HB:=Az.mk (Below.refl w.heap.size w)
 go_enter Tryd.func35,Tryd.ntmps35
 go_wp2_with (first | ((with_reducible refine gate_dst (N:=1) rfl ?_);refine box_event ?hg (N:=1) ?hd (cs:=#[.bool a0_0,.int .i64 a0_1,.int .i64 a0_2,.int .i64 a0_3,.int .i64 a0_4,.slice A0_5 l0_5.length c0_5]) (t:=29) ?hr ?_;(case hd=>rfl);(case hg=>rfl);(case hr=>exact gr_);intro gb333 hg w2 hbox hb;have BK333:=Az.mk (hbox);have GW333:=Az.mk ((by rw [hg];exact (bwZ (bmv HB.out)) : w.heap.size≤gb333));have GE333:=Az.mk ((by rw [hg];exact (bwZ (bmv HB.out)) : w.heap.size≤gb333));replace HB:=Az.mk (bwT (bmv HB.out) hb);clear hb hbox hg) | ((with_reducible refine gate_dst (N:=2) rfl ?_);refine box_event ?hg (N:=2) ?hd (cs:=#[.bool false,.int .i64 0,.int .i64 0,.int .i64 0,.int .i64 0,.slice none 0 0]) (t:=29) ?hr ?_;(case hd=>rfl);(case hg=>rfl);(case hr=>exact gr_);intro gb334 hg w3 hbox hb;have BK334:=Az.mk (hbox);have GW334:=Az.mk ((by rw [hg];exact (bwZ (by repeat (with_reducible first | exact bmv HB.out | refine bwS ?_ GE333.out))) : w.heap.size≤gb334));have GE334:=Az.mk ((by rw [hg];exact (bwZ (by repeat (with_reducible first | exact bmv HB.out | refine bwS ?_ GE333.out))) : w.heap.size≤gb334));have NB333_334:=Az.mk ((by rw [hg];exact Nat.ne_of_lt (blk_lt (g:=gb333) (o:=.cells #[.bool a0_0,.int .i64 a0_1,.int .i64 a0_2,.int .i64 a0_3,.int .i64 a0_4,.slice A0_5 l0_5.length c0_5] 29 (0,0)) (blk_mv BK333.out)) : gb333≠gb334));have NB334_333:=Az.mk ((by rw [hg];exact Nat.ne_of_gt (blk_lt (g:=gb333) (o:=.cells #[.bool a0_0,.int .i64 a0_1,.int .i64 a0_2,.int .i64 a0_3,.int .i64 a0_4,.slice A0_5 l0_5.length c0_5] 29 (0,0)) (blk_mv BK333.out)) : gb334≠gb333));replace BK333:=Az.mk (kB (blk_mv BK333.out) hb);replace HB:=Az.mk (bwT (by repeat (with_reducible first | exact bmv HB.out | refine bwS ?_ GE333.out)) hb);clear hb hbox hg;have hnb4:=NB333_334.out;have hnc4:=NB334_333.out;obtain ⟨⟨hcz5_0,hcz5_1,hcz5_2,hcz5_3,hcz5_4,hcz5_5⟩,hfz5_0,hfz5_1,hfz5_2,hfz5_3,hfz5_4,hfz5_5⟩:=cells6 BK333.out;obtain ⟨⟨hcz6_0,hcz6_1,hcz6_2,hcz6_3,hcz6_4,hcz6_5⟩,hfz6_0,hfz6_1,hfz6_2,hfz6_3,hfz6_4,hfz6_5⟩:=cells6 BK334.out))
 refine bodyPost_ret (results_cell_row rfl _ _ gb334 29 #[.bool true,.int .i64 a0_1,.int .i64 a0_2,.int .i64 a0_3,.int .i64 a0_4,.slice none 0 0] (0,0) _ rfl (by (with_reducible repeat (first | refine kN ?_ _ | refine kD ?_ | refine kA ?_ _));refine blk_put (cs:=#[.bool true,.int .i64 a0_1,.int .i64 a0_2,.int .i64 a0_3,.int .i64 a0_4,.slice none 0 0]) ?_ 5 _ rfl;(with_reducible repeat (first | refine kN ?_ _ | refine kD ?_ | refine kA ?_ _));refine blk_put (cs:=#[.bool true,.int .i64 a0_1,.int .i64 a0_2,.int .i64 a0_3,.int .i64 0,.slice none 0 0]) ?_ 4 _ rfl;(with_reducible repeat (first | refine kN ?_ _ | refine kD ?_ | refine kA ?_ _));refine blk_put (cs:=#[.bool true,.int .i64 a0_1,.int .i64 a0_2,.int .i64 0,.int .i64 0,.slice none 0 0]) ?_ 3 _ rfl;(with_reducible repeat (first | refine kN ?_ _ | refine kD ?_ | refine kA ?_ _));refine blk_put (cs:=#[.bool true,.int .i64 a0_1,.int .i64 0,.int .i64 0,.int .i64 0,.slice none 0 0]) ?_ 2 _ rfl;(with_reducible repeat (first | refine kN ?_ _ | refine kD ?_ | refine kA ?_ _));refine blk_put (cs:=#[.bool true,.int .i64 0,.int .i64 0,.int .i64 0,.int .i64 0,.slice none 0 0]) ?_ 1 _ rfl;(with_reducible repeat (first | refine kN ?_ _ | refine kD ?_ | refine kA ?_ _));refine blk_put (cs:=#[.bool false,.int .i64 0,.int .i64 0,.int .i64 0,.int .i64 0,.slice none 0 0]) ?_ 0 _ rfl;(with_reducible repeat (first | refine kN ?_ _ | refine kD ?_ | refine kA ?_ _));exact BK334.out) Tryd.underlying29 rfl (by kernel_rfl)) rfl ?_;exact ⟨rfl,by repeat (with_reducible first | exact bmv HB.out | refine bwS ?_ GE333.out | refine bwS ?_ GE334.out)⟩
def r4with.l0 : Nat→List Int→Int→List Int→Bool→Int→Option (List Int)
 | 0,_,_,_,_,_=>none
 | k + 1,x0,x1,x5,x6,x7=>if x7 < (x0.length : Int) then (if x6 = true then (if 0≤x7 then (if x5.length < 17592186044416 then (r4with.l0 k x0 x1 (x5 ++ [rd x0 x7]) x6 (wrap64 (x7 + 1))) else (none)) else (none)) else (if 0≤x7 then (if (rd x0 x7) > x1 then (if x5.length < 17592186044416 then ((some (x5 ++ [x1] : List Int)).bind fun y340=>(if y340.length < 17592186044416 then (r4with.l0 k x0 x1 (y340 ++ [rd x0 x7]) true (wrap64 (x7 + 1))) else (none))) else (none)) else (if x5.length < 17592186044416 then (r4with.l0 k x0 x1 (x5 ++ [rd x0 x7]) x6 (wrap64 (x7 + 1))) else (none))) else (none))) else (if x6 = true then (some x5) else (if x5.length < 17592186044416 then (some (x5 ++ [x1])) else (none)))
def r4with.f (k : Nat) (l0 : List Int) (a1 : Int) : Option (List Int):=r4with.l0 k l0 a1 ([] : List Int) false 0
theorem r4with.mono_l : ∀ k,(∀ y0 y1 y2 y3 y4,LeO (r4with.l0 k y0 y1 y2 y3 y4) (r4with.l0 (k + 1) y0 y1 y2 y3 y4))
 | 0=>fun _ _ _ _ _ r h=>by simp [r4with.l0] at h
 | k + 1=>by
  have ih0:=r4with.mono_l k
  · intro y0 y1 y2 y3 y4
    unfold r4with.l0
    repeat' first
    | (with_reducible exact ih0 _ _ _ _ _)
    | (with_reducible exact LeO.refl _)
    | (with_reducible exact LeO.none _)
    | (with_reducible refine LeO.ite ?_ ?_)
    | (with_reducible refine LeO.bind ?_ (fun _=>?_))
    | exact ih0 _ _ _ _ _
    | exact LeO.none _
    | refine LeO.ite ?_ ?_
    | refine LeO.bind ?_ (fun _=>?_)
theorem r4with.mono : ∀ a0 a1 k,LeO (r4with.f k a0 a1) (r4with.f (k + 1) a0 a1):=by
 intro a0 a1 k;have ih0:=r4with.mono_l k;unfold r4with.f
 repeat' first
  | (with_reducible exact ih0 _ _ _ _ _)
  | (with_reducible exact LeO.refl _)
  | (with_reducible exact LeO.none _)
  | (with_reducible refine LeO.ite ?_ ?_)
  | (with_reducible refine LeO.bind ?_ (fun _=>?_))
  | exact ih0 _ _ _ _ _
  | exact LeO.none _
  | refine LeO.ite ?_ ?_
  | refine LeO.bind ?_ (fun _=>?_)
set_option maxHeartbeats 8000000 in
set_option maxRecDepth 100000 in
theorem r4with.calls (k : Nat) (A0 : Option Addr) (c0 : Nat) (l0 : List Int) (a1 : Int) (r : List Int) (w : World) (hr0 : Kd.C (Kd.int .i64) w A0 l0.length l0) (hc0 : l0.length≤c0) (h : r4with.f k l0 a1 = some r) :
 Calls Tryd.prog 55 #[.slice A0 l0.length c0,.int .i64 a1] w fun e w'=>∃ v0_ : Value,e = .returned (v0_)∧Kd.R (Kd.int .i64) 3 w' w.heap.size (fun _=>True) v0_ r∧Below w.heap.size w w':=by
 have HR0:=Az.mk hr0;have HC0:=Az.mk hc0;clear hr0 hc0;have HB:=Az.mk (Below.refl w.heap.size w);have H : (r4with.l0 k l0 a1 ([] : List Int) false 0) = some r:=h;clear h;have H':=Az.mk H;clear H
 go_enter Tryd.func55,Tryd.ntmps55
 go_wp2
 go_loopg [5,6,7] k (fun kq v5 v6 v7 w'=>∃ (x5_1 : List Int) (x6_1 : Bool) (x7_1 : Int),v6 = .bool x6_1∧v7 = .int .i64 x7_1∧Az (r4with.l0 kq l0 a1 x5_1 x6_1 x7_1 = some r)∧Az (kq≤k)∧Az (Kd.R (Kd.int .i64) 3 w' w.heap.size (fun _=>True) v5 x5_1)∧Az (Below w.heap.size w w'))
 case atStart=>exact ⟨(([] : List Int)),(false),(0),rs_,rs_,H',⟨Nat.le_refl _⟩,⟨by first | exact Kd.R_nil _ _ _ _ _ | exact Kd.N_nil _ _ _ _ _ | exact Kd.V_nil _ _ _ _ _ | exact Kd.Q_nil _ _ _ _ _ | exact Kd.S_nil _ _ _ _ _⟩,⟨bmv HB.out⟩⟩
 case round=>
  clear H';obtain ⟨x5_1,x6_1,x7_1,rfl,rfl,HA,HK1,HO_5,HB⟩:=hrel
  cases gk with
  | zero=>exact absurd HA.out (by simp [r4with.l0])
  | succ k1=>
   have H:=HA.out;clear HA;simp only [r4with.l0] at H
   by_cases c3 : x7_1 < (l0.length : Int)
   · rw [if_pos c3] at H
     have c3b0 : decide (x7_1 < (l0.length : Int)) = true:=decide_eq_true c3;clear c3
     by_cases c4 : x6_1 = true
     · subst c4
       rw [if_pos rfl] at H
       by_cases c5 : 0≤x7_1
       · rw [if_pos c5] at H
         have c5b0 : decide (0≤x7_1) = true:=decide_eq_true c5;clear c5
         by_cases c6 : x5_1.length < 17592186044416
         · rw [if_pos c6] at H
           have LMc6:=Az.mk c6;clear c6
           obtain ⟨y336,hy336⟩ : ∃ y_ : List Int,y_ = (x5_1 ++ [rd l0 x7_1]):=⟨_,rfl⟩
           replace H : (r4with.l0 k1 l0 a1 y336 true (wrap64 (x7_1 + 1))) = some r:=by first | (rw [hy336];with_reducible exact H) | (have H2_:=(Option.bind_some _ _).symm.trans H;rw [hy336];with_reducible exact H2_) | (have H2_:=(Option.bind_some _ _).symm.trans H;with_reducible exact H2_) | with_reducible exact H | (rw [hy336];exact H) | exact H
           have Ny336:=Az.mk hy336;clear hy336;have H':=Az.mk H;clear H;have p335 : 0≤(x7_1 : Int):=dt_;have q335 : x7_1 < (l0.length : Int):=dt_;obtain ⟨ad335,e335,hx335_0⟩:=Kd.at_int HR0.out x7_1 p335 q335;cases e335;replace hx335_0:=hbc HB.out hx335_0;replace p335:=eq_true p335;replace q335:=eq_true q335
           go_wp2_with (first | ((with_reducible refine gate_builtin (b:=.append) (xs:=#[.tmp 28,.tmp 33]) rfl ?_);at_builtin;refine Kd.R_append (Kd.int .i64) (w0:=w) w.heap.size rfl (.tmp 28) (.tmp 33) 27 3 (.int .i64 0) 8 rfl Tryd.underlying27 info3 rfl (by decide) (by omega) u5 x5_1 (rd l0 x7_1) [.int .i64 (rd l0 x7_1)] (fun _=>True) (fun _=>False) rfl rfl ?aP (fun _ hk=>hk.elim) ?aF ?aO ?aB ?aS ?aL ?_;(case aP=>exact rfl);(case aB=>exact (bmv HB.out));(case aF=>exact (fun _ _=>trivial));(case aO=>exact (R_mv HO_5.out));(case aS=>exact (bwZ (bmv HB.out)));(case aL=>have:=LMc6.out;omega);intro v337 w7 ho hb hg hat;rw [← Ny336.out] at ho;have HO338:=Az.mk (ho);replace HB:=Az.mk (hb);clear HO_5;clear ho hb hg hat))
           go_roundg k1
           case measure=>have:=HK1.out;omega
           case rel=>exact ⟨(y336),(true),(wrap64 (x7_1 + 1)),rs_,rs_,H',⟨by have:=HK1.out;omega⟩,⟨R_mv HO338.out⟩,⟨bmv HB.out⟩⟩
         · rw [if_neg c6] at H
           exact absurd H (by simp)
       · rw [if_neg c5] at H
         exact absurd H (by simp)
     · replace c4:=Bool.eq_false_iff.mpr c4
       subst c4;rw [if_neg (show ¬ (false = true) by decide)] at H
       by_cases c8 : 0≤x7_1
       · rw [if_pos c8] at H
         have c8b0 : decide (0≤x7_1) = true:=decide_eq_true c8;clear c8
         by_cases c9 : (rd l0 x7_1) > a1
         · rw [if_pos c9] at H
           have c9b0 : decide (a1 < (rd l0 x7_1)) = true:=decide_eq_true c9;clear c9
           by_cases c10 : x5_1.length < 17592186044416
           · rw [if_pos c10] at H
             have LMc10:=Az.mk c10;clear c10
             obtain ⟨y340,hy340⟩ : ∃ y_ : List Int,y_ = (x5_1 ++ [a1]):=⟨_,rfl⟩
             replace H : (if y340.length < 17592186044416 then (r4with.l0 k1 l0 a1 (y340 ++ [rd l0 x7_1]) true (wrap64 (x7_1 + 1))) else (none)) = some r:=by first | (rw [hy340];with_reducible exact H) | (have H2_:=(Option.bind_some _ _).symm.trans H;rw [hy340];with_reducible exact H2_) | (have H2_:=(Option.bind_some _ _).symm.trans H;with_reducible exact H2_) | with_reducible exact H | (rw [hy340];exact H) | exact H
             have Ny340:=Az.mk hy340;clear hy340
             by_cases c11 : y340.length < 17592186044416
             · rw [if_pos c11] at H
               have LMc11:=Az.mk c11;clear c11
               obtain ⟨y344,hy344⟩ : ∃ y_ : List Int,y_ = (y340 ++ [rd l0 x7_1]):=⟨_,rfl⟩
               replace H : (r4with.l0 k1 l0 a1 y344 true (wrap64 (x7_1 + 1))) = some r:=by first | (rw [hy344];with_reducible exact H) | (have H2_:=(Option.bind_some _ _).symm.trans H;rw [hy344];with_reducible exact H2_) | (have H2_:=(Option.bind_some _ _).symm.trans H;with_reducible exact H2_) | with_reducible exact H | (rw [hy344];exact H) | exact H
               have Ny344:=Az.mk hy344;clear hy344;have H':=Az.mk H;clear H;have p339 : 0≤(x7_1 : Int):=dt_;have q339 : x7_1 < (l0.length : Int):=dt_;obtain ⟨ad339,e339,hx339_0⟩:=Kd.at_int HR0.out x7_1 p339 q339;cases e339;replace hx339_0:=hbc HB.out hx339_0;replace p339:=eq_true p339;replace q339:=eq_true q339
               go_wp2_with (first | ((with_reducible refine gate_builtin (b:=.append) (xs:=#[.tmp 24,.tmp 26]) rfl ?_);at_builtin;refine Kd.R_append (Kd.int .i64) (w0:=w) w.heap.size rfl (.tmp 24) (.tmp 26) 27 3 (.int .i64 0) 8 rfl Tryd.underlying27 info3 rfl (by decide) (by omega) u5 x5_1 a1 [.int .i64 a1] (fun _=>True) (fun _=>False) rfl rfl ?aP (fun _ hk=>hk.elim) ?aF ?aO ?aB ?aS ?aL ?_;(case aP=>exact rfl);(case aB=>exact (bmv HB.out));(case aF=>exact (fun _ _=>trivial));(case aO=>exact (R_mv HO_5.out));(case aS=>exact (bwZ (bmv HB.out)));(case aL=>have:=LMc10.out;omega);intro v341 w12 ho hb hg hat;rw [← Ny340.out] at ho;have HO342:=Az.mk (ho);replace HB:=Az.mk (hb);clear HO_5;clear ho hb hg hat;have p343 : 0≤(x7_1 : Int):=dt_;have q343 : x7_1 < (l0.length : Int):=dt_;obtain ⟨ad343,e343,hx343_0⟩:=Kd.at_int HR0.out x7_1 p343 q343;obtain rfl : ad339 = ad343:=(by injection e343);replace hx343_0:=hbc HB.out hx343_0;replace p343:=eq_true p343;replace q343:=eq_true q343) | ((with_reducible refine gate_builtin (b:=.append) (xs:=#[.tmp 28,.tmp 33]) rfl ?_);at_builtin;refine Kd.R_append (Kd.int .i64) (w0:=w) w.heap.size rfl (.tmp 28) (.tmp 33) 27 3 (.int .i64 0) 8 rfl Tryd.underlying27 info3 rfl (by decide) (by omega) v341 y340 (rd l0 x7_1) [.int .i64 (rd l0 x7_1)] (fun _=>True) (fun _=>False) rfl rfl ?aP (fun _ hk=>hk.elim) ?aF ?aO ?aB ?aS ?aL ?_;(case aP=>exact rfl);(case aB=>exact (bmv HB.out));(case aF=>exact (fun _ _=>trivial));(case aO=>exact (R_mv HO342.out));(case aS=>exact (bwZ (bmv HB.out)));(case aL=>have:=LMc11.out;omega);intro v345 w13 ho hb hg hat;rw [← Ny344.out] at ho;have HO346:=Az.mk (ho);replace HB:=Az.mk (hb);clear HO342;clear ho hb hg hat))
               go_roundg k1
               case measure=>have:=HK1.out;omega
               case rel=>exact ⟨(y344),(true),(wrap64 (x7_1 + 1)),rs_,rs_,H',⟨by have:=HK1.out;omega⟩,⟨R_mv HO346.out⟩,⟨bmv HB.out⟩⟩
             · rw [if_neg c11] at H
               exact absurd H (by simp)
           · rw [if_neg c10] at H
             exact absurd H (by simp)
         · rw [if_neg c9] at H
           have c9b0 : decide (a1 < (rd l0 x7_1)) = false:=decide_eq_false c9;clear c9
           by_cases c14 : x5_1.length < 17592186044416
           · rw [if_pos c14] at H
             have LMc14:=Az.mk c14;clear c14
             obtain ⟨y348,hy348⟩ : ∃ y_ : List Int,y_ = (x5_1 ++ [rd l0 x7_1]):=⟨_,rfl⟩
             replace H : (r4with.l0 k1 l0 a1 y348 false (wrap64 (x7_1 + 1))) = some r:=by first | (rw [hy348];with_reducible exact H) | (have H2_:=(Option.bind_some _ _).symm.trans H;rw [hy348];with_reducible exact H2_) | (have H2_:=(Option.bind_some _ _).symm.trans H;with_reducible exact H2_) | with_reducible exact H | (rw [hy348];exact H) | exact H
             have Ny348:=Az.mk hy348;clear hy348;have H':=Az.mk H;clear H;have p339 : 0≤(x7_1 : Int):=dt_;have q339 : x7_1 < (l0.length : Int):=dt_;obtain ⟨ad339,e339,hx339_0⟩:=Kd.at_int HR0.out x7_1 p339 q339;cases e339;replace hx339_0:=hbc HB.out hx339_0;replace p339:=eq_true p339;replace q339:=eq_true q339;have p347 : 0≤(x7_1 : Int):=dt_;have q347 : x7_1 < (l0.length : Int):=dt_;obtain ⟨ad347,e347,hx347_0⟩:=Kd.at_int HR0.out x7_1 p347 q347;obtain rfl : ad339 = ad347:=(by injection e347);replace hx347_0:=hbc HB.out hx347_0;replace p347:=eq_true p347;replace q347:=eq_true q347
             go_wp2_with (first | ((with_reducible refine gate_builtin (b:=.append) (xs:=#[.tmp 28,.tmp 33]) rfl ?_);at_builtin;refine Kd.R_append (Kd.int .i64) (w0:=w) w.heap.size rfl (.tmp 28) (.tmp 33) 27 3 (.int .i64 0) 8 rfl Tryd.underlying27 info3 rfl (by decide) (by omega) u5 x5_1 (rd l0 x7_1) [.int .i64 (rd l0 x7_1)] (fun _=>True) (fun _=>False) rfl rfl ?aP (fun _ hk=>hk.elim) ?aF ?aO ?aB ?aS ?aL ?_;(case aP=>exact rfl);(case aB=>exact (bmv HB.out));(case aF=>exact (fun _ _=>trivial));(case aO=>exact (R_mv HO_5.out));(case aS=>exact (bwZ (bmv HB.out)));(case aL=>have:=LMc14.out;omega);intro v349 w15 ho hb hg hat;rw [← Ny348.out] at ho;have HO350:=Az.mk (ho);replace HB:=Az.mk (hb);clear HO_5;clear ho hb hg hat))
             go_roundg k1
             case measure=>have:=HK1.out;omega
             case rel=>exact ⟨(y348),(false),(wrap64 (x7_1 + 1)),rs_,rs_,H',⟨by have:=HK1.out;omega⟩,⟨R_mv HO350.out⟩,⟨bmv HB.out⟩⟩
           · rw [if_neg c14] at H
             exact absurd H (by simp)
       · rw [if_neg c8] at H
         exact absurd H (by simp)
   · rw [if_neg c3] at H
     have c3b0 : decide (x7_1 < (l0.length : Int)) = false:=decide_eq_false c3;clear c3
     by_cases c16 : x6_1 = true
     · subst c16
       rw [if_pos rfl] at H;obtain rfl:=Option.some.inj H
       go_wp2
       go_ret
       exact ⟨_,by first | rfl | (simp [errW_none,errW_some] <;> rfl) | (simp [*,errW_none,errW_some] <;> rfl),R_mv HO_5.out,bmv HB.out⟩
     · replace c16:=Bool.eq_false_iff.mpr c16
       subst c16;rw [if_neg (show ¬ (false = true) by decide)] at H
       by_cases c17 : x5_1.length < 17592186044416
       · rw [if_pos c17] at H
         have LMc17:=Az.mk c17;clear c17
         obtain ⟨y351,hy351⟩ : ∃ y_ : List Int,y_ = (x5_1 ++ [a1]):=⟨_,rfl⟩
         replace H : (some y351) = some r:=by first | (rw [hy351];with_reducible exact H) | (have H2_:=(Option.bind_some _ _).symm.trans H;rw [hy351];with_reducible exact H2_) | (have H2_:=(Option.bind_some _ _).symm.trans H;with_reducible exact H2_) | with_reducible exact H | (rw [hy351];exact H) | exact H
         have Ny351:=Az.mk hy351;clear hy351;obtain rfl:=Option.some.inj H
         go_wp2_with (first | ((with_reducible refine gate_builtin (b:=.append) (xs:=#[.tmp 37,.tmp 39]) rfl ?_);at_builtin;refine Kd.R_append (Kd.int .i64) (w0:=w) w.heap.size rfl (.tmp 37) (.tmp 39) 27 3 (.int .i64 0) 8 rfl Tryd.underlying27 info3 rfl (by decide) (by omega) u5 x5_1 a1 [.int .i64 a1] (fun _=>True) (fun _=>False) rfl rfl ?aP (fun _ hk=>hk.elim) ?aF ?aO ?aB ?aS ?aL ?_;(case aP=>exact rfl);(case aB=>exact (bmv HB.out));(case aF=>exact (fun _ _=>trivial));(case aO=>exact (R_mv HO_5.out));(case aS=>exact (bwZ (bmv HB.out)));(case aL=>have:=LMc17.out;omega);intro v352 w18 ho hb hg hat;rw [← Ny351.out] at ho;have HO353:=Az.mk (ho);replace HB:=Az.mk (hb);clear HO_5;clear ho hb hg hat))
         go_ret
         exact ⟨_,by first | rfl | (simp [errW_none,errW_some] <;> rfl) | (simp [*,errW_none,errW_some] <;> rfl),R_mv HO353.out,bmv HB.out⟩
       · rw [if_neg c17] at H
         exact absurd H (by simp)
end Go.Proofs.YtbblomnhobodkaaDoor.PTw
