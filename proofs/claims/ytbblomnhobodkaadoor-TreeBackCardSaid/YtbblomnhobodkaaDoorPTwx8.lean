/- What this claim reaches of longer texts of this session. -/
import Derived.Test.YtbblomnhobodkaaDoorPTwx0
import Derived.Test.YtbblomnhobodkaaDoorPTwx1
import Derived.Test.YtbblomnhobodkaaDoorPTwx7
import Derived.Shelf.Spec.TrailingZeros
import Derived.Lib.ItoaNum
import Derived.Lib.LaidTab
import Derived.Laws.Bits64
import Derived.Lib.Hide
import Derived.RangeFuncBox
import Derived.Maps.AppendAt
import Derived.Lib.SliceRun
import Derived.Shelf.Spec.SlicesInsert
import Derived.Shelf.Spec.SlicesInsertGrow
import Derived.Deep.DeepCutAuto
namespace Go.Proofs.YtbblomnhobodkaaDoor.PTw
open Go.RowKit Go.Proofs.YtbblomnhobodkaaDoorW.PW Go.Proofs.YtbblomnhobodkaaDoorW.PL Go.Proofs.YtbblomnhobodkaaDoorW.PM
attribute [local go_sem] max2_int min2_int max_two min_two max_three min_three max_four min_four   -- for this text's walks alone
set_option linter.unusedVariables false
set_option linter.unusedSimpArgs false
def r4Same.l0 : Nat→List (S29)→List (S29)→Int→Option (Bool)
 | 0,_,_,_=>none
 | k + 1,x0,x1,x5=>if x5 < (x0.length : Int) then (if 0≤x5 then (if x5 < (x1.length : Int) then (if (((rd_T29 x0 x5).f0) != ((rd_T29 x1 x5).f0)) = true then (some false) else (if ((rd_T29 x0 x5).f1) = ((rd_T29 x1 x5).f1) then (if ((rd_T29 x0 x5).f2) = ((rd_T29 x1 x5).f2) then (if ((rd_T29 x0 x5).f3) = ((rd_T29 x1 x5).f3) then (if ((rd_T29 x0 x5).f4) = ((rd_T29 x1 x5).f4) then ((r1Ints.f k ((rd_T29 x0 x5).f5) ((rd_T29 x1 x5).f5)).bind fun t325=>(if t325 = true then (r4Same.l0 k x0 x1 (wrap64 (x5 + 1))) else (some false))) else (some false)) else (some false)) else (some false)) else (some false))) else (none)) else (none)) else (some true)
def r4Same.f (k : Nat) (l0 : List (S29)) (l1 : List (S29)) : Option (Bool):=if (l0.length : Int) = (l1.length : Int) then (r4Same.l0 k l0 l1 0) else (some false)
theorem r4Same.mono_l : ∀ k,(∀ y0 y1 y2,LeO (r4Same.l0 k y0 y1 y2) (r4Same.l0 (k + 1) y0 y1 y2))
 | 0=>fun _ _ _ r h=>by simp [r4Same.l0] at h
 | k + 1=>by
  have ih0:=r4Same.mono_l k
  · intro y0 y1 y2
    unfold r4Same.l0
    repeat' first
    | (with_reducible exact ih0 _ _ _)
    | (with_reducible exact r1Ints.mono _ _ _)
    | (with_reducible exact LeO.refl _)
    | (with_reducible exact LeO.none _)
    | (with_reducible refine LeO.ite ?_ ?_)
    | (with_reducible refine LeO.bind ?_ (fun _=>?_))
    | exact ih0 _ _ _
    | exact r1Ints.mono _ _ _
    | exact LeO.none _
    | refine LeO.ite ?_ ?_
    | refine LeO.bind ?_ (fun _=>?_)
theorem r4Same.mono : ∀ a0 a1 k,LeO (r4Same.f k a0 a1) (r4Same.f (k + 1) a0 a1):=by
 intro a0 a1 k
 have ih0:=r4Same.mono_l k
 unfold r4Same.f
 repeat' first
  | (with_reducible exact ih0 _ _ _)
  | (with_reducible exact r1Ints.mono _ _ _)
  | (with_reducible exact LeO.refl _)
  | (with_reducible exact LeO.none _)
  | (with_reducible refine LeO.ite ?_ ?_)
  | (with_reducible refine LeO.bind ?_ (fun _=>?_))
  | exact ih0 _ _ _
  | exact r1Ints.mono _ _ _
  | exact LeO.none _
  | refine LeO.ite ?_ ?_
  | refine LeO.bind ?_ (fun _=>?_)
def r4Same.T6 : Bool × List (List Nat × List Nat):=(true,[([],[]),([],[]),([0,1],[0,1]),([2],[2]),([],[]),([],[]),([4,5],[4,5]),([6],[6]),([],[]),([],[]),([8,3,0,1,2,3,8,9],[3,8]),([9,7,10,0,1,2,3,4,5,6,7,8,9,10],[7,9])])
def r4Same.B6 : List Nat:=[0,0,3,7,0,0,48,112,0,0,783,2047]
theorem r4Same.tab6 : rtab .any (opsOf Tryd.f17 6) = r4Same.T6:=by kernel_rfl
theorem r4Same.bits6 : waitsOk r4Same.T6.2 r4Same.B6 = true:=by kernel_rfl
set_option maxHeartbeats 8000000 in
set_option maxRecDepth 100000 in
theorem r4Same.calls (k : Nat) (A0 : Option Addr) (c0 : Nat) (l0 : List (S29)) (A1 : Option Addr) (c1 : Nat) (l1 : List (S29)) (r : Bool) (w : World) (hr0 : Kd.C k29 w A0 l0.length l0) (hc0 : l0.length≤c0) (hr1 : Kd.C k29 w A1 l1.length l1) (hc1 : l1.length≤c1) (h : r4Same.f k l0 l1 = some r) :
 Calls Tryd.prog 17 #[.slice A0 l0.length c0,.slice A1 l1.length c1] w fun e w'=>e = .returned (.bool r)∧Below w.heap.size w w':=by
 have hu29:=Tryd.underlying29
 have HR0:=Az.mk hr0
 have HC0:=Az.mk hc0
 clear hr0 hc0
 have HR1:=Az.mk hr1
 have HC1:=Az.mk hc1
 clear hr1 hc1
 have HB:=Az.mk (Below.refl w.heap.size w)
 have H : (if (l0.length : Int) = (l1.length : Int) then (r4Same.l0 k l0 l1 0) else (some false)) = some r:=h
 clear h
 by_cases c3 : (l0.length : Int) = (l1.length : Int)
 · rw [if_pos c3] at H
   have c3b0 : ((l0.length : Int) == (l1.length : Int)) = true:=beq_iff_eq.mpr c3
   have c3b1 : ((l0.length : Int) != (l1.length : Int)) = false:=bne_eq_false_iff_eq.mpr c3
   have c3b2 : (l0.length == l1.length) = true:=by first | simpa using c3 | (simp at c3 ⊢;omega)
   clear c3
   have H':=Az.mk H
   clear H
   go_enter Tryd.func17,Tryd.ntmps17
   go_wp2
   go_loopg [5] k (fun kq v5 w'=>∃ (x5_1 : Int),v5 = .int .i64 x5_1∧Az (r4Same.l0 kq l0 l1 x5_1 = some r)∧Az (kq≤k)∧Az (Below w.heap.size w w'))
   case atStart=>exact ⟨(0),(by first | rfl | (simp;done) | (simp [*];done)),H',⟨Nat.le_refl _⟩,⟨bmv HB.out⟩⟩
   case round=>
    clear H'
    try clear c1
    try clear c3
    try clear c3b0
    try clear c3b1
    try clear c3b2
    obtain ⟨x5_1,rfl,HA,HK1,HB⟩:=hrel
    cases gk with
    | zero=>exact absurd HA.out (by simp [r4Same.l0])
    | succ k1=>
     have H:=HA.out
     clear HA
     simp only [r4Same.l0] at H
     by_cases c4 : x5_1 < (l0.length : Int)
     · rw [if_pos c4] at H
       have c4b0 : decide (x5_1 < (l0.length : Int)) = true:=decide_eq_true c4
       clear c4
       by_cases c5 : 0≤x5_1
       · rw [if_pos c5] at H
         have c5b0 : decide (0≤x5_1) = true:=decide_eq_true c5
         clear c5
         by_cases c6 : x5_1 < (l1.length : Int)
         · rw [if_pos c6] at H
           have c6b0 : decide (x5_1 < (l1.length : Int)) = true:=decide_eq_true c6
           clear c6
           have HH:=Az.mk H
           clear H
           try go_wp2
           have n0_:=Az.mk (bw1 HB.out)
           clear HB
           have HB:=n0_
           clear n0_
           have p321 : 0≤(x5_1 : Int):=of_decide_eq_true (by first | (with_reducible assumption) | assumption)
           have q321 : x5_1 < (l0.length : Int):=of_decide_eq_true (by first | (with_reducible assumption) | assumption)
           obtain ⟨ad321,A321_5,c321_5,e321,hx321_0,hx321_1,hx321_2,hx321_3,hx321_4,hx321_5,hl321_5,hi321_5⟩:=at_T29 HR0.out x5_1 p321 q321
           have hw321_5:=hx321_5
           have hw321_4:=hx321_4
           have hw321_3:=hx321_3
           have hw321_2:=hx321_2
           have hw321_1:=hx321_1
           have hw321_0:=hx321_0
           cases e321
           replace hx321_0:=(HB.out.cell (World.block_lt_of_cell? w _ hx321_0)).trans hx321_0
           replace hx321_1:=(HB.out.cell (World.block_lt_of_cell? w _ hx321_1)).trans hx321_1
           replace hx321_2:=(HB.out.cell (World.block_lt_of_cell? w _ hx321_2)).trans hx321_2
           replace hx321_3:=(HB.out.cell (World.block_lt_of_cell? w _ hx321_3)).trans hx321_3
           replace hx321_4:=(HB.out.cell (World.block_lt_of_cell? w _ hx321_4)).trans hx321_4
           replace hx321_5:=(HB.out.cell (World.block_lt_of_cell? w _ hx321_5)).trans hx321_5
           have HR321_5:=Az.mk hi321_5
           have HC321_5:=Az.mk hl321_5
           clear hi321_5 hl321_5
           replace p321:=eq_true p321
           replace q321:=eq_true q321
           have p322 : 0≤(x5_1 : Int):=of_decide_eq_true (by first | (with_reducible assumption) | assumption)
           have q322 : x5_1 < (l1.length : Int):=of_decide_eq_true (by first | (with_reducible assumption) | assumption)
           obtain ⟨ad322,A322_5,c322_5,e322,hx322_0,hx322_1,hx322_2,hx322_3,hx322_4,hx322_5,hl322_5,hi322_5⟩:=at_T29 HR1.out x5_1 p322 q322
           have hw322_5:=hx322_5
           have hw322_4:=hx322_4
           have hw322_3:=hx322_3
           have hw322_2:=hx322_2
           have hw322_1:=hx322_1
           have hw322_0:=hx322_0
           cases e322
           replace hx322_0:=(HB.out.cell (World.block_lt_of_cell? w _ hx322_0)).trans hx322_0
           replace hx322_1:=(HB.out.cell (World.block_lt_of_cell? w _ hx322_1)).trans hx322_1
           replace hx322_2:=(HB.out.cell (World.block_lt_of_cell? w _ hx322_2)).trans hx322_2
           replace hx322_3:=(HB.out.cell (World.block_lt_of_cell? w _ hx322_3)).trans hx322_3
           replace hx322_4:=(HB.out.cell (World.block_lt_of_cell? w _ hx322_4)).trans hx322_4
           replace hx322_5:=(HB.out.cell (World.block_lt_of_cell? w _ hx322_5)).trans hx322_5
           have HR322_5:=Az.mk hi322_5
           have HC322_5:=Az.mk hl322_5
           clear hi322_5 hl322_5
           replace p322:=eq_true p322
           replace q322:=eq_true q322
           refine start_ (n:=12) (S:=fun w'=>w'.cell? (ad321.add ((x5_1).toNat * 6)) = some (.bool ((rd_T29 l0 x5_1).f0))∧w'.cell? ⟨(ad321.add ((x5_1).toNat * 6)).block,(ad321.add ((x5_1).toNat * 6)).off + 1,none⟩ = some (.int .i64 ((rd_T29 l0 x5_1).f1))∧w'.cell? ⟨(ad321.add ((x5_1).toNat * 6)).block,(ad321.add ((x5_1).toNat * 6)).off + 2,none⟩ = some (.int .i64 ((rd_T29 l0 x5_1).f2))∧w'.cell? ⟨(ad321.add ((x5_1).toNat * 6)).block,(ad321.add ((x5_1).toNat * 6)).off + 3,none⟩ = some (.int .i64 ((rd_T29 l0 x5_1).f3))∧w'.cell? ⟨(ad321.add ((x5_1).toNat * 6)).block,(ad321.add ((x5_1).toNat * 6)).off + 4,none⟩ = some (.int .i64 ((rd_T29 l0 x5_1).f4))∧w'.cell? ⟨(ad321.add ((x5_1).toNat * 6)).block,(ad321.add ((x5_1).toNat * 6)).off + 5,none⟩ = some (.slice A321_5 ((rd_T29 l0 x5_1).f5).length c321_5)∧w'.cell? (ad322.add ((x5_1).toNat * 6)) = some (.bool ((rd_T29 l1 x5_1).f0))∧w'.cell? ⟨(ad322.add ((x5_1).toNat * 6)).block,(ad322.add ((x5_1).toNat * 6)).off + 1,none⟩ = some (.int .i64 ((rd_T29 l1 x5_1).f1))∧w'.cell? ⟨(ad322.add ((x5_1).toNat * 6)).block,(ad322.add ((x5_1).toNat * 6)).off + 2,none⟩ = some (.int .i64 ((rd_T29 l1 x5_1).f2))∧w'.cell? ⟨(ad322.add ((x5_1).toNat * 6)).block,(ad322.add ((x5_1).toNat * 6)).off + 3,none⟩ = some (.int .i64 ((rd_T29 l1 x5_1).f3))∧w'.cell? ⟨(ad322.add ((x5_1).toNat * 6)).block,(ad322.add ((x5_1).toNat * 6)).off + 4,none⟩ = some (.int .i64 ((rd_T29 l1 x5_1).f4))∧w'.cell? ⟨(ad322.add ((x5_1).toNat * 6)).block,(ad322.add ((x5_1).toNat * 6)).off + 5,none⟩ = some (.slice A322_5 ((rd_T29 l1 x5_1).f5).length c322_5)) (ds:=[]) #[false,false,false,false,false,false,false,false,false,false,false,false] (by kernel_rfl) rfl rfl ⟨((HB.out.cell (World.block_lt_of_cell? w _ hw321_0)).trans hw321_0),((HB.out.cell (World.block_lt_of_cell? w _ hw321_1)).trans hw321_1),((HB.out.cell (World.block_lt_of_cell? w _ hw321_2)).trans hw321_2),((HB.out.cell (World.block_lt_of_cell? w _ hw321_3)).trans hw321_3),((HB.out.cell (World.block_lt_of_cell? w _ hw321_4)).trans hw321_4),((HB.out.cell (World.block_lt_of_cell? w _ hw321_5)).trans hw321_5),((HB.out.cell (World.block_lt_of_cell? w _ hw322_0)).trans hw322_0),((HB.out.cell (World.block_lt_of_cell? w _ hw322_1)).trans hw322_1),((HB.out.cell (World.block_lt_of_cell? w _ hw322_2)).trans hw322_2),((HB.out.cell (World.block_lt_of_cell? w _ hw322_3)).trans hw322_3),((HB.out.cell (World.block_lt_of_cell? w _ hw322_4)).trans hw322_4),((HB.out.cell (World.block_lt_of_cell? w _ hw322_5)).trans hw322_5)⟩ (fun hHeld=>?_);refine with_tabW r4Same.tab6 r4Same.bits6 (fun HT_ HW_=>?_)
           generalize wr.drew = w8 at HB HR321_5 HR322_5 hx321_0 hx321_1 hx321_2 hx321_3 hx321_4 hx321_5 hx322_0 hx322_1 hx322_2 hx322_3 hx322_4 hx322_5 hHeld ⊢
           refine pure_ (i:=0) (N:=some 19) (v:=?_) (a':=?_) #[true,false,false,false,false,false,false,false,false,false,false,false] rfl rfl (any_of HT_.out (by kernel_rfl)) (fun _ _ _ h=>h) (Or.inl ⟨by rfl,?_⟩) ?_ ?_
           rotate_left
           · intro w'
             go_simp
             with_reducible rfl
           rotate_left
           · simp only [Act.put,List.setIfInBounds_toArray,List.set_cons_zero,List.set_cons_succ,i64_w,i32_w]
             rfl
           refine pure_ (i:=1) (N:=some 20) (v:=?_) (a':=?_) #[true,true,false,false,false,false,false,false,false,false,false,false] rfl rfl (any_of HT_.out (by kernel_rfl)) (fun _ _ _ h=>h) (Or.inl ⟨by rfl,?_⟩) ?_ ?_
           rotate_left
           · intro w'
             go_simp
             with_reducible rfl
           rotate_left
           · simp only [Act.put,List.setIfInBounds_toArray,List.set_cons_zero,List.set_cons_succ,i64_w,i32_w]
             rfl
           refine pure_ (i:=2) (N:=some 21) (v:=?_) (a':=?_) #[true,true,true,false,false,false,false,false,false,false,false,false] rfl rfl (any_of HT_.out (by kernel_rfl)) (fun _ _ _ h=>h) (Or.inl ⟨by rfl,?_⟩) ?_ ?_
           rotate_left
           · intro w'
             go_simp
             with_reducible rfl
           rotate_left
           · simp only [Act.put,List.setIfInBounds_toArray,List.set_cons_zero,List.set_cons_succ,i64_w,i32_w]
             rfl
           refine pure_ (i:=4) (N:=some 23) (v:=?_) (a':=?_) #[true,true,true,false,true,false,false,false,false,false,false,false] rfl rfl (any_of HT_.out (by kernel_rfl)) (fun _ _ _ h=>h) (Or.inl ⟨by rfl,?_⟩) ?_ ?_
           rotate_left
           · intro w'
             go_simp
             with_reducible rfl
           rotate_left
           · simp only [Act.put,List.setIfInBounds_toArray,List.set_cons_zero,List.set_cons_succ,i64_w,i32_w]
             rfl
           refine pure_ (i:=5) (N:=some 24) (v:=?_) (a':=?_) #[true,true,true,false,true,true,false,false,false,false,false,false] rfl rfl (any_of HT_.out (by kernel_rfl)) (fun _ _ _ h=>h) (Or.inl ⟨by rfl,?_⟩) ?_ ?_
           rotate_left
           · intro w'
             go_simp
             with_reducible rfl
           rotate_left
           · simp only [Act.put,List.setIfInBounds_toArray,List.set_cons_zero,List.set_cons_succ,i64_w,i32_w]
             rfl
           refine pure_ (i:=6) (N:=some 25) (v:=?_) (a':=?_) #[true,true,true,false,true,true,true,false,false,false,false,false] rfl rfl (any_of HT_.out (by kernel_rfl)) (fun _ _ _ h=>h) (Or.inl ⟨by rfl,?_⟩) ?_ ?_
           rotate_left
           · intro w'
             go_simp
             with_reducible rfl
           rotate_left
           · simp only [Act.put,List.setIfInBounds_toArray,List.set_cons_zero,List.set_cons_succ,i64_w,i32_w]
             rfl
           refine take_ (i:=3) (N:=some 22) (v:=?_) (a':=?_) #[true,true,true,true,true,true,true,false,false,false,false,false] rfl rfl (take_ofW HT_.out HW_.out (by kernel_rfl)) (fun _ _ _ h=>h) (Or.inl ⟨by rfl,?_⟩) hHeld ?_ ?_
           rotate_left
           · rintro w' ⟨s0,s1,s2,s3,s4,s5,s6,s7,s8,s9,s10,s11⟩
             go_simp
             with_reducible rfl
           rotate_left
           · simp only [Act.put,List.setIfInBounds_toArray,List.set_cons_zero,List.set_cons_succ,i64_w,i32_w]
             rfl
           refine take_ (i:=7) (N:=some 26) (v:=?_) (a':=?_) #[true,true,true,true,true,true,true,true,false,false,false,false] rfl rfl (take_ofW HT_.out HW_.out (by kernel_rfl)) (fun _ _ _ h=>h) (Or.inl ⟨by rfl,?_⟩) hHeld ?_ ?_
           rotate_left
           · rintro w' ⟨s0,s1,s2,s3,s4,s5,s6,s7,s8,s9,s10,s11⟩
             go_simp
             with_reducible rfl
           rotate_left
           · simp only [Act.put,List.setIfInBounds_toArray,List.set_cons_zero,List.set_cons_succ,i64_w,i32_w]
             rfl
           refine join_ (σ:=Nat × Nat) 2 #[true,true,true,true,true,true,true,true,true,true,false,false] (fun s_=>[(6,.pointer (some ⟨s_.1,0,none⟩)),(7,.pointer (some ⟨s_.2,0,none⟩))]) (fun s_ w'=>(w'.cell? (ad321.add ((x5_1).toNat * 6)) = some (.bool ((rd_T29 l0 x5_1).f0))∧w'.cell? ⟨(ad321.add ((x5_1).toNat * 6)).block,(ad321.add ((x5_1).toNat * 6)).off + 1,none⟩ = some (.int .i64 ((rd_T29 l0 x5_1).f1))∧w'.cell? ⟨(ad321.add ((x5_1).toNat * 6)).block,(ad321.add ((x5_1).toNat * 6)).off + 2,none⟩ = some (.int .i64 ((rd_T29 l0 x5_1).f2))∧w'.cell? ⟨(ad321.add ((x5_1).toNat * 6)).block,(ad321.add ((x5_1).toNat * 6)).off + 3,none⟩ = some (.int .i64 ((rd_T29 l0 x5_1).f3))∧w'.cell? ⟨(ad321.add ((x5_1).toNat * 6)).block,(ad321.add ((x5_1).toNat * 6)).off + 4,none⟩ = some (.int .i64 ((rd_T29 l0 x5_1).f4))∧w'.cell? ⟨(ad321.add ((x5_1).toNat * 6)).block,(ad321.add ((x5_1).toNat * 6)).off + 5,none⟩ = some (.slice A321_5 ((rd_T29 l0 x5_1).f5).length c321_5)∧w'.cell? (ad322.add ((x5_1).toNat * 6)) = some (.bool ((rd_T29 l1 x5_1).f0))∧w'.cell? ⟨(ad322.add ((x5_1).toNat * 6)).block,(ad322.add ((x5_1).toNat * 6)).off + 1,none⟩ = some (.int .i64 ((rd_T29 l1 x5_1).f1))∧w'.cell? ⟨(ad322.add ((x5_1).toNat * 6)).block,(ad322.add ((x5_1).toNat * 6)).off + 2,none⟩ = some (.int .i64 ((rd_T29 l1 x5_1).f2))∧w'.cell? ⟨(ad322.add ((x5_1).toNat * 6)).block,(ad322.add ((x5_1).toNat * 6)).off + 3,none⟩ = some (.int .i64 ((rd_T29 l1 x5_1).f3))∧w'.cell? ⟨(ad322.add ((x5_1).toNat * 6)).block,(ad322.add ((x5_1).toNat * 6)).off + 4,none⟩ = some (.int .i64 ((rd_T29 l1 x5_1).f4))∧w'.cell? ⟨(ad322.add ((x5_1).toNat * 6)).block,(ad322.add ((x5_1).toNat * 6)).off + 5,none⟩ = some (.slice A322_5 ((rd_T29 l1 x5_1).f5).length c322_5))∧(w'.heap[s_.1]? = some (.cells #[.bool false,.int .i64 0,.int .i64 0,.int .i64 0,.int .i64 0,.slice none 0 0] 29 (0,0)))∧(w'.heap[s_.2]? = some (.cells #[.bool false,.int .i64 0,.int .i64 0,.int .i64 0,.int .i64 0,.slice none 0 0] 29 (0,0)))∧(w.heap.size≤s_.1)∧(w.heap.size≤s_.1)∧(s_.2≠s_.1)∧(s_.1≠s_.2)∧(w.heap.size≤s_.2)∧(w.heap.size≤s_.2)∧(Below w.heap.size w w')) ?_ ?_
           rotate_left
           · intro hCont
             refine two_ (i:=8) (j:=9) (Ni:=some 6) (Nj:=some 7) #[true,true,true,true,true,true,true,true,true,false,false,false] #[true,true,true,true,true,true,true,true,false,true,false,false] rfl rfl rfl rfl (two_of HT_.out (by kernel_rfl)) (by decide) (by decide) (fun K hK=>?_) (fun K hK=>?_)
             · skip
               refine box_step ?hg (N:=6) ?hd (cs:=#[.bool false,.int .i64 0,.int .i64 0,.int .i64 0,.int .i64 0,.slice none 0 0]) (t:=29) ?hr ?_;(case hd=>rfl);(case hg=>rfl);(case hr=>first | (go_simp;done) | (go_simp;rfl))
               intro gb323 hg w9 hbox hb
               have n0_:=Az.mk (bwT (bmv HB.out) hb)
               have n1_:=Az.mk (hbox)
               have n2_:=Az.mk ((by rw [hg];exact (bwZ (bmv HB.out)) : w.heap.size≤gb323))
               have n3_:=Az.mk ((by rw [hg];exact (bwZ (bmv HB.out)) : w.heap.size≤gb323))
               clear HB
               have HB:=n0_
               have BK323:=n1_
               have GW323:=n2_
               have GE323:=n3_
               clear n0_ n1_ n2_ n3_
               clear hb hbox hg
               refine hK.out _ _ ⟨((HB.out.cell (World.block_lt_of_cell? w _ hw321_0)).trans hw321_0),((HB.out.cell (World.block_lt_of_cell? w _ hw321_1)).trans hw321_1),((HB.out.cell (World.block_lt_of_cell? w _ hw321_2)).trans hw321_2),((HB.out.cell (World.block_lt_of_cell? w _ hw321_3)).trans hw321_3),((HB.out.cell (World.block_lt_of_cell? w _ hw321_4)).trans hw321_4),((HB.out.cell (World.block_lt_of_cell? w _ hw321_5)).trans hw321_5),((HB.out.cell (World.block_lt_of_cell? w _ hw322_0)).trans hw322_0),((HB.out.cell (World.block_lt_of_cell? w _ hw322_1)).trans hw322_1),((HB.out.cell (World.block_lt_of_cell? w _ hw322_2)).trans hw322_2),((HB.out.cell (World.block_lt_of_cell? w _ hw322_3)).trans hw322_3),((HB.out.cell (World.block_lt_of_cell? w _ hw322_4)).trans hw322_4),((HB.out.cell (World.block_lt_of_cell? w _ hw322_5)).trans hw322_5)⟩ (fun hHeld=>?_)
               clear hK K
               refine norm_ (a':=?_) ?_ ?_
               rotate_left
               · show Act.put _ (some 6) _ = _
                 simp only [Act.put,List.setIfInBounds_toArray,List.set_cons_zero,List.set_cons_succ,i64_w,i32_w]
                 rfl
               refine one_ (i:=9) (N:=some 7) #[true,true,true,true,true,true,true,true,true,true,false,false] rfl rfl (one_of HT_.out (by kernel_rfl)) (by decide) (fun K hK=>?_)
               refine box_step ?hg (N:=7) ?hd (cs:=#[.bool false,.int .i64 0,.int .i64 0,.int .i64 0,.int .i64 0,.slice none 0 0]) (t:=29) ?hr ?_;(case hd=>rfl);(case hg=>rfl);(case hr=>first | (go_simp;done) | (go_simp;rfl))
               intro gb324 hg w10 hbox hb
               have n0_:=Az.mk (kB (g:=gb323) (o:=.cells #[.bool false,.int .i64 0,.int .i64 0,.int .i64 0,.int .i64 0,.slice none 0 0] 29 (0,0)) (blk_mv BK323.out) hb)
               have n1_:=Az.mk (bwT (by repeat (first | (with_reducible first | exact HB.out | apply bwA | apply bwN | apply bw1 | refine bwS ?_ GE323.out) | exact HB.out)) hb)
               have n2_:=Az.mk (hbox)
               have n3_:=Az.mk ((by rw [hg];exact (bwZ (by repeat (first | (with_reducible first | exact HB.out | apply bwA | apply bwN | apply bw1 | refine bwS ?_ GE323.out) | exact HB.out))) : w.heap.size≤gb324))
               have n4_:=Az.mk ((by rw [hg];exact (bwZ (by repeat (first | (with_reducible first | exact HB.out | apply bwA | apply bwN | apply bw1 | refine bwS ?_ GE323.out) | exact HB.out))) : w.heap.size≤gb324))
               have n5_:=Az.mk ((by rw [hg];exact Nat.ne_of_lt (blk_lt (g:=gb323) (o:=.cells #[.bool false,.int .i64 0,.int .i64 0,.int .i64 0,.int .i64 0,.slice none 0 0] 29 (0,0)) (blk_mv BK323.out)) : gb323≠gb324))
               have n6_:=Az.mk ((by rw [hg];exact Nat.ne_of_gt (blk_lt (g:=gb323) (o:=.cells #[.bool false,.int .i64 0,.int .i64 0,.int .i64 0,.int .i64 0,.slice none 0 0] 29 (0,0)) (blk_mv BK323.out)) : gb324≠gb323))
               clear BK323
               clear HB
               have BK323:=n0_
               have HB:=n1_
               have BK324:=n2_
               have GW324:=n3_
               have GE324:=n4_
               have NB323_324:=n5_
               have NB324_323:=n6_
               clear n0_ n1_ n2_ n3_ n4_ n5_ n6_
               clear hb hbox hg
               refine hK.out _ _ ⟨((HB.out.cell (World.block_lt_of_cell? w _ hw321_0)).trans hw321_0),((HB.out.cell (World.block_lt_of_cell? w _ hw321_1)).trans hw321_1),((HB.out.cell (World.block_lt_of_cell? w _ hw321_2)).trans hw321_2),((HB.out.cell (World.block_lt_of_cell? w _ hw321_3)).trans hw321_3),((HB.out.cell (World.block_lt_of_cell? w _ hw321_4)).trans hw321_4),((HB.out.cell (World.block_lt_of_cell? w _ hw321_5)).trans hw321_5),((HB.out.cell (World.block_lt_of_cell? w _ hw322_0)).trans hw322_0),((HB.out.cell (World.block_lt_of_cell? w _ hw322_1)).trans hw322_1),((HB.out.cell (World.block_lt_of_cell? w _ hw322_2)).trans hw322_2),((HB.out.cell (World.block_lt_of_cell? w _ hw322_3)).trans hw322_3),((HB.out.cell (World.block_lt_of_cell? w _ hw322_4)).trans hw322_4),((HB.out.cell (World.block_lt_of_cell? w _ hw322_5)).trans hw322_5)⟩ (fun hHeld=>?_)
               clear hK K
               refine norm_ (a':=?_) ?_ ?_
               rotate_left
               · show Act.put _ (some 7) _ = _
                 simp only [Act.put,List.setIfInBounds_toArray,List.set_cons_zero,List.set_cons_succ,i64_w,i32_w]
                 rfl
               exact norm_ (by simp only [putAll,Act.put,List.setIfInBounds_toArray,List.set_cons_zero,List.set_cons_succ]) (hCont (gb323,gb324) _ ⟨hHeld,(blk_mv BK323.out),(blk_mv BK324.out),GW323.out,GE323.out,NB324_323.out,NB323_324.out,GW324.out,GE324.out,(by repeat (first | (with_reducible first | exact HB.out | apply bwA | apply bwN | apply bw1 | refine bwS ?_ GE323.out | refine bwS ?_ GE324.out) | exact HB.out))⟩)
             · skip
               refine box_step ?hg (N:=7) ?hd (cs:=#[.bool false,.int .i64 0,.int .i64 0,.int .i64 0,.int .i64 0,.slice none 0 0]) (t:=29) ?hr ?_;(case hd=>rfl);(case hg=>rfl);(case hr=>first | (go_simp;done) | (go_simp;rfl))
               intro gb324 hg w9 hbox hb
               have n0_:=Az.mk (bwT (bmv HB.out) hb)
               have n1_:=Az.mk (hbox)
               have n2_:=Az.mk ((by rw [hg];exact (bwZ (bmv HB.out)) : w.heap.size≤gb324))
               have n3_:=Az.mk ((by rw [hg];exact (bwZ (bmv HB.out)) : w.heap.size≤gb324))
               clear HB
               have HB:=n0_
               have BK324:=n1_
               have GW324:=n2_
               have GE324:=n3_
               clear n0_ n1_ n2_ n3_
               clear hb hbox hg
               refine hK.out _ _ ⟨((HB.out.cell (World.block_lt_of_cell? w _ hw321_0)).trans hw321_0),((HB.out.cell (World.block_lt_of_cell? w _ hw321_1)).trans hw321_1),((HB.out.cell (World.block_lt_of_cell? w _ hw321_2)).trans hw321_2),((HB.out.cell (World.block_lt_of_cell? w _ hw321_3)).trans hw321_3),((HB.out.cell (World.block_lt_of_cell? w _ hw321_4)).trans hw321_4),((HB.out.cell (World.block_lt_of_cell? w _ hw321_5)).trans hw321_5),((HB.out.cell (World.block_lt_of_cell? w _ hw322_0)).trans hw322_0),((HB.out.cell (World.block_lt_of_cell? w _ hw322_1)).trans hw322_1),((HB.out.cell (World.block_lt_of_cell? w _ hw322_2)).trans hw322_2),((HB.out.cell (World.block_lt_of_cell? w _ hw322_3)).trans hw322_3),((HB.out.cell (World.block_lt_of_cell? w _ hw322_4)).trans hw322_4),((HB.out.cell (World.block_lt_of_cell? w _ hw322_5)).trans hw322_5)⟩ (fun hHeld=>?_)
               clear hK K
               refine norm_ (a':=?_) ?_ ?_
               rotate_left
               · show Act.put _ (some 7) _ = _
                 simp only [Act.put,List.setIfInBounds_toArray,List.set_cons_zero,List.set_cons_succ,i64_w,i32_w]
                 rfl
               refine one_ (i:=8) (N:=some 6) #[true,true,true,true,true,true,true,true,true,true,false,false] rfl rfl (one_of HT_.out (by kernel_rfl)) (by decide) (fun K hK=>?_)
               refine box_step ?hg (N:=6) ?hd (cs:=#[.bool false,.int .i64 0,.int .i64 0,.int .i64 0,.int .i64 0,.slice none 0 0]) (t:=29) ?hr ?_;(case hd=>rfl);(case hg=>rfl);(case hr=>first | (go_simp;done) | (go_simp;rfl))
               intro gb323 hg w10 hbox hb
               have n0_:=Az.mk (kB (g:=gb324) (o:=.cells #[.bool false,.int .i64 0,.int .i64 0,.int .i64 0,.int .i64 0,.slice none 0 0] 29 (0,0)) (blk_mv BK324.out) hb)
               have n1_:=Az.mk (bwT (by repeat (first | (with_reducible first | exact HB.out | apply bwA | apply bwN | apply bw1 | refine bwS ?_ GE324.out) | exact HB.out)) hb)
               have n2_:=Az.mk (hbox)
               have n3_:=Az.mk ((by rw [hg];exact (bwZ (by repeat (first | (with_reducible first | exact HB.out | apply bwA | apply bwN | apply bw1 | refine bwS ?_ GE324.out) | exact HB.out))) : w.heap.size≤gb323))
               have n4_:=Az.mk ((by rw [hg];exact (bwZ (by repeat (first | (with_reducible first | exact HB.out | apply bwA | apply bwN | apply bw1 | refine bwS ?_ GE324.out) | exact HB.out))) : w.heap.size≤gb323))
               have n5_:=Az.mk ((by rw [hg];exact Nat.ne_of_lt (blk_lt (g:=gb324) (o:=.cells #[.bool false,.int .i64 0,.int .i64 0,.int .i64 0,.int .i64 0,.slice none 0 0] 29 (0,0)) (blk_mv BK324.out)) : gb324≠gb323))
               have n6_:=Az.mk ((by rw [hg];exact Nat.ne_of_gt (blk_lt (g:=gb324) (o:=.cells #[.bool false,.int .i64 0,.int .i64 0,.int .i64 0,.int .i64 0,.slice none 0 0] 29 (0,0)) (blk_mv BK324.out)) : gb323≠gb324))
               clear BK324
               clear HB
               have BK324:=n0_
               have HB:=n1_
               have BK323:=n2_
               have GW323:=n3_
               have GE323:=n4_
               have NB324_323:=n5_
               have NB323_324:=n6_
               clear n0_ n1_ n2_ n3_ n4_ n5_ n6_
               clear hb hbox hg
               refine hK.out _ _ ⟨((HB.out.cell (World.block_lt_of_cell? w _ hw321_0)).trans hw321_0),((HB.out.cell (World.block_lt_of_cell? w _ hw321_1)).trans hw321_1),((HB.out.cell (World.block_lt_of_cell? w _ hw321_2)).trans hw321_2),((HB.out.cell (World.block_lt_of_cell? w _ hw321_3)).trans hw321_3),((HB.out.cell (World.block_lt_of_cell? w _ hw321_4)).trans hw321_4),((HB.out.cell (World.block_lt_of_cell? w _ hw321_5)).trans hw321_5),((HB.out.cell (World.block_lt_of_cell? w _ hw322_0)).trans hw322_0),((HB.out.cell (World.block_lt_of_cell? w _ hw322_1)).trans hw322_1),((HB.out.cell (World.block_lt_of_cell? w _ hw322_2)).trans hw322_2),((HB.out.cell (World.block_lt_of_cell? w _ hw322_3)).trans hw322_3),((HB.out.cell (World.block_lt_of_cell? w _ hw322_4)).trans hw322_4),((HB.out.cell (World.block_lt_of_cell? w _ hw322_5)).trans hw322_5)⟩ (fun hHeld=>?_)
               clear hK K
               refine norm_ (a':=?_) ?_ ?_
               rotate_left
               · show Act.put _ (some 6) _ = _
                 simp only [Act.put,List.setIfInBounds_toArray,List.set_cons_zero,List.set_cons_succ,i64_w,i32_w]
                 rfl
               exact norm_ (by simp only [putAll,Act.put,List.setIfInBounds_toArray,List.set_cons_zero,List.set_cons_succ]) (hCont (gb323,gb324) _ ⟨hHeld,(blk_mv BK323.out),(blk_mv BK324.out),GW323.out,GE323.out,NB324_323.out,NB323_324.out,GW324.out,GE324.out,(by repeat (first | (with_reducible first | exact HB.out | apply bwA | apply bwN | apply bw1 | refine bwS ?_ GE324.out | refine bwS ?_ GE323.out) | exact HB.out))⟩)
           rintro ⟨gb323,gb324⟩ w11 ⟨hS_,h0_,h1_,h2_,h3_,h4_,h5_,h6_,h7_,h8_⟩
           have n0_ : Az (w11.heap[gb323]? = some (.cells #[.bool false,.int .i64 0,.int .i64 0,.int .i64 0,.int .i64 0,.slice none 0 0] 29 (0,0))):=⟨h0_⟩
           have n1_ : Az (w11.heap[gb324]? = some (.cells #[.bool false,.int .i64 0,.int .i64 0,.int .i64 0,.int .i64 0,.slice none 0 0] 29 (0,0))):=⟨h1_⟩
           have n2_ : Az (w.heap.size≤gb323):=⟨h2_⟩
           have n3_ : Az (w.heap.size≤gb323):=⟨h3_⟩
           have n4_ : Az (gb324≠gb323):=⟨h4_⟩
           have n5_ : Az (gb323≠gb324):=⟨h5_⟩
           have n6_ : Az (w.heap.size≤gb324):=⟨h6_⟩
           have n7_ : Az (w.heap.size≤gb324):=⟨h7_⟩
           have n8_ : Az (Below w.heap.size w w11):=⟨h8_⟩
           clear HB
           clear h0_ h1_ h2_ h3_ h4_ h5_ h6_ h7_ h8_
           have BK323:=n0_
           have BK324:=n1_
           have GW323:=n2_
           have GE323:=n3_
           have NB324_323:=n4_
           have NB323_324:=n5_
           have GW324:=n6_
           have GE324:=n7_
           have HB:=n8_
           clear n0_ n1_ n2_ n3_ n4_ n5_ n6_ n7_ n8_
           have hHeld : w11.cell? (ad321.add ((x5_1).toNat * 6)) = some (.bool ((rd_T29 l0 x5_1).f0))∧w11.cell? ⟨(ad321.add ((x5_1).toNat * 6)).block,(ad321.add ((x5_1).toNat * 6)).off + 1,none⟩ = some (.int .i64 ((rd_T29 l0 x5_1).f1))∧w11.cell? ⟨(ad321.add ((x5_1).toNat * 6)).block,(ad321.add ((x5_1).toNat * 6)).off + 2,none⟩ = some (.int .i64 ((rd_T29 l0 x5_1).f2))∧w11.cell? ⟨(ad321.add ((x5_1).toNat * 6)).block,(ad321.add ((x5_1).toNat * 6)).off + 3,none⟩ = some (.int .i64 ((rd_T29 l0 x5_1).f3))∧w11.cell? ⟨(ad321.add ((x5_1).toNat * 6)).block,(ad321.add ((x5_1).toNat * 6)).off + 4,none⟩ = some (.int .i64 ((rd_T29 l0 x5_1).f4))∧w11.cell? ⟨(ad321.add ((x5_1).toNat * 6)).block,(ad321.add ((x5_1).toNat * 6)).off + 5,none⟩ = some (.slice A321_5 ((rd_T29 l0 x5_1).f5).length c321_5)∧w11.cell? (ad322.add ((x5_1).toNat * 6)) = some (.bool ((rd_T29 l1 x5_1).f0))∧w11.cell? ⟨(ad322.add ((x5_1).toNat * 6)).block,(ad322.add ((x5_1).toNat * 6)).off + 1,none⟩ = some (.int .i64 ((rd_T29 l1 x5_1).f1))∧w11.cell? ⟨(ad322.add ((x5_1).toNat * 6)).block,(ad322.add ((x5_1).toNat * 6)).off + 2,none⟩ = some (.int .i64 ((rd_T29 l1 x5_1).f2))∧w11.cell? ⟨(ad322.add ((x5_1).toNat * 6)).block,(ad322.add ((x5_1).toNat * 6)).off + 3,none⟩ = some (.int .i64 ((rd_T29 l1 x5_1).f3))∧w11.cell? ⟨(ad322.add ((x5_1).toNat * 6)).block,(ad322.add ((x5_1).toNat * 6)).off + 4,none⟩ = some (.int .i64 ((rd_T29 l1 x5_1).f4))∧w11.cell? ⟨(ad322.add ((x5_1).toNat * 6)).block,(ad322.add ((x5_1).toNat * 6)).off + 5,none⟩ = some (.slice A322_5 ((rd_T29 l1 x5_1).f5).length c322_5):=hS_
           refine norm_ (a':=?_) ?_ ?_
           rotate_left
           · simp only [putAll,Act.put,List.setIfInBounds_toArray,List.set_cons_zero,List.set_cons_succ]
             rfl
           refine one_ (i:=10) (N:=none) #[true,true,true,true,true,true,true,true,true,true,true,false] rfl rfl (one_of HT_.out (by kernel_rfl)) (by decide) (fun K hK=>?_)
           have hs12 : w11.cell? ⟨gb323,0,none⟩ = some (.bool false):=(kC BK323.out 0).trans rfl
           have hfs12:=kF BK323.out 0
           have hns12_1:=NB324_323.out
           have hms12_1:=NB323_324.out
           have hs13 : w11.cell? ⟨gb323,1,none⟩ = some (.int .i64 0):=(kC BK323.out 1).trans rfl
           have hfs13:=kF BK323.out 1
           have hns13_1:=NB324_323.out
           have hms13_1:=NB323_324.out
           have hs14 : w11.cell? ⟨gb323,2,none⟩ = some (.int .i64 0):=(kC BK323.out 2).trans rfl
           have hfs14:=kF BK323.out 2
           have hns14_1:=NB324_323.out
           have hms14_1:=NB323_324.out
           have hs15 : w11.cell? ⟨gb323,3,none⟩ = some (.int .i64 0):=(kC BK323.out 3).trans rfl
           have hfs15:=kF BK323.out 3
           have hns15_1:=NB324_323.out
           have hms15_1:=NB323_324.out
           have hs16 : w11.cell? ⟨gb323,4,none⟩ = some (.int .i64 0):=(kC BK323.out 4).trans rfl
           have hfs16:=kF BK323.out 4
           have hns16_1:=NB324_323.out
           have hms16_1:=NB323_324.out
           have hs17 : w11.cell? ⟨gb323,5,none⟩ = some (.slice none 0 0):=(kC BK323.out 5).trans rfl
           have hfs17:=kF BK323.out 5
           have hns17_1:=NB324_323.out
           have hms17_1:=NB323_324.out
           refine skip_ (w1:=?_) (by rfl) rfl ?_ ?_
           rotate_left
           · go_simp
             rfl
           have hfar321_0_323:=Nat.ne_of_lt (Nat.lt_of_lt_of_le (World.block_lt_of_cell? _ _ hw321_0) GW323.out)
           have hfar321_1_323:=Nat.ne_of_lt (Nat.lt_of_lt_of_le (World.block_lt_of_cell? _ _ hw321_1) GW323.out)
           have hfar321_2_323:=Nat.ne_of_lt (Nat.lt_of_lt_of_le (World.block_lt_of_cell? _ _ hw321_2) GW323.out)
           have hfar321_3_323:=Nat.ne_of_lt (Nat.lt_of_lt_of_le (World.block_lt_of_cell? _ _ hw321_3) GW323.out)
           have hfar321_4_323:=Nat.ne_of_lt (Nat.lt_of_lt_of_le (World.block_lt_of_cell? _ _ hw321_4) GW323.out)
           have hfar321_5_323:=Nat.ne_of_lt (Nat.lt_of_lt_of_le (World.block_lt_of_cell? _ _ hw321_5) GW323.out)
           have hfar322_0_323:=Nat.ne_of_lt (Nat.lt_of_lt_of_le (World.block_lt_of_cell? _ _ hw322_0) GW323.out)
           have hfar322_1_323:=Nat.ne_of_lt (Nat.lt_of_lt_of_le (World.block_lt_of_cell? _ _ hw322_1) GW323.out)
           have hfar322_2_323:=Nat.ne_of_lt (Nat.lt_of_lt_of_le (World.block_lt_of_cell? _ _ hw322_2) GW323.out)
           have hfar322_3_323:=Nat.ne_of_lt (Nat.lt_of_lt_of_le (World.block_lt_of_cell? _ _ hw322_3) GW323.out)
           have hfar322_4_323:=Nat.ne_of_lt (Nat.lt_of_lt_of_le (World.block_lt_of_cell? _ _ hw322_4) GW323.out)
           have hfar322_5_323:=Nat.ne_of_lt (Nat.lt_of_lt_of_le (World.block_lt_of_cell? _ _ hw322_5) GW323.out)
           refine hK.out _ _ ⟨((cell_far (p:=⟨gb323,_,none⟩) hfar321_0_323 _).trans (((cell_far (p:=⟨gb323,_,none⟩) hfar321_0_323 _).trans (((cell_far (p:=⟨gb323,_,none⟩) hfar321_0_323 _).trans (((cell_far (p:=⟨gb323,_,none⟩) hfar321_0_323 _).trans (((cell_far (p:=⟨gb323,_,none⟩) hfar321_0_323 _).trans (((cell_far (p:=⟨gb323,_,none⟩) hfar321_0_323 _).trans (hHeld.1)))))))))))),((cell_far (p:=⟨gb323,_,none⟩) hfar321_1_323 _).trans (((cell_far (p:=⟨gb323,_,none⟩) hfar321_1_323 _).trans (((cell_far (p:=⟨gb323,_,none⟩) hfar321_1_323 _).trans (((cell_far (p:=⟨gb323,_,none⟩) hfar321_1_323 _).trans (((cell_far (p:=⟨gb323,_,none⟩) hfar321_1_323 _).trans (((cell_far (p:=⟨gb323,_,none⟩) hfar321_1_323 _).trans (hHeld.2.1)))))))))))),((cell_far (p:=⟨gb323,_,none⟩) hfar321_2_323 _).trans (((cell_far (p:=⟨gb323,_,none⟩) hfar321_2_323 _).trans (((cell_far (p:=⟨gb323,_,none⟩) hfar321_2_323 _).trans (((cell_far (p:=⟨gb323,_,none⟩) hfar321_2_323 _).trans (((cell_far (p:=⟨gb323,_,none⟩) hfar321_2_323 _).trans (((cell_far (p:=⟨gb323,_,none⟩) hfar321_2_323 _).trans (hHeld.2.2.1)))))))))))),((cell_far (p:=⟨gb323,_,none⟩) hfar321_3_323 _).trans (((cell_far (p:=⟨gb323,_,none⟩) hfar321_3_323 _).trans (((cell_far (p:=⟨gb323,_,none⟩) hfar321_3_323 _).trans (((cell_far (p:=⟨gb323,_,none⟩) hfar321_3_323 _).trans (((cell_far (p:=⟨gb323,_,none⟩) hfar321_3_323 _).trans (((cell_far (p:=⟨gb323,_,none⟩) hfar321_3_323 _).trans (hHeld.2.2.2.1)))))))))))),((cell_far (p:=⟨gb323,_,none⟩) hfar321_4_323 _).trans (((cell_far (p:=⟨gb323,_,none⟩) hfar321_4_323 _).trans (((cell_far (p:=⟨gb323,_,none⟩) hfar321_4_323 _).trans (((cell_far (p:=⟨gb323,_,none⟩) hfar321_4_323 _).trans (((cell_far (p:=⟨gb323,_,none⟩) hfar321_4_323 _).trans (((cell_far (p:=⟨gb323,_,none⟩) hfar321_4_323 _).trans (hHeld.2.2.2.2.1)))))))))))),((cell_far (p:=⟨gb323,_,none⟩) hfar321_5_323 _).trans (((cell_far (p:=⟨gb323,_,none⟩) hfar321_5_323 _).trans (((cell_far (p:=⟨gb323,_,none⟩) hfar321_5_323 _).trans (((cell_far (p:=⟨gb323,_,none⟩) hfar321_5_323 _).trans (((cell_far (p:=⟨gb323,_,none⟩) hfar321_5_323 _).trans (((cell_far (p:=⟨gb323,_,none⟩) hfar321_5_323 _).trans (hHeld.2.2.2.2.2.1)))))))))))),((cell_far (p:=⟨gb323,_,none⟩) hfar322_0_323 _).trans (((cell_far (p:=⟨gb323,_,none⟩) hfar322_0_323 _).trans (((cell_far (p:=⟨gb323,_,none⟩) hfar322_0_323 _).trans (((cell_far (p:=⟨gb323,_,none⟩) hfar322_0_323 _).trans (((cell_far (p:=⟨gb323,_,none⟩) hfar322_0_323 _).trans (((cell_far (p:=⟨gb323,_,none⟩) hfar322_0_323 _).trans (hHeld.2.2.2.2.2.2.1)))))))))))),((cell_far (p:=⟨gb323,_,none⟩) hfar322_1_323 _).trans (((cell_far (p:=⟨gb323,_,none⟩) hfar322_1_323 _).trans (((cell_far (p:=⟨gb323,_,none⟩) hfar322_1_323 _).trans (((cell_far (p:=⟨gb323,_,none⟩) hfar322_1_323 _).trans (((cell_far (p:=⟨gb323,_,none⟩) hfar322_1_323 _).trans (((cell_far (p:=⟨gb323,_,none⟩) hfar322_1_323 _).trans (hHeld.2.2.2.2.2.2.2.1)))))))))))),((cell_far (p:=⟨gb323,_,none⟩) hfar322_2_323 _).trans (((cell_far (p:=⟨gb323,_,none⟩) hfar322_2_323 _).trans (((cell_far (p:=⟨gb323,_,none⟩) hfar322_2_323 _).trans (((cell_far (p:=⟨gb323,_,none⟩) hfar322_2_323 _).trans (((cell_far (p:=⟨gb323,_,none⟩) hfar322_2_323 _).trans (((cell_far (p:=⟨gb323,_,none⟩) hfar322_2_323 _).trans (hHeld.2.2.2.2.2.2.2.2.1)))))))))))),((cell_far (p:=⟨gb323,_,none⟩) hfar322_3_323 _).trans (((cell_far (p:=⟨gb323,_,none⟩) hfar322_3_323 _).trans (((cell_far (p:=⟨gb323,_,none⟩) hfar322_3_323 _).trans (((cell_far (p:=⟨gb323,_,none⟩) hfar322_3_323 _).trans (((cell_far (p:=⟨gb323,_,none⟩) hfar322_3_323 _).trans (((cell_far (p:=⟨gb323,_,none⟩) hfar322_3_323 _).trans (hHeld.2.2.2.2.2.2.2.2.2.1)))))))))))),((cell_far (p:=⟨gb323,_,none⟩) hfar322_4_323 _).trans (((cell_far (p:=⟨gb323,_,none⟩) hfar322_4_323 _).trans (((cell_far (p:=⟨gb323,_,none⟩) hfar322_4_323 _).trans (((cell_far (p:=⟨gb323,_,none⟩) hfar322_4_323 _).trans (((cell_far (p:=⟨gb323,_,none⟩) hfar322_4_323 _).trans (((cell_far (p:=⟨gb323,_,none⟩) hfar322_4_323 _).trans (hHeld.2.2.2.2.2.2.2.2.2.2.1)))))))))))),((cell_far (p:=⟨gb323,_,none⟩) hfar322_5_323 _).trans (((cell_far (p:=⟨gb323,_,none⟩) hfar322_5_323 _).trans (((cell_far (p:=⟨gb323,_,none⟩) hfar322_5_323 _).trans (((cell_far (p:=⟨gb323,_,none⟩) hfar322_5_323 _).trans (((cell_far (p:=⟨gb323,_,none⟩) hfar322_5_323 _).trans (((cell_far (p:=⟨gb323,_,none⟩) hfar322_5_323 _).trans (hHeld.2.2.2.2.2.2.2.2.2.2.2))))))))))))⟩ (fun hHeld=>?_)
           clear hK K
           refine one_ (i:=11) (N:=none) #[true,true,true,true,true,true,true,true,true,true,true,true] rfl rfl (one_of HT_.out (by kernel_rfl)) (by decide) (fun K hK=>?_)
           have hs18 : w11.cell? ⟨gb324,0,none⟩ = some (.bool false):=(kC BK324.out 0).trans rfl
           have hfs18:=kF BK324.out 0
           have hns18_0:=NB323_324.out
           have hms18_0:=NB324_323.out
           have hs19 : w11.cell? ⟨gb324,1,none⟩ = some (.int .i64 0):=(kC BK324.out 1).trans rfl
           have hfs19:=kF BK324.out 1
           have hns19_0:=NB323_324.out
           have hms19_0:=NB324_323.out
           have hs20 : w11.cell? ⟨gb324,2,none⟩ = some (.int .i64 0):=(kC BK324.out 2).trans rfl
           have hfs20:=kF BK324.out 2
           have hns20_0:=NB323_324.out
           have hms20_0:=NB324_323.out
           have hs21 : w11.cell? ⟨gb324,3,none⟩ = some (.int .i64 0):=(kC BK324.out 3).trans rfl
           have hfs21:=kF BK324.out 3
           have hns21_0:=NB323_324.out
           have hms21_0:=NB324_323.out
           have hs22 : w11.cell? ⟨gb324,4,none⟩ = some (.int .i64 0):=(kC BK324.out 4).trans rfl
           have hfs22:=kF BK324.out 4
           have hns22_0:=NB323_324.out
           have hms22_0:=NB324_323.out
           have hs23 : w11.cell? ⟨gb324,5,none⟩ = some (.slice none 0 0):=(kC BK324.out 5).trans rfl
           have hfs23:=kF BK324.out 5
           have hns23_0:=NB323_324.out
           have hms23_0:=NB324_323.out
           refine skip_ (w1:=?_) (by rfl) rfl ?_ ?_
           rotate_left
           · go_simp
             rfl
           have hfar321_0_324:=Nat.ne_of_lt (Nat.lt_of_lt_of_le (World.block_lt_of_cell? _ _ hw321_0) GW324.out)
           have hfar321_1_324:=Nat.ne_of_lt (Nat.lt_of_lt_of_le (World.block_lt_of_cell? _ _ hw321_1) GW324.out)
           have hfar321_2_324:=Nat.ne_of_lt (Nat.lt_of_lt_of_le (World.block_lt_of_cell? _ _ hw321_2) GW324.out)
           have hfar321_3_324:=Nat.ne_of_lt (Nat.lt_of_lt_of_le (World.block_lt_of_cell? _ _ hw321_3) GW324.out)
           have hfar321_4_324:=Nat.ne_of_lt (Nat.lt_of_lt_of_le (World.block_lt_of_cell? _ _ hw321_4) GW324.out)
           have hfar321_5_324:=Nat.ne_of_lt (Nat.lt_of_lt_of_le (World.block_lt_of_cell? _ _ hw321_5) GW324.out)
           have hfar322_0_324:=Nat.ne_of_lt (Nat.lt_of_lt_of_le (World.block_lt_of_cell? _ _ hw322_0) GW324.out)
           have hfar322_1_324:=Nat.ne_of_lt (Nat.lt_of_lt_of_le (World.block_lt_of_cell? _ _ hw322_1) GW324.out)
           have hfar322_2_324:=Nat.ne_of_lt (Nat.lt_of_lt_of_le (World.block_lt_of_cell? _ _ hw322_2) GW324.out)
           have hfar322_3_324:=Nat.ne_of_lt (Nat.lt_of_lt_of_le (World.block_lt_of_cell? _ _ hw322_3) GW324.out)
           have hfar322_4_324:=Nat.ne_of_lt (Nat.lt_of_lt_of_le (World.block_lt_of_cell? _ _ hw322_4) GW324.out)
           have hfar322_5_324:=Nat.ne_of_lt (Nat.lt_of_lt_of_le (World.block_lt_of_cell? _ _ hw322_5) GW324.out)
           refine hK.out _ _ ⟨((cell_far (p:=⟨gb324,_,none⟩) hfar321_0_324 _).trans (((cell_far (p:=⟨gb324,_,none⟩) hfar321_0_324 _).trans (((cell_far (p:=⟨gb324,_,none⟩) hfar321_0_324 _).trans (((cell_far (p:=⟨gb324,_,none⟩) hfar321_0_324 _).trans (((cell_far (p:=⟨gb324,_,none⟩) hfar321_0_324 _).trans (((cell_far (p:=⟨gb324,_,none⟩) hfar321_0_324 _).trans (hHeld.1)))))))))))),((cell_far (p:=⟨gb324,_,none⟩) hfar321_1_324 _).trans (((cell_far (p:=⟨gb324,_,none⟩) hfar321_1_324 _).trans (((cell_far (p:=⟨gb324,_,none⟩) hfar321_1_324 _).trans (((cell_far (p:=⟨gb324,_,none⟩) hfar321_1_324 _).trans (((cell_far (p:=⟨gb324,_,none⟩) hfar321_1_324 _).trans (((cell_far (p:=⟨gb324,_,none⟩) hfar321_1_324 _).trans (hHeld.2.1)))))))))))),((cell_far (p:=⟨gb324,_,none⟩) hfar321_2_324 _).trans (((cell_far (p:=⟨gb324,_,none⟩) hfar321_2_324 _).trans (((cell_far (p:=⟨gb324,_,none⟩) hfar321_2_324 _).trans (((cell_far (p:=⟨gb324,_,none⟩) hfar321_2_324 _).trans (((cell_far (p:=⟨gb324,_,none⟩) hfar321_2_324 _).trans (((cell_far (p:=⟨gb324,_,none⟩) hfar321_2_324 _).trans (hHeld.2.2.1)))))))))))),((cell_far (p:=⟨gb324,_,none⟩) hfar321_3_324 _).trans (((cell_far (p:=⟨gb324,_,none⟩) hfar321_3_324 _).trans (((cell_far (p:=⟨gb324,_,none⟩) hfar321_3_324 _).trans (((cell_far (p:=⟨gb324,_,none⟩) hfar321_3_324 _).trans (((cell_far (p:=⟨gb324,_,none⟩) hfar321_3_324 _).trans (((cell_far (p:=⟨gb324,_,none⟩) hfar321_3_324 _).trans (hHeld.2.2.2.1)))))))))))),((cell_far (p:=⟨gb324,_,none⟩) hfar321_4_324 _).trans (((cell_far (p:=⟨gb324,_,none⟩) hfar321_4_324 _).trans (((cell_far (p:=⟨gb324,_,none⟩) hfar321_4_324 _).trans (((cell_far (p:=⟨gb324,_,none⟩) hfar321_4_324 _).trans (((cell_far (p:=⟨gb324,_,none⟩) hfar321_4_324 _).trans (((cell_far (p:=⟨gb324,_,none⟩) hfar321_4_324 _).trans (hHeld.2.2.2.2.1)))))))))))),((cell_far (p:=⟨gb324,_,none⟩) hfar321_5_324 _).trans (((cell_far (p:=⟨gb324,_,none⟩) hfar321_5_324 _).trans (((cell_far (p:=⟨gb324,_,none⟩) hfar321_5_324 _).trans (((cell_far (p:=⟨gb324,_,none⟩) hfar321_5_324 _).trans (((cell_far (p:=⟨gb324,_,none⟩) hfar321_5_324 _).trans (((cell_far (p:=⟨gb324,_,none⟩) hfar321_5_324 _).trans (hHeld.2.2.2.2.2.1)))))))))))),((cell_far (p:=⟨gb324,_,none⟩) hfar322_0_324 _).trans (((cell_far (p:=⟨gb324,_,none⟩) hfar322_0_324 _).trans (((cell_far (p:=⟨gb324,_,none⟩) hfar322_0_324 _).trans (((cell_far (p:=⟨gb324,_,none⟩) hfar322_0_324 _).trans (((cell_far (p:=⟨gb324,_,none⟩) hfar322_0_324 _).trans (((cell_far (p:=⟨gb324,_,none⟩) hfar322_0_324 _).trans (hHeld.2.2.2.2.2.2.1)))))))))))),((cell_far (p:=⟨gb324,_,none⟩) hfar322_1_324 _).trans (((cell_far (p:=⟨gb324,_,none⟩) hfar322_1_324 _).trans (((cell_far (p:=⟨gb324,_,none⟩) hfar322_1_324 _).trans (((cell_far (p:=⟨gb324,_,none⟩) hfar322_1_324 _).trans (((cell_far (p:=⟨gb324,_,none⟩) hfar322_1_324 _).trans (((cell_far (p:=⟨gb324,_,none⟩) hfar322_1_324 _).trans (hHeld.2.2.2.2.2.2.2.1)))))))))))),((cell_far (p:=⟨gb324,_,none⟩) hfar322_2_324 _).trans (((cell_far (p:=⟨gb324,_,none⟩) hfar322_2_324 _).trans (((cell_far (p:=⟨gb324,_,none⟩) hfar322_2_324 _).trans (((cell_far (p:=⟨gb324,_,none⟩) hfar322_2_324 _).trans (((cell_far (p:=⟨gb324,_,none⟩) hfar322_2_324 _).trans (((cell_far (p:=⟨gb324,_,none⟩) hfar322_2_324 _).trans (hHeld.2.2.2.2.2.2.2.2.1)))))))))))),((cell_far (p:=⟨gb324,_,none⟩) hfar322_3_324 _).trans (((cell_far (p:=⟨gb324,_,none⟩) hfar322_3_324 _).trans (((cell_far (p:=⟨gb324,_,none⟩) hfar322_3_324 _).trans (((cell_far (p:=⟨gb324,_,none⟩) hfar322_3_324 _).trans (((cell_far (p:=⟨gb324,_,none⟩) hfar322_3_324 _).trans (((cell_far (p:=⟨gb324,_,none⟩) hfar322_3_324 _).trans (hHeld.2.2.2.2.2.2.2.2.2.1)))))))))))),((cell_far (p:=⟨gb324,_,none⟩) hfar322_4_324 _).trans (((cell_far (p:=⟨gb324,_,none⟩) hfar322_4_324 _).trans (((cell_far (p:=⟨gb324,_,none⟩) hfar322_4_324 _).trans (((cell_far (p:=⟨gb324,_,none⟩) hfar322_4_324 _).trans (((cell_far (p:=⟨gb324,_,none⟩) hfar322_4_324 _).trans (((cell_far (p:=⟨gb324,_,none⟩) hfar322_4_324 _).trans (hHeld.2.2.2.2.2.2.2.2.2.2.1)))))))))))),((cell_far (p:=⟨gb324,_,none⟩) hfar322_5_324 _).trans (((cell_far (p:=⟨gb324,_,none⟩) hfar322_5_324 _).trans (((cell_far (p:=⟨gb324,_,none⟩) hfar322_5_324 _).trans (((cell_far (p:=⟨gb324,_,none⟩) hfar322_5_324 _).trans (((cell_far (p:=⟨gb324,_,none⟩) hfar322_5_324 _).trans (((cell_far (p:=⟨gb324,_,none⟩) hfar322_5_324 _).trans (hHeld.2.2.2.2.2.2.2.2.2.2.2))))))))))))⟩ (fun hHeld=>?_)
           clear hK K
           refine done_ (done_of HT_.out (by kernel_rfl)) ?_
           have hnb24:=NB323_324.out
           have hnc24:=NB324_323.out
           have hcz25_0 : w11.cell? ⟨gb323,0,none⟩ = some (.bool false):=(kC BK323.out 0).trans rfl
           have hcz25_1 : w11.cell? ⟨gb323,1,none⟩ = some (.int .i64 0):=(kC BK323.out 1).trans rfl
           have hcz25_2 : w11.cell? ⟨gb323,2,none⟩ = some (.int .i64 0):=(kC BK323.out 2).trans rfl
           have hcz25_3 : w11.cell? ⟨gb323,3,none⟩ = some (.int .i64 0):=(kC BK323.out 3).trans rfl
           have hcz25_4 : w11.cell? ⟨gb323,4,none⟩ = some (.int .i64 0):=(kC BK323.out 4).trans rfl
           have hcz25_5 : w11.cell? ⟨gb323,5,none⟩ = some (.slice none 0 0):=(kC BK323.out 5).trans rfl
           have hfz25_0:=kF BK323.out 0
           have hfz25_1:=kF BK323.out 1
           have hfz25_2:=kF BK323.out 2
           have hfz25_3:=kF BK323.out 3
           have hfz25_4:=kF BK323.out 4
           have hfz25_5:=kF BK323.out 5
           have hcz26_0 : w11.cell? ⟨gb324,0,none⟩ = some (.bool false):=(kC BK324.out 0).trans rfl
           have hcz26_1 : w11.cell? ⟨gb324,1,none⟩ = some (.int .i64 0):=(kC BK324.out 1).trans rfl
           have hcz26_2 : w11.cell? ⟨gb324,2,none⟩ = some (.int .i64 0):=(kC BK324.out 2).trans rfl
           have hcz26_3 : w11.cell? ⟨gb324,3,none⟩ = some (.int .i64 0):=(kC BK324.out 3).trans rfl
           have hcz26_4 : w11.cell? ⟨gb324,4,none⟩ = some (.int .i64 0):=(kC BK324.out 4).trans rfl
           have hcz26_5 : w11.cell? ⟨gb324,5,none⟩ = some (.slice none 0 0):=(kC BK324.out 5).trans rfl
           have hfz26_0:=kF BK324.out 0
           have hfz26_1:=kF BK324.out 1
           have hfz26_2:=kF BK324.out 2
           have hfz26_3:=kF BK324.out 3
           have hfz26_4:=kF BK324.out 4
           have hfz26_5:=kF BK324.out 5
           have H:=HH.out
           clear HH
           by_cases c7 : (((rd_T29 l0 x5_1).f0) != ((rd_T29 l1 x5_1).f0)) = true
           · rw [if_pos c7] at H
             have c7b0 : (((rd_T29 l0 x5_1).f0) != ((rd_T29 l1 x5_1).f0)) = true:=c7
             (try (have c7b1 : decide (((rd_T29 l0 x5_1).f0) = ((rd_T29 l1 x5_1).f0)) = false:=by simpa using c7))
             (try (have c7b2 : (((rd_T29 l0 x5_1).f0) == ((rd_T29 l1 x5_1).f0)) = false:=by simpa using c7))
             (try (have c7b3 : ¬ (((rd_T29 l0 x5_1).f0) = ((rd_T29 l1 x5_1).f0)):=by simpa using c7))
             clear c7
             obtain rfl:=Option.some.inj H
             try go_wp2
             go_ret
             exact ⟨by first | rfl | (simp [errW_none,errW_some] <;> rfl) | (simp [*,errW_none,errW_some] <;> rfl),by repeat (first | (with_reducible first | exact HB.out | apply bwA | apply bwN | apply bw1 | refine bwS ?_ GE323.out | refine bwS ?_ GE324.out) | exact HB.out)⟩
           · rw [if_neg c7] at H
             have c7b0 : (((rd_T29 l0 x5_1).f0) != ((rd_T29 l1 x5_1).f0)) = false:=by simpa using c7
             (try (have c7b1 : decide (((rd_T29 l0 x5_1).f0) = ((rd_T29 l1 x5_1).f0)) = true:=by simpa using c7))
             (try (have c7b2 : (((rd_T29 l0 x5_1).f0) == ((rd_T29 l1 x5_1).f0)) = true:=by simpa using c7))
             clear c7
             by_cases c27 : ((rd_T29 l0 x5_1).f1) = ((rd_T29 l1 x5_1).f1)
             · rw [if_pos c27] at H
               have c27b0 : (((rd_T29 l0 x5_1).f1) == ((rd_T29 l1 x5_1).f1)) = true:=beq_iff_eq.mpr c27
               have c27b1 : (((rd_T29 l0 x5_1).f1) != ((rd_T29 l1 x5_1).f1)) = false:=bne_eq_false_iff_eq.mpr c27
               clear c27
               by_cases c28 : ((rd_T29 l0 x5_1).f2) = ((rd_T29 l1 x5_1).f2)
               · rw [if_pos c28] at H
                 have c28b0 : (((rd_T29 l0 x5_1).f2) == ((rd_T29 l1 x5_1).f2)) = true:=beq_iff_eq.mpr c28
                 have c28b1 : (((rd_T29 l0 x5_1).f2) != ((rd_T29 l1 x5_1).f2)) = false:=bne_eq_false_iff_eq.mpr c28
                 clear c28
                 by_cases c29 : ((rd_T29 l0 x5_1).f3) = ((rd_T29 l1 x5_1).f3)
                 · rw [if_pos c29] at H
                   have c29b0 : (((rd_T29 l0 x5_1).f3) == ((rd_T29 l1 x5_1).f3)) = true:=beq_iff_eq.mpr c29
                   have c29b1 : (((rd_T29 l0 x5_1).f3) != ((rd_T29 l1 x5_1).f3)) = false:=bne_eq_false_iff_eq.mpr c29
                   clear c29
                   by_cases c30 : ((rd_T29 l0 x5_1).f4) = ((rd_T29 l1 x5_1).f4)
                   · rw [if_pos c30] at H
                     have c30b0 : (((rd_T29 l0 x5_1).f4) == ((rd_T29 l1 x5_1).f4)) = true:=beq_iff_eq.mpr c30
                     have c30b1 : (((rd_T29 l0 x5_1).f4) != ((rd_T29 l1 x5_1).f4)) = false:=bne_eq_false_iff_eq.mpr c30
                     clear c30
                     replace H:=Option.bind_eq_some_iff.mp H
                     obtain ⟨t325,A310,H⟩:=H
                     replace H : (if t325 = true then (r4Same.l0 k1 l0 l1 (wrap64 (x5_1 + 1))) else (some false)) = some r:=H
                     have A31:=Az.mk A310
                     clear A310
                     by_cases c32 : t325 = true
                     · subst c32
                       have H1 : (r4Same.l0 k1 l0 l1 (wrap64 (x5_1 + 1))) = some r:=by rw [if_pos rfl] at H;exact H
                       clear H
                       have H:=H1
                       clear H1
                       have H':=Az.mk H
                       clear H
                       try go_wp2_with (first | (go_at_call 34;(with_reducible refine (r1Ints.calls k1 _ _ ((rd_T29 l0 x5_1).f5) _ _ ((rd_T29 l1 x5_1).f5) true _ ?side1 ?side2 ?side3 ?side4 A31.out).mono ?_);(case side1=>exact Kd.C_below HR321_5.out (by repeat (first | (with_reducible first | exact HB.out | apply bwA | apply bwN | apply bw1 | refine bwS ?_ GE323.out | refine bwS ?_ GE324.out) | exact HB.out)));(case side2=>exact HC321_5.out);(case side3=>exact Kd.C_below HR322_5.out (by repeat (first | (with_reducible first | exact HB.out | apply bwA | apply bwN | apply bw1 | refine bwS ?_ GE323.out | refine bwS ?_ GE324.out) | exact HB.out)));(case side4=>exact HC322_5.out);rintro e w' ⟨rfl,⟨nd,rfl⟩⟩))
                       go_roundg k1
                       case measure=>have:=HK1.out;omega
                       case rel=>exact ⟨(wrap64 (x5_1 + 1)),(by first | rfl | (simp;done) | (simp [*];done)),H',⟨by have:=HK1.out;omega⟩,⟨by repeat (first | (with_reducible first | exact HB.out | apply bwA | apply bwN | apply bw1 | refine bwS ?_ GE323.out | refine bwS ?_ GE324.out) | exact HB.out)⟩⟩
                     · replace c32:=Bool.eq_false_iff.mpr c32
                       subst c32
                       have H1 : (some false) = some r:=by rw [if_neg (show ¬ (false = true) by decide)] at H;exact H
                       clear H
                       have H:=H1
                       clear H1
                       obtain rfl:=Option.some.inj H
                       try go_wp2_with (first | (go_at_call 34;(with_reducible refine (r1Ints.calls k1 _ _ ((rd_T29 l0 x5_1).f5) _ _ ((rd_T29 l1 x5_1).f5) false _ ?side1 ?side2 ?side3 ?side4 A31.out).mono ?_);(case side1=>exact Kd.C_below HR321_5.out (by repeat (first | (with_reducible first | exact HB.out | apply bwA | apply bwN | apply bw1 | refine bwS ?_ GE323.out | refine bwS ?_ GE324.out) | exact HB.out)));(case side2=>exact HC321_5.out);(case side3=>exact Kd.C_below HR322_5.out (by repeat (first | (with_reducible first | exact HB.out | apply bwA | apply bwN | apply bw1 | refine bwS ?_ GE323.out | refine bwS ?_ GE324.out) | exact HB.out)));(case side4=>exact HC322_5.out);rintro e w' ⟨rfl,⟨nd,rfl⟩⟩))
                       go_ret
                       exact ⟨by first | rfl | (simp [errW_none,errW_some] <;> rfl) | (simp [*,errW_none,errW_some] <;> rfl),by repeat (first | (with_reducible first | exact HB.out | apply bwA | apply bwN | apply bw1 | refine bwS ?_ GE323.out | refine bwS ?_ GE324.out) | exact HB.out)⟩
                   · rw [if_neg c30] at H
                     have c30b0 : (((rd_T29 l0 x5_1).f4) == ((rd_T29 l1 x5_1).f4)) = false:=beq_eq_false_iff_ne.mpr c30
                     have c30b1 : (((rd_T29 l0 x5_1).f4) != ((rd_T29 l1 x5_1).f4)) = true:=bne_iff_ne.mpr c30
                     obtain rfl:=Option.some.inj H
                     try go_wp2
                     go_ret
                     exact ⟨by first | rfl | (simp [errW_none,errW_some] <;> rfl) | (simp [*,errW_none,errW_some] <;> rfl),by repeat (first | (with_reducible first | exact HB.out | apply bwA | apply bwN | apply bw1 | refine bwS ?_ GE323.out | refine bwS ?_ GE324.out) | exact HB.out)⟩
                 · rw [if_neg c29] at H
                   have c29b0 : (((rd_T29 l0 x5_1).f3) == ((rd_T29 l1 x5_1).f3)) = false:=beq_eq_false_iff_ne.mpr c29
                   have c29b1 : (((rd_T29 l0 x5_1).f3) != ((rd_T29 l1 x5_1).f3)) = true:=bne_iff_ne.mpr c29
                   obtain rfl:=Option.some.inj H
                   try go_wp2
                   go_ret
                   exact ⟨by first | rfl | (simp [errW_none,errW_some] <;> rfl) | (simp [*,errW_none,errW_some] <;> rfl),by repeat (first | (with_reducible first | exact HB.out | apply bwA | apply bwN | apply bw1 | refine bwS ?_ GE323.out | refine bwS ?_ GE324.out) | exact HB.out)⟩
               · rw [if_neg c28] at H
                 have c28b0 : (((rd_T29 l0 x5_1).f2) == ((rd_T29 l1 x5_1).f2)) = false:=beq_eq_false_iff_ne.mpr c28
                 have c28b1 : (((rd_T29 l0 x5_1).f2) != ((rd_T29 l1 x5_1).f2)) = true:=bne_iff_ne.mpr c28
                 obtain rfl:=Option.some.inj H
                 try go_wp2
                 go_ret
                 exact ⟨by first | rfl | (simp [errW_none,errW_some] <;> rfl) | (simp [*,errW_none,errW_some] <;> rfl),by repeat (first | (with_reducible first | exact HB.out | apply bwA | apply bwN | apply bw1 | refine bwS ?_ GE323.out | refine bwS ?_ GE324.out) | exact HB.out)⟩
             · rw [if_neg c27] at H
               have c27b0 : (((rd_T29 l0 x5_1).f1) == ((rd_T29 l1 x5_1).f1)) = false:=beq_eq_false_iff_ne.mpr c27
               have c27b1 : (((rd_T29 l0 x5_1).f1) != ((rd_T29 l1 x5_1).f1)) = true:=bne_iff_ne.mpr c27
               obtain rfl:=Option.some.inj H
               try go_wp2
               go_ret
               exact ⟨by first | rfl | (simp [errW_none,errW_some] <;> rfl) | (simp [*,errW_none,errW_some] <;> rfl),by repeat (first | (with_reducible first | exact HB.out | apply bwA | apply bwN | apply bw1 | refine bwS ?_ GE323.out | refine bwS ?_ GE324.out) | exact HB.out)⟩
         · rw [if_neg c6] at H
           exact absurd H (by simp)
       · rw [if_neg c5] at H
         exact absurd H (by simp)
     · rw [if_neg c4] at H
       have c4b0 : decide (x5_1 < (l0.length : Int)) = false:=decide_eq_false c4
       clear c4
       obtain rfl:=Option.some.inj H
       go_wp2
       go_ret
       exact ⟨by first | rfl | (simp [errW_none,errW_some] <;> rfl) | (simp [*,errW_none,errW_some] <;> rfl),bmv HB.out⟩
 · rw [if_neg c3] at H
   have c3b0 : ((l0.length : Int) == (l1.length : Int)) = false:=beq_eq_false_iff_ne.mpr c3
   have c3b1 : ((l0.length : Int) != (l1.length : Int)) = true:=bne_iff_ne.mpr c3
   have c3b2 : (l0.length == l1.length) = false:=by first | simpa using c3 | (simp at c3 ⊢;omega)
   obtain rfl:=Option.some.inj H
   go_enter Tryd.func17,Tryd.ntmps17
   go_wp2
   go_ret
   exact ⟨by first | rfl | (simp [errW_none,errW_some] <;> rfl) | (simp [*,errW_none,errW_some] <;> rfl),bmv HB.out⟩
end Go.Proofs.YtbblomnhobodkaaDoor.PTw
namespace Go.Proofs.YtbblomnhobodkaaDoor.PTw
open Go.RowKit Go.Proofs.YtbblomnhobodkaaDoorW.PW Go.Proofs.YtbblomnhobodkaaDoorW.PL Go.Proofs.YtbblomnhobodkaaDoorW.PM
attribute [local go_sem] max2_int min2_int max_two min_two max_three min_three max_four min_four   -- for this text's walks alone
set_option linter.unusedVariables false
set_option linter.unusedSimpArgs false
def r3Right.f (a0 : Int) : Option (Bool):=if a0 = 1 then (some true) else (if a0 = 2 then (some true) else (if a0 = 4 then (some true) else (if a0 = 8 then (some true) else (if a0 = 16 then (some true) else (some (a0 == 32))))))
set_option maxHeartbeats 8000000 in
set_option maxRecDepth 100000 in
theorem r3Right.calls (a0 : Int) (r : Bool) (w : World) (h : r3Right.f a0 = some r) :
 Calls Tryd.prog 44 #[.int .i64 a0] w fun e w'=>e = .returned (.bool r)∧Drawn0 w w':=by
 have H : (if a0 = 1 then (some true) else (if a0 = 2 then (some true) else (if a0 = 4 then (some true) else (if a0 = 8 then (some true) else (if a0 = 16 then (some true) else (some (a0 == 32))))))) = some r:=h
 clear h
 by_cases c2 : a0 = 1
 · rw [if_pos c2] at H
   have c2b0 : (a0 == 1) = true:=beq_iff_eq.mpr c2
   have c2b1 : (a0 != 1) = false:=bne_eq_false_iff_eq.mpr c2
   clear c2
   obtain rfl:=Option.some.inj H
   go_enter Tryd.func44,Tryd.ntmps44
   go_wp2
   go_ret
   exact ⟨by first | rfl | (simp;done) | (simp [*];done),by repeat (first | exact Drawn0.refl _ | apply Drawn0.step)⟩
 · rw [if_neg c2] at H
   have c2b0 : (a0 == 1) = false:=beq_eq_false_iff_ne.mpr c2
   have c2b1 : (a0 != 1) = true:=bne_iff_ne.mpr c2
   by_cases c3 : a0 = 2
   · rw [if_pos c3] at H
     have c3b0 : (a0 == 2) = true:=beq_iff_eq.mpr c3
     have c3b1 : (a0 != 2) = false:=bne_eq_false_iff_eq.mpr c3
     clear c3
     obtain rfl:=Option.some.inj H
     go_enter Tryd.func44,Tryd.ntmps44
     go_wp2
     go_ret
     exact ⟨by first | rfl | (simp;done) | (simp [*];done),by repeat (first | exact Drawn0.refl _ | apply Drawn0.step)⟩
   · rw [if_neg c3] at H
     have c3b0 : (a0 == 2) = false:=beq_eq_false_iff_ne.mpr c3
     have c3b1 : (a0 != 2) = true:=bne_iff_ne.mpr c3
     by_cases c4 : a0 = 4
     · rw [if_pos c4] at H
       have c4b0 : (a0 == 4) = true:=beq_iff_eq.mpr c4
       have c4b1 : (a0 != 4) = false:=bne_eq_false_iff_eq.mpr c4
       clear c4
       obtain rfl:=Option.some.inj H
       go_enter Tryd.func44,Tryd.ntmps44
       go_wp2
       go_ret
       exact ⟨by first | rfl | (simp;done) | (simp [*];done),by repeat (first | exact Drawn0.refl _ | apply Drawn0.step)⟩
     · rw [if_neg c4] at H
       have c4b0 : (a0 == 4) = false:=beq_eq_false_iff_ne.mpr c4
       have c4b1 : (a0 != 4) = true:=bne_iff_ne.mpr c4
       by_cases c5 : a0 = 8
       · rw [if_pos c5] at H
         have c5b0 : (a0 == 8) = true:=beq_iff_eq.mpr c5
         have c5b1 : (a0 != 8) = false:=bne_eq_false_iff_eq.mpr c5
         clear c5
         obtain rfl:=Option.some.inj H
         go_enter Tryd.func44,Tryd.ntmps44
         go_wp2
         go_ret
         exact ⟨by first | rfl | (simp;done) | (simp [*];done),by repeat (first | exact Drawn0.refl _ | apply Drawn0.step)⟩
       · rw [if_neg c5] at H
         have c5b0 : (a0 == 8) = false:=beq_eq_false_iff_ne.mpr c5
         have c5b1 : (a0 != 8) = true:=bne_iff_ne.mpr c5
         by_cases c6 : a0 = 16
         · rw [if_pos c6] at H
           have c6b0 : (a0 == 16) = true:=beq_iff_eq.mpr c6
           have c6b1 : (a0 != 16) = false:=bne_eq_false_iff_eq.mpr c6
           clear c6
           obtain rfl:=Option.some.inj H
           go_enter Tryd.func44,Tryd.ntmps44
           go_wp2
           go_ret
           exact ⟨by first | rfl | (simp;done) | (simp [*];done),by repeat (first | exact Drawn0.refl _ | apply Drawn0.step)⟩
         · rw [if_neg c6] at H
           have c6b0 : (a0 == 16) = false:=beq_eq_false_iff_ne.mpr c6
           have c6b1 : (a0 != 16) = true:=bne_iff_ne.mpr c6
           obtain rfl:=Option.some.inj H
           go_enter Tryd.func44,Tryd.ntmps44
           go_wp2
           go_ret
           exact ⟨by first | rfl | (simp;done) | (simp [*];done),by repeat (first | exact Drawn0.refl _ | apply Drawn0.step)⟩
def r4Full.f (l0 : List (S29)) (a1 : Int) : Option (Bool):=if a1≥0 then ((r4Leaves.f l0).bind fun t302=>(if a1 < t302 then (if 0≤(wrap64 (2 * a1)) then (if (wrap64 (2 * a1)) < (l0.length : Int) then (some ((rd_T29 l0 (wrap64 (2 * a1))).f0)) else (none)) else (none)) else (some false))) else (some false)
set_option maxHeartbeats 8000000 in
set_option maxRecDepth 100000 in
theorem r4Full.calls (A0 : Option Addr) (c0 : Nat) (l0 : List (S29)) (a1 : Int) (r : Bool) (w : World) (hr0 : Kd.C k29 w A0 l0.length l0) (hc0 : l0.length≤c0) (h : r4Full.f l0 a1 = some r) :
 Calls Tryd.prog 22 #[.slice A0 l0.length c0,.int .i64 a1] w fun e w'=>e = .returned (.bool r)∧Drawn0 w w':=by
 have HR0:=Az.mk hr0
 have HC0:=Az.mk hc0
 clear hr0 hc0
 have H : (if a1≥0 then ((r4Leaves.f l0).bind fun t302=>(if a1 < t302 then (if 0≤(wrap64 (2 * a1)) then (if (wrap64 (2 * a1)) < (l0.length : Int) then (some ((rd_T29 l0 (wrap64 (2 * a1))).f0)) else (none)) else (none)) else (some false))) else (some false)) = some r:=h
 clear h
 by_cases c3 : a1≥0
 · rw [if_pos c3] at H
   have c3b0 : decide (0≤a1) = true:=decide_eq_true c3
   clear c3
   replace H:=Option.bind_eq_some_iff.mp H
   obtain ⟨t302,A40,H⟩:=H
   replace H : (if a1 < t302 then (if 0≤(wrap64 (2 * a1)) then (if (wrap64 (2 * a1)) < (l0.length : Int) then (some ((rd_T29 l0 (wrap64 (2 * a1))).f0)) else (none)) else (none)) else (some false)) = some r:=H
   have A4:=Az.mk A40
   clear A40
   by_cases c5 : a1 < t302
   · rw [if_pos c5] at H
     have c5b0 : decide (a1 < t302) = true:=decide_eq_true c5
     clear c5
     obtain ⟨ji6,hji6⟩ : ∃ j_ : Int,(wrap64 (2 * a1)) = j_:=⟨_,rfl⟩
     replace H : (if 0≤(ji6) then (if (ji6) < (l0.length : Int) then (some ((rd_T29 l0 (ji6)).f0)) else (none)) else (none)) = some r:=by first | (rw [hji6] at H;exact H) | (simp only [hji6] at H ⊢;exact H)
     (try rw [hji6] at A4)
     have hji6w : (IntKind.i64.wrap (2 * a1)) = ji6:=(i64_w _).trans hji6
     by_cases c7 : 0≤(ji6)
     · rw [if_pos c7] at H
       have c7b0 : decide (0≤(ji6)) = true:=decide_eq_true c7
       clear c7
       by_cases c8 : (ji6) < (l0.length : Int)
       · rw [if_pos c8] at H
         have c8b0 : decide ((ji6) < (l0.length : Int)) = true:=decide_eq_true c8
         clear c8
         obtain rfl:=Option.some.inj H
         go_enter Tryd.func22,Tryd.ntmps22
         go_wp2_with (first | (go_at_call 21;(with_reducible refine (r4Leaves.calls _ _ l0 t302 _ ?side1 ?side2 A4.out).mono ?_);(case side1=>exact C_mv (HR0.out));(case side2=>exact HC0.out);rintro e w' ⟨rfl,⟨nd,rfl⟩⟩;have p303 : 0≤((ji6) : Int):=of_decide_eq_true (by first | (with_reducible assumption) | assumption);have q303 : (ji6) < (l0.length : Int):=of_decide_eq_true (by first | (with_reducible assumption) | assumption);obtain ⟨ad303,A303_5,c303_5,e303,hx303_0,hx303_1,hx303_2,hx303_3,hx303_4,hx303_5,hl303_5,hi303_5⟩:=at_T29 HR0.out (ji6) p303 q303;cases e303;have HR303_5:=Az.mk hi303_5;have HC303_5:=Az.mk hl303_5;clear hi303_5 hl303_5;replace p303:=eq_true p303;replace q303:=eq_true q303))
         go_ret
         exact ⟨by first | rfl | (simp;done) | (simp only [← hji6] <;> (first | rfl | simp)) | (simp [*];done),by repeat (first | exact Drawn0.refl _ | apply Drawn0.step)⟩
       · rw [if_neg c8] at H
         exact absurd H (by simp)
     · rw [if_neg c7] at H
       exact absurd H (by simp)
   · rw [if_neg c5] at H
     have c5b0 : decide (a1 < t302) = false:=decide_eq_false c5
     clear c5
     obtain rfl:=Option.some.inj H
     go_enter Tryd.func22,Tryd.ntmps22
     go_wp2_with (first | (go_at_call 21;(with_reducible refine (r4Leaves.calls _ _ l0 t302 _ ?side1 ?side2 A4.out).mono ?_);(case side1=>exact C_mv (HR0.out));(case side2=>exact HC0.out);rintro e w' ⟨rfl,⟨nd,rfl⟩⟩))
     go_ret
     exact ⟨by first | rfl | (simp;done) | (simp [*];done),by repeat (first | exact Drawn0.refl _ | apply Drawn0.step)⟩
 · rw [if_neg c3] at H
   have c3b0 : decide (0≤a1) = false:=decide_eq_false c3
   clear c3
   obtain rfl:=Option.some.inj H
   go_enter Tryd.func22,Tryd.ntmps22
   go_wp2
   go_ret
   exact ⟨by first | rfl | (simp;done) | (simp [*];done),by repeat (first | exact Drawn0.refl _ | apply Drawn0.step)⟩
def r4Tight.l0 : Nat→List (S29)→Int→Int→Option (Bool)
 | 0,_,_,_=>none
 | k + 1,x0,x3,x4=>if x4 < x3 then ((r4Full.f x0 x4).bind fun t305=>(if t305 = true then (some true) else (r4Tight.l0 k x0 x3 (wrap64 (x4 + 1))))) else (some false)
def r4Tight.f (k : Nat) (l0 : List (S29)) : Option (Bool):=(r4Leaves.f l0).bind fun t304=>(r4Tight.l0 k l0 t304 (wrap64 (Int.tdiv t304 2)))
theorem r4Tight.mono_l : ∀ k,(∀ y0 y1 y2,LeO (r4Tight.l0 k y0 y1 y2) (r4Tight.l0 (k + 1) y0 y1 y2))
 | 0=>fun _ _ _ r h=>by simp [r4Tight.l0] at h
 | k + 1=>by
  have ih0:=r4Tight.mono_l k
  · intro y0 y1 y2
    unfold r4Tight.l0
    repeat' first
    | (with_reducible exact ih0 _ _ _)
    | (with_reducible exact LeO.refl _)
    | (with_reducible exact LeO.none _)
    | (with_reducible refine LeO.ite ?_ ?_)
    | (with_reducible refine LeO.bind ?_ (fun _=>?_))
    | exact ih0 _ _ _
    | exact LeO.none _
    | refine LeO.ite ?_ ?_
    | refine LeO.bind ?_ (fun _=>?_)
theorem r4Tight.mono : ∀ a0 k,LeO (r4Tight.f k a0) (r4Tight.f (k + 1) a0):=by
 intro a0 k
 have ih0:=r4Tight.mono_l k
 unfold r4Tight.f
 repeat' first
  | (with_reducible exact ih0 _ _ _)
  | (with_reducible exact LeO.refl _)
  | (with_reducible exact LeO.none _)
  | (with_reducible refine LeO.ite ?_ ?_)
  | (with_reducible refine LeO.bind ?_ (fun _=>?_))
  | exact ih0 _ _ _
  | exact LeO.none _
  | refine LeO.ite ?_ ?_
  | refine LeO.bind ?_ (fun _=>?_)
set_option maxHeartbeats 8000000 in
set_option maxRecDepth 100000 in
theorem r4Tight.calls (k : Nat) (A0 : Option Addr) (c0 : Nat) (l0 : List (S29)) (r : Bool) (w : World) (hr0 : Kd.C k29 w A0 l0.length l0) (hc0 : l0.length≤c0) (h : r4Tight.f k l0 = some r) :
 Calls Tryd.prog 45 #[.slice A0 l0.length c0] w fun e w'=>e = .returned (.bool r)∧Drawn0 w w':=by
 have HR0:=Az.mk hr0
 have HC0:=Az.mk hc0
 clear hr0 hc0
 have H : ((r4Leaves.f l0).bind fun t304=>(r4Tight.l0 k l0 t304 (wrap64 (Int.tdiv t304 2)))) = some r:=h
 clear h
 replace H:=Option.bind_eq_some_iff.mp H
 obtain ⟨t304,A20,H⟩:=H
 replace H : (r4Tight.l0 k l0 t304 (wrap64 (Int.tdiv t304 2))) = some r:=H
 have A2:=Az.mk A20
 clear A20
 have H':=Az.mk H
 clear H
 go_enter Tryd.func45,Tryd.ntmps45
 go_wp2_with (first | ((with_reducible refine gate_callee (f:=21) rfl ?_);refine goesL_ (some 6) rfl rfl Tryd.func21 (by kernel_rfl) rfl #[.slice A0 l0.length c0] rfl (by (try simp only [List.map_toArray,List.map_cons,List.map_nil]);first | done | rfl | (simp only [List.length_drop,List.length_take];rfl)) ?_;(with_reducible refine (r4Leaves.calls _ _ l0 t304 _ ?side1 ?side2 A2.out).mono ?_);(case side1=>exact C_mv (HR0.out));(case side2=>exact HC0.out);rintro e w' ⟨rfl,⟨nd,rfl⟩⟩;refine ⟨_,rfl,?_⟩))
 go_loopg [4] k (fun kq v4 w'=>∃ (x4_1 : Int),v4 = .int .i64 x4_1∧Az (r4Tight.l0 kq l0 t304 x4_1 = some r)∧Az (kq≤k)∧Drawn0 w w')
 case atStart=>exact ⟨(wrap64 (Int.tdiv t304 2)),(by first | rfl | (simp;done) | (simp [*];done)),H',⟨Nat.le_refl _⟩,by repeat (first | exact Drawn0.refl _ | apply Drawn0.step)⟩
 case round=>
  clear H'
  obtain ⟨x4_1,rfl,HA,HK1,⟨m1,rfl⟩⟩:=hrel
  cases gk with
  | zero=>exact absurd HA.out (by simp [r4Tight.l0])
  | succ k1=>
   have H:=HA.out
   clear HA
   simp only [r4Tight.l0] at H
   by_cases c3 : x4_1 < t304
   · rw [if_pos c3] at H
     have c3b0 : decide (x4_1 < t304) = true:=decide_eq_true c3
     clear c3
     replace H:=Option.bind_eq_some_iff.mp H
     obtain ⟨t305,A40,H⟩:=H
     replace H : (if t305 = true then (some true) else (r4Tight.l0 k1 l0 t304 (wrap64 (x4_1 + 1)))) = some r:=H
     have A4:=Az.mk A40
     clear A40
     by_cases c5 : t305 = true
     · subst c5
       have H1 : (some true) = some r:=by rw [if_pos rfl] at H;exact H
       clear H
       have H:=H1
       clear H1
       obtain rfl:=Option.some.inj H
       go_wp2_with (first | ((with_reducible refine gate_callee (f:=22) rfl ?_);refine goesL_ (some 16) rfl rfl Tryd.func22 (by kernel_rfl) rfl #[.slice A0 l0.length c0,.int .i64 x4_1] rfl (by (try simp only [List.map_toArray,List.map_cons,List.map_nil]);first | done | rfl | (simp only [List.length_drop,List.length_take];rfl)) ?_;(with_reducible refine (r4Full.calls _ _ l0 x4_1 true _ ?side1 ?side2 A4.out).mono ?_);(case side1=>exact C_mv (HR0.out));(case side2=>exact HC0.out);rintro e w' ⟨rfl,⟨nd,rfl⟩⟩;refine ⟨_,rfl,?_⟩))
       go_ret
       exact ⟨by first | rfl | (simp;done) | (simp [*];done),by repeat (first | exact Drawn0.refl _ | apply Drawn0.step)⟩
     · replace c5:=Bool.eq_false_iff.mpr c5
       subst c5
       have H1 : (r4Tight.l0 k1 l0 t304 (wrap64 (x4_1 + 1))) = some r:=by rw [if_neg (show ¬ (false = true) by decide)] at H;exact H
       clear H
       have H:=H1
       clear H1
       have H':=Az.mk H
       clear H
       go_wp2_with (first | ((with_reducible refine gate_callee (f:=22) rfl ?_);refine goesL_ (some 16) rfl rfl Tryd.func22 (by kernel_rfl) rfl #[.slice A0 l0.length c0,.int .i64 x4_1] rfl (by (try simp only [List.map_toArray,List.map_cons,List.map_nil]);first | done | rfl | (simp only [List.length_drop,List.length_take];rfl)) ?_;(with_reducible refine (r4Full.calls _ _ l0 x4_1 false _ ?side1 ?side2 A4.out).mono ?_);(case side1=>exact C_mv (HR0.out));(case side2=>exact HC0.out);rintro e w' ⟨rfl,⟨nd,rfl⟩⟩;refine ⟨_,rfl,?_⟩))
       go_roundg k1
       case measure=>have:=HK1.out;omega
       case rel=>exact ⟨(wrap64 (x4_1 + 1)),(by first | rfl | (simp;done) | (simp [*];done)),H',⟨by have:=HK1.out;omega⟩,by repeat (first | exact Drawn0.refl _ | apply Drawn0.step)⟩
   · rw [if_neg c3] at H
     have c3b0 : decide (x4_1 < t304) = false:=decide_eq_false c3
     clear c3
     obtain rfl:=Option.some.inj H
     go_wp2
     go_ret
     exact ⟨by first | rfl | (simp;done) | (simp [*];done),by repeat (first | exact Drawn0.refl _ | apply Drawn0.step)⟩
def r3In.f (a0 : Int) (a1 : Int) : Option (Bool):=(r3Right.f a1).bind fun t306=>(if t306 = true then (if a0≥0 then (some (decide (a0 < (wrap64 ((wrap64 (2 * a1)) - 1))))) else (some false)) else (some false))
set_option maxHeartbeats 8000000 in
set_option maxRecDepth 100000 in
theorem r3In.calls (a0 : Int) (a1 : Int) (r : Bool) (w : World) (h : r3In.f a0 a1 = some r) :
 Calls Tryd.prog 58 #[.int .i64 a0,.int .i64 a1] w fun e w'=>e = .returned (.bool r)∧Drawn0 w w':=by
 have H : ((r3Right.f a1).bind fun t306=>(if t306 = true then (if a0≥0 then (some (decide (a0 < (wrap64 ((wrap64 (2 * a1)) - 1))))) else (some false)) else (some false))) = some r:=h
 clear h
 replace H:=Option.bind_eq_some_iff.mp H
 obtain ⟨t306,A30,H⟩:=H
 replace H : (if t306 = true then (if a0≥0 then (some (decide (a0 < (wrap64 ((wrap64 (2 * a1)) - 1))))) else (some false)) else (some false)) = some r:=H
 have A3:=Az.mk A30
 clear A30
 by_cases c4 : t306 = true
 · subst c4
   have H1 : (if a0≥0 then (some (decide (a0 < (wrap64 ((wrap64 (2 * a1)) - 1))))) else (some false)) = some r:=by rw [if_pos rfl] at H;exact H
   clear H
   have H:=H1
   clear H1
   by_cases c5 : a0≥0
   · rw [if_pos c5] at H
     have c5b0 : decide (0≤a0) = true:=decide_eq_true c5
     clear c5
     obtain rfl:=Option.some.inj H
     go_enter Tryd.func58,Tryd.ntmps58
     go_wp2_with (first | ((with_reducible refine gate_callee (f:=44) rfl ?_);refine goesL_ (some 6) rfl rfl Tryd.func44 (by kernel_rfl) rfl #[.int .i64 a1] rfl (by (try simp only [List.map_toArray,List.map_cons,List.map_nil]);first | done | rfl | (simp only [List.length_drop,List.length_take];rfl)) ?_;(with_reducible refine (r3Right.calls a1 true _ A3.out).mono ?_);rintro e w' ⟨rfl,⟨nd,rfl⟩⟩;refine ⟨_,rfl,?_⟩))
     go_ret
     exact ⟨by first | rfl | (simp;done) | (simp [*];done),by repeat (first | exact Drawn0.refl _ | apply Drawn0.step)⟩
   · rw [if_neg c5] at H
     have c5b0 : decide (0≤a0) = false:=decide_eq_false c5
     clear c5
     obtain rfl:=Option.some.inj H
     go_enter Tryd.func58,Tryd.ntmps58
     go_wp2_with (first | ((with_reducible refine gate_callee (f:=44) rfl ?_);refine goesL_ (some 6) rfl rfl Tryd.func44 (by kernel_rfl) rfl #[.int .i64 a1] rfl (by (try simp only [List.map_toArray,List.map_cons,List.map_nil]);first | done | rfl | (simp only [List.length_drop,List.length_take];rfl)) ?_;(with_reducible refine (r3Right.calls a1 true _ A3.out).mono ?_);rintro e w' ⟨rfl,⟨nd,rfl⟩⟩;refine ⟨_,rfl,?_⟩))
     go_ret
     exact ⟨by first | rfl | (simp;done) | (simp [*];done),by repeat (first | exact Drawn0.refl _ | apply Drawn0.step)⟩
 · replace c4:=Bool.eq_false_iff.mpr c4
   subst c4
   have H1 : (some false) = some r:=by rw [if_neg (show ¬ (false = true) by decide)] at H;exact H
   clear H
   have H:=H1
   clear H1
   obtain rfl:=Option.some.inj H
   go_enter Tryd.func58,Tryd.ntmps58
   go_wp2_with (first | ((with_reducible refine gate_callee (f:=44) rfl ?_);refine goesL_ (some 6) rfl rfl Tryd.func44 (by kernel_rfl) rfl #[.int .i64 a1] rfl (by (try simp only [List.map_toArray,List.map_cons,List.map_nil]);first | done | rfl | (simp only [List.length_drop,List.length_take];rfl)) ?_;(with_reducible refine (r3Right.calls a1 false _ A3.out).mono ?_);rintro e w' ⟨rfl,⟨nd,rfl⟩⟩;refine ⟨_,rfl,?_⟩))
   go_ret
   exact ⟨by first | rfl | (simp;done) | (simp [*];done),by repeat (first | exact Drawn0.refl _ | apply Drawn0.step)⟩
def r3Level.l0 : Nat→Int→Int→Option (Int)
 | 0,_,_=>none
 | k + 1,x0,x3=>if x0 > 0 then (if (Int.tmod x0 2) = 1 then (r3Level.l0 k (wrap64 (Int.tdiv x0 2)) (wrap64 (x3 + 1))) else (some x3)) else (some x3)
def r3Level.f (k : Nat) (a0 : Int) : Option (Int):=r3Level.l0 k a0 0
theorem r3Level.mono_l : ∀ k,(∀ y0 y1,LeO (r3Level.l0 k y0 y1) (r3Level.l0 (k + 1) y0 y1))
 | 0=>fun _ _ r h=>by simp [r3Level.l0] at h
 | k + 1=>by
  have ih0:=r3Level.mono_l k
  · intro y0 y1
    unfold r3Level.l0
    repeat' first
    | (with_reducible exact ih0 _ _)
    | (with_reducible exact LeO.refl _)
    | (with_reducible exact LeO.none _)
    | (with_reducible refine LeO.ite ?_ ?_)
    | (with_reducible refine LeO.bind ?_ (fun _=>?_))
    | exact ih0 _ _
    | exact LeO.none _
    | refine LeO.ite ?_ ?_
    | refine LeO.bind ?_ (fun _=>?_)
theorem r3Level.mono : ∀ a0 k,LeO (r3Level.f k a0) (r3Level.f (k + 1) a0):=by
 intro a0 k
 have ih0:=r3Level.mono_l k
 unfold r3Level.f
 repeat' first
  | (with_reducible exact ih0 _ _)
  | (with_reducible exact LeO.refl _)
  | (with_reducible exact LeO.none _)
  | (with_reducible refine LeO.ite ?_ ?_)
  | (with_reducible refine LeO.bind ?_ (fun _=>?_))
  | exact ih0 _ _
  | exact LeO.none _
  | refine LeO.ite ?_ ?_
  | refine LeO.bind ?_ (fun _=>?_)
set_option maxHeartbeats 8000000 in
set_option maxRecDepth 100000 in
theorem r3Level.calls (k : Nat) (a0 : Int) (r : Int) (w : World) (h : r3Level.f k a0 = some r) :
 Calls Tryd.prog 77 #[.int .i64 a0] w fun e w'=>e = .returned (.int .i64 r)∧Drawn0 w w':=by
 have H : (r3Level.l0 k a0 0) = some r:=h
 clear h
 have H':=Az.mk H
 clear H
 go_enter Tryd.func77,Tryd.ntmps77
 go_wp2
 go_loopg [0,3] k (fun kq v0 v3 w'=>∃ (x0_1 : Int) (x3_1 : Int),v0 = .int .i64 x0_1∧v3 = .int .i64 x3_1∧Az (r3Level.l0 kq x0_1 x3_1 = some r)∧Az (kq≤k)∧Drawn0 w w')
 case atStart=>exact ⟨(a0),(0),(by first | rfl | (simp;done) | (simp [*];done)),(by first | rfl | (simp;done) | (simp [*];done)),H',⟨Nat.le_refl _⟩,by repeat (first | exact Drawn0.refl _ | apply Drawn0.step)⟩
 case round=>
  clear H'
  obtain ⟨x0_1,x3_1,rfl,rfl,HA,HK1,⟨m1,rfl⟩⟩:=hrel
  cases gk with
  | zero=>exact absurd HA.out (by simp [r3Level.l0])
  | succ k1=>
   have H:=HA.out
   clear HA
   simp only [r3Level.l0] at H
   by_cases c2 : x0_1 > 0
   · rw [if_pos c2] at H
     have c2b0 : decide (0 < x0_1) = true:=decide_eq_true c2
     clear c2
     by_cases c3 : (Int.tmod x0_1 2) = 1
     · rw [if_pos c3] at H
       have c3b0 : ((Int.tmod x0_1 2) == 1) = true:=beq_iff_eq.mpr c3
       have c3b1 : ((Int.tmod x0_1 2) != 1) = false:=bne_eq_false_iff_eq.mpr c3
       clear c3
       have H':=Az.mk H
       clear H
       go_wp2
       go_roundg k1
       case measure=>have:=HK1.out;omega
       case rel=>exact ⟨(wrap64 (Int.tdiv x0_1 2)),(wrap64 (x3_1 + 1)),(by first | rfl | (simp;done) | (simp [*];done)),(by first | rfl | (simp;done) | (simp [*];done)),H',⟨by have:=HK1.out;omega⟩,by repeat (first | exact Drawn0.refl _ | apply Drawn0.step)⟩
     · rw [if_neg c3] at H
       have c3b0 : ((Int.tmod x0_1 2) == 1) = false:=beq_eq_false_iff_ne.mpr c3
       have c3b1 : ((Int.tmod x0_1 2) != 1) = true:=bne_iff_ne.mpr c3
       obtain rfl:=Option.some.inj H
       go_wp2
       go_ret
       exact ⟨by first | rfl | (simp;done) | (simp [*];done),by repeat (first | exact Drawn0.refl _ | apply Drawn0.step)⟩
   · rw [if_neg c2] at H
     have c2b0 : decide (0 < x0_1) = false:=decide_eq_false c2
     clear c2
     obtain rfl:=Option.some.inj H
     go_wp2
     go_ret
     exact ⟨by first | rfl | (simp;done) | (simp [*];done),by repeat (first | exact Drawn0.refl _ | apply Drawn0.step)⟩
def r3Width.l0 : Nat→Int→Int→Option (Int)
 | 0,_,_=>none
 | k + 1,x3,x4=>if x4 > 0 then (r3Width.l0 k (wrap64 (2 * x3)) (wrap64 (x4 - 1))) else (some (wrap64 (x3 - 1)))
def r3Width.f (k : Nat) (a0 : Int) : Option (Int):=(r3Level.f k a0).bind fun t307=>(r3Width.l0 k 1 t307)
theorem r3Width.mono_l : ∀ k,(∀ y0 y1,LeO (r3Width.l0 k y0 y1) (r3Width.l0 (k + 1) y0 y1))
 | 0=>fun _ _ r h=>by simp [r3Width.l0] at h
 | k + 1=>by
  have ih0:=r3Width.mono_l k
  · intro y0 y1
    unfold r3Width.l0
    repeat' first
    | (with_reducible exact ih0 _ _)
    | (with_reducible exact r3Level.mono _ _)
    | (with_reducible exact LeO.refl _)
    | (with_reducible exact LeO.none _)
    | (with_reducible refine LeO.ite ?_ ?_)
    | (with_reducible refine LeO.bind ?_ (fun _=>?_))
    | exact ih0 _ _
    | exact r3Level.mono _ _
    | exact LeO.none _
    | refine LeO.ite ?_ ?_
    | refine LeO.bind ?_ (fun _=>?_)
theorem r3Width.mono : ∀ a0 k,LeO (r3Width.f k a0) (r3Width.f (k + 1) a0):=by
 intro a0 k
 have ih0:=r3Width.mono_l k
 unfold r3Width.f
 repeat' first
  | (with_reducible exact ih0 _ _)
  | (with_reducible exact r3Level.mono _ _)
  | (with_reducible exact LeO.refl _)
  | (with_reducible exact LeO.none _)
  | (with_reducible refine LeO.ite ?_ ?_)
  | (with_reducible refine LeO.bind ?_ (fun _=>?_))
  | exact ih0 _ _
  | exact r3Level.mono _ _
  | exact LeO.none _
  | refine LeO.ite ?_ ?_
  | refine LeO.bind ?_ (fun _=>?_)
set_option maxHeartbeats 8000000 in
set_option maxRecDepth 100000 in
theorem r3Width.calls (k : Nat) (a0 : Int) (r : Int) (w : World) (h : r3Width.f k a0 = some r) :
 Calls Tryd.prog 59 #[.int .i64 a0] w fun e w'=>e = .returned (.int .i64 r)∧Drawn0 w w':=by
 have H : ((r3Level.f k a0).bind fun t307=>(r3Width.l0 k 1 t307)) = some r:=h
 clear h
 replace H:=Option.bind_eq_some_iff.mp H
 obtain ⟨t307,A20,H⟩:=H
 replace H : (r3Width.l0 k 1 t307) = some r:=H
 have A2:=Az.mk A20
 clear A20
 have H':=Az.mk H
 clear H
 go_enter Tryd.func59,Tryd.ntmps59
 go_wp2_with (first | ((with_reducible refine gate_callee (f:=77) rfl ?_);refine goesL_ (some 6) rfl rfl Tryd.func77 (by kernel_rfl) rfl #[.int .i64 a0] rfl (by (try simp only [List.map_toArray,List.map_cons,List.map_nil]);first | done | rfl | (simp only [List.length_drop,List.length_take];rfl)) ?_;(with_reducible refine (r3Level.calls k a0 t307 _ A2.out).mono ?_);rintro e w' ⟨rfl,⟨nd,rfl⟩⟩;refine ⟨_,rfl,?_⟩))
 go_loopg [3,4] k (fun kq v3 v4 w'=>∃ (x3_1 : Int) (x4_1 : Int),v3 = .int .i64 x3_1∧v4 = .int .i64 x4_1∧Az (r3Width.l0 kq x3_1 x4_1 = some r)∧Az (kq≤k)∧Drawn0 w w')
 case atStart=>exact ⟨(1),(t307),(by first | rfl | (simp;done) | (simp [*];done)),(by first | rfl | (simp;done) | (simp [*];done)),H',⟨Nat.le_refl _⟩,by repeat (first | exact Drawn0.refl _ | apply Drawn0.step)⟩
 case round=>
  clear H'
  obtain ⟨x3_1,x4_1,rfl,rfl,HA,HK1,⟨m1,rfl⟩⟩:=hrel
  cases gk with
  | zero=>exact absurd HA.out (by simp [r3Width.l0])
  | succ k1=>
   have H:=HA.out
   clear HA
   simp only [r3Width.l0] at H
   by_cases c3 : x4_1 > 0
   · rw [if_pos c3] at H
     have c3b0 : decide (0 < x4_1) = true:=decide_eq_true c3
     clear c3
     have H':=Az.mk H
     clear H
     go_wp2
     go_roundg k1
     case measure=>have:=HK1.out;omega
     case rel=>exact ⟨(wrap64 (2 * x3_1)),(wrap64 (x4_1 - 1)),(by first | rfl | (simp;done) | (simp [*];done)),(by first | rfl | (simp;done) | (simp [*];done)),H',⟨by have:=HK1.out;omega⟩,by repeat (first | exact Drawn0.refl _ | apply Drawn0.step)⟩
   · rw [if_neg c3] at H
     have c3b0 : decide (0 < x4_1) = false:=decide_eq_false c3
     clear c3
     obtain rfl:=Option.some.inj H
     go_wp2
     go_ret
     exact ⟨by first | rfl | (simp;done) | (simp [*];done),by repeat (first | exact Drawn0.refl _ | apply Drawn0.step)⟩
def r3Under.f (k : Nat) (a0 : Int) (a1 : Int) (a2 : Int) : Option (Bool):=(r3In.f a0 a2).bind fun t308=>(if t308 = true then ((r3In.f a1 a2).bind fun t309=>(if t309 = true then ((r3Width.f k a1).bind fun t310=>(if a0≥(wrap64 (a1 - t310)) then (some (decide (a0≤(wrap64 (a1 + t310))))) else (some false))) else (some false))) else (some false))
theorem r3Under.mono : ∀ a0 a1 a2 k,LeO (r3Under.f k a0 a1 a2) (r3Under.f (k + 1) a0 a1 a2):=by
 intro a0 a1 a2 k
 unfold r3Under.f
 repeat' first
  | (with_reducible exact r3Width.mono _ _)
  | (with_reducible exact LeO.refl _)
  | (with_reducible exact LeO.none _)
  | (with_reducible refine LeO.ite ?_ ?_)
  | (with_reducible refine LeO.bind ?_ (fun _=>?_))
  | exact r3Width.mono _ _
  | exact LeO.none _
  | refine LeO.ite ?_ ?_
  | refine LeO.bind ?_ (fun _=>?_)
set_option maxHeartbeats 8000000 in
set_option maxRecDepth 100000 in
theorem r3Under.calls (k : Nat) (a0 : Int) (a1 : Int) (a2 : Int) (r : Bool) (w : World) (h : r3Under.f k a0 a1 a2 = some r) :
 Calls Tryd.prog 26 #[.int .i64 a0,.int .i64 a1,.int .i64 a2] w fun e w'=>e = .returned (.bool r)∧Drawn0 w w':=by
 have H : ((r3In.f a0 a2).bind fun t308=>(if t308 = true then ((r3In.f a1 a2).bind fun t309=>(if t309 = true then ((r3Width.f k a1).bind fun t310=>(if a0≥(wrap64 (a1 - t310)) then (some (decide (a0≤(wrap64 (a1 + t310))))) else (some false))) else (some false))) else (some false))) = some r:=h
 clear h
 replace H:=Option.bind_eq_some_iff.mp H
 obtain ⟨t308,A40,H⟩:=H
 replace H : (if t308 = true then ((r3In.f a1 a2).bind fun t309=>(if t309 = true then ((r3Width.f k a1).bind fun t310=>(if a0≥(wrap64 (a1 - t310)) then (some (decide (a0≤(wrap64 (a1 + t310))))) else (some false))) else (some false))) else (some false)) = some r:=H
 have A4:=Az.mk A40
 clear A40
 by_cases c5 : t308 = true
 · subst c5
   have H1 : ((r3In.f a1 a2).bind fun t309=>(if t309 = true then ((r3Width.f k a1).bind fun t310=>(if a0≥(wrap64 (a1 - t310)) then (some (decide (a0≤(wrap64 (a1 + t310))))) else (some false))) else (some false))) = some r:=by rw [if_pos rfl] at H;exact H
   clear H
   have H:=H1
   clear H1
   replace H:=Option.bind_eq_some_iff.mp H
   obtain ⟨t309,A60,H⟩:=H
   replace H : (if t309 = true then ((r3Width.f k a1).bind fun t310=>(if a0≥(wrap64 (a1 - t310)) then (some (decide (a0≤(wrap64 (a1 + t310))))) else (some false))) else (some false)) = some r:=H
   have A6:=Az.mk A60
   clear A60
   by_cases c7 : t309 = true
   · subst c7
     have H1 : ((r3Width.f k a1).bind fun t310=>(if a0≥(wrap64 (a1 - t310)) then (some (decide (a0≤(wrap64 (a1 + t310))))) else (some false))) = some r:=by rw [if_pos rfl] at H;exact H
     clear H
     have H:=H1
     clear H1
     replace H:=Option.bind_eq_some_iff.mp H
     obtain ⟨t310,A80,H⟩:=H
     replace H : (if a0≥(wrap64 (a1 - t310)) then (some (decide (a0≤(wrap64 (a1 + t310))))) else (some false)) = some r:=H
     have A8:=Az.mk A80
     clear A80
     by_cases c9 : a0≥(wrap64 (a1 - t310))
     · rw [if_pos c9] at H
       have c9b0 : decide ((wrap64 (a1 - t310))≤a0) = true:=decide_eq_true c9
       clear c9
       obtain rfl:=Option.some.inj H
       go_enter Tryd.func26,Tryd.ntmps26
       go_wp2_with (first | ((with_reducible refine gate_callee (f:=58) rfl ?_);refine goesL_ (some 10) rfl rfl Tryd.func58 (by kernel_rfl) rfl #[.int .i64 a0,.int .i64 a2] rfl (by (try simp only [List.map_toArray,List.map_cons,List.map_nil]);first | done | rfl | (simp only [List.length_drop,List.length_take];rfl)) ?_;(with_reducible refine (r3In.calls a0 a2 true _ A4.out).mono ?_);rintro e w' ⟨rfl,⟨nd,rfl⟩⟩;refine ⟨_,rfl,?_⟩) | (go_at_call 58;(with_reducible refine (r3In.calls a1 a2 true _ A6.out).mono ?_);rintro e w' ⟨rfl,⟨nd,rfl⟩⟩) | ((with_reducible refine gate_callee (f:=59) rfl ?_);refine goesL_ (some 19) rfl rfl Tryd.func59 (by kernel_rfl) rfl #[.int .i64 a1] rfl (by (try simp only [List.map_toArray,List.map_cons,List.map_nil]);first | done | rfl | (simp only [List.length_drop,List.length_take];rfl)) ?_;(with_reducible refine (r3Width.calls k a1 t310 _ A8.out).mono ?_);rintro e w' ⟨rfl,⟨nd,rfl⟩⟩;refine ⟨_,rfl,?_⟩))
       go_ret
       exact ⟨by first | rfl | (simp;done) | (simp [*];done),by repeat (first | exact Drawn0.refl _ | apply Drawn0.step)⟩
     · rw [if_neg c9] at H
       have c9b0 : decide ((wrap64 (a1 - t310))≤a0) = false:=decide_eq_false c9
       clear c9
       obtain rfl:=Option.some.inj H
       go_enter Tryd.func26,Tryd.ntmps26
       go_wp2_with (first | ((with_reducible refine gate_callee (f:=58) rfl ?_);refine goesL_ (some 10) rfl rfl Tryd.func58 (by kernel_rfl) rfl #[.int .i64 a0,.int .i64 a2] rfl (by (try simp only [List.map_toArray,List.map_cons,List.map_nil]);first | done | rfl | (simp only [List.length_drop,List.length_take];rfl)) ?_;(with_reducible refine (r3In.calls a0 a2 true _ A4.out).mono ?_);rintro e w' ⟨rfl,⟨nd,rfl⟩⟩;refine ⟨_,rfl,?_⟩) | (go_at_call 58;(with_reducible refine (r3In.calls a1 a2 true _ A6.out).mono ?_);rintro e w' ⟨rfl,⟨nd,rfl⟩⟩) | ((with_reducible refine gate_callee (f:=59) rfl ?_);refine goesL_ (some 19) rfl rfl Tryd.func59 (by kernel_rfl) rfl #[.int .i64 a1] rfl (by (try simp only [List.map_toArray,List.map_cons,List.map_nil]);first | done | rfl | (simp only [List.length_drop,List.length_take];rfl)) ?_;(with_reducible refine (r3Width.calls k a1 t310 _ A8.out).mono ?_);rintro e w' ⟨rfl,⟨nd,rfl⟩⟩;refine ⟨_,rfl,?_⟩))
       go_ret
       exact ⟨by first | rfl | (simp;done) | (simp [*];done),by repeat (first | exact Drawn0.refl _ | apply Drawn0.step)⟩
   · replace c7:=Bool.eq_false_iff.mpr c7
     subst c7
     have H1 : (some false) = some r:=by rw [if_neg (show ¬ (false = true) by decide)] at H;exact H
     clear H
     have H:=H1
     clear H1
     obtain rfl:=Option.some.inj H
     go_enter Tryd.func26,Tryd.ntmps26
     go_wp2_with (first | ((with_reducible refine gate_callee (f:=58) rfl ?_);refine goesL_ (some 10) rfl rfl Tryd.func58 (by kernel_rfl) rfl #[.int .i64 a0,.int .i64 a2] rfl (by (try simp only [List.map_toArray,List.map_cons,List.map_nil]);first | done | rfl | (simp only [List.length_drop,List.length_take];rfl)) ?_;(with_reducible refine (r3In.calls a0 a2 true _ A4.out).mono ?_);rintro e w' ⟨rfl,⟨nd,rfl⟩⟩;refine ⟨_,rfl,?_⟩) | (go_at_call 58;(with_reducible refine (r3In.calls a1 a2 false _ A6.out).mono ?_);rintro e w' ⟨rfl,⟨nd,rfl⟩⟩))
     go_ret
     exact ⟨by first | rfl | (simp;done) | (simp [*];done),by repeat (first | exact Drawn0.refl _ | apply Drawn0.step)⟩
 · replace c5:=Bool.eq_false_iff.mpr c5
   subst c5
   have H1 : (some false) = some r:=by rw [if_neg (show ¬ (false = true) by decide)] at H;exact H
   clear H
   have H:=H1
   clear H1
   obtain rfl:=Option.some.inj H
   go_enter Tryd.func26,Tryd.ntmps26
   go_wp2_with (first | ((with_reducible refine gate_callee (f:=58) rfl ?_);refine goesL_ (some 10) rfl rfl Tryd.func58 (by kernel_rfl) rfl #[.int .i64 a0,.int .i64 a2] rfl (by (try simp only [List.map_toArray,List.map_cons,List.map_nil]);first | done | rfl | (simp only [List.length_drop,List.length_take];rfl)) ?_;(with_reducible refine (r3In.calls a0 a2 false _ A4.out).mono ?_);rintro e w' ⟨rfl,⟨nd,rfl⟩⟩;refine ⟨_,rfl,?_⟩))
   go_ret
   exact ⟨by first | rfl | (simp;done) | (simp [*];done),by repeat (first | exact Drawn0.refl _ | apply Drawn0.step)⟩
end Go.Proofs.YtbblomnhobodkaaDoor.PTw
