/- What this claim reaches of longer texts of this session. -/
import Derived.Test.YtbblomnhobodkaaDoorPTwx0
import Derived.Test.YtbblomnhobodkaaDoorPTwx1
import Derived.Test.YtbblomnhobodkaaDoorPTwx7
import Derived.Test.YtbblomnhobodkaaDoorPTwx8
import Derived.Test.YtbblomnhobodkaaDoorPTwx15
import Derived.Test.YtbblomnhobodkaaDoorPTwx17
import Derived.Test.YtbblomnhobodkaaDoorPTwx22
import Derived.Shelf.Spec.TrailingZeros
import Derived.Lib.ItoaNum
import Derived.Lib.LaidTab
import Derived.Laws.Bits64
import Derived.Lib.Hide
import Derived.RangeFuncBox
import Derived.Maps.AppendAt
import Derived.Lib.SliceRun
import Derived.Shelf.Spec.SlicesInsert
import Derived.Shelf.Spec.SlicesInsertGrow
import Derived.Deep.DeepCutAuto
namespace Go.Proofs.YtbblomnhobodkaaDoor.PTw
open Go.RowKit Go.Proofs.YtbblomnhobodkaaDoorW.PW Go.Proofs.YtbblomnhobodkaaDoorW.PL Go.Proofs.YtbblomnhobodkaaDoorW.PM
attribute [local go_sem] max2_int min2_int max_two min_two max_three min_three max_four min_four   -- for this text's walks alone
set_option linter.unusedVariables false
set_option linter.unusedSimpArgs false
mutual
def r4Add.l0 : Nat→List (S29)→Int→Bool→Int→Int→Int→Int→List Int→Option ((List (S29)) × Int × Int)
 | 0,_,_,_,_,_,_,_,_=>none
 | k + 1,x7,x8,x355000,x355001,x355002,x355003,x355004,x355005=>(r4Full.f x7 x8).bind fun t358=>(if t358 = true then (r4Add.l0 k x7 (wrap64 (x8 + 1)) x355000 x355001 x355002 x355003 x355004 x355005) else ((r4Leaves.f x7).bind fun t359=>(if x8 = t359 then (if x8 = 32 then (some (([] : List (S29)),0,41)) else (r4Add.l1 k x7 x8 x355000 x355001 x355002 x355003 x355004 x355005)) else (r4Add.j2 k x7 x8 x355000 x355001 x355002 x355003 x355004 x355005))))
def r4Add.j2 : Nat→List (S29)→Int→Bool→Int→Int→Int→Int→List Int→Option ((List (S29)) × Int × Int)
 | 0,_,_,_,_,_,_,_,_=>none
 | k + 1,x7,x8,x355000,x355001,x355002,x355003,x355004,x355005=>(r4Leaf.f x355000 x355001 x355002 x355003 x355004 x355005).bind fun bt363=>(if 0≤(wrap64 (2 * x8)) then (if (wrap64 (2 * x8)) < (x7.length : Int) then ((some (x7.set ((wrap64 (2 * x8)) : Int).toNat (⟨bt363.1,bt363.2.1,bt363.2.2.1,bt363.2.2.2.1,bt363.2.2.2.2.1,bt363.2.2.2.2.2⟩ : S29) : List (S29))).bind fun y371=>((r4Leaves.f y371).bind fun t372=>(r4Add.l2 k y371 x8 t372 1))) else (none)) else (none))
def r4Add.l2 : Nat→List (S29)→Int→Int→Int→Option ((List (S29)) × Int × Int)
 | 0,_,_,_,_=>none
 | k + 1,x7,x8,x9,x10=>if x10 < (x7.length : Int) then (if 0≤x10 then (if (rd_T29 x7 x10).f0 = true then ((r3Under.f k (wrap64 (2 * x8)) x10 x9).bind fun t374=>(if t374 = true then ((r4with.f k ((rd_T29 x7 x10).f5) x8).bind fun t376=>(r4Add.l2 k (x7.set (x10 : Int).toNat (⟨(rd_T29 x7 x10).f0,(rd_T29 x7 x10).f1,(rd_T29 x7 x10).f2,(rd_T29 x7 x10).f3,(rd_T29 x7 x10).f4,t376⟩ : S29)) x8 x9 (wrap64 (x10 + 2)))) else (r4Add.l2 k x7 x8 x9 (wrap64 (x10 + 2))))) else (r4Add.l2 k x7 x8 x9 (wrap64 (x10 + 2)))) else (none)) else (some (x7,x8,0))
def r4Add.l1 : Nat→List (S29)→Int→Bool→Int→Int→Int→Int→List Int→Option ((List (S29)) × Int × Int)
 | 0,_,_,_,_,_,_,_,_=>none
 | k + 1,x7,x8,x355000,x355001,x355002,x355003,x355004,x355005=>if (x7.length : Int) < (wrap64 ((wrap64 (4 * x8)) - 1)) then (if x7.length < 2199023255552 then (r4Add.l1 k (x7 ++ [(⟨false,0,0,0,0,([] : List Int)⟩ : S29)]) x8 x355000 x355001 x355002 x355003 x355004 x355005) else (none)) else (r4Add.j2 k x7 x8 x355000 x355001 x355002 x355003 x355004 x355005)
end
def r4Add.f (k : Nat) (l0 : List (S29)) (a1_0 : Bool) (a1_1 : Int) (a1_2 : Int) (a1_3 : Int) (a1_4 : Int) (l1_5 : List Int) : Option ((List (S29)) × Int × Int):=(r4Copy.f k l0).bind fun t355=>(r4Add.l0 k t355 0 a1_0 a1_1 a1_2 a1_3 a1_4 l1_5)
theorem r4Add.mono_l : ∀ k,(∀ y0 y1 y2 y3 y4 y5 y6 y7,LeO (r4Add.l0 k y0 y1 y2 y3 y4 y5 y6 y7) (r4Add.l0 (k + 1) y0 y1 y2 y3 y4 y5 y6 y7))∧(∀ y0 y1 y2 y3 y4 y5 y6 y7,LeO (r4Add.j2 k y0 y1 y2 y3 y4 y5 y6 y7) (r4Add.j2 (k + 1) y0 y1 y2 y3 y4 y5 y6 y7))∧(∀ y0 y1 y2 y3,LeO (r4Add.l2 k y0 y1 y2 y3) (r4Add.l2 (k + 1) y0 y1 y2 y3))∧(∀ y0 y1 y2 y3 y4 y5 y6 y7,LeO (r4Add.l1 k y0 y1 y2 y3 y4 y5 y6 y7) (r4Add.l1 (k + 1) y0 y1 y2 y3 y4 y5 y6 y7))
 | 0=>⟨fun _ _ _ _ _ _ _ _ r h=>by simp [r4Add.l0] at h,fun _ _ _ _ _ _ _ _ r h=>by simp [r4Add.j2] at h,fun _ _ _ _ r h=>by simp [r4Add.l2] at h,fun _ _ _ _ _ _ _ _ r h=>by simp [r4Add.l1] at h⟩
 | k + 1=>by
  obtain ⟨ih0,ih1,ih2,ih3⟩:=r4Add.mono_l k
  refine ⟨?_,?_,?_,?_⟩
  · intro y0 y1 y2 y3 y4 y5 y6 y7
    unfold r4Add.l0
    repeat' first
    | (with_reducible exact ih0 _ _ _ _ _ _ _ _)
    | (with_reducible exact ih1 _ _ _ _ _ _ _ _)
    | (with_reducible exact ih2 _ _ _ _)
    | (with_reducible exact ih3 _ _ _ _ _ _ _ _)
    | (with_reducible exact r3Under.mono _ _ _ _)
    | (with_reducible exact r4Copy.mono _ _)
    | (with_reducible exact r4with.mono _ _ _)
    | (with_reducible exact LeO.refl _)
    | (with_reducible exact LeO.none _)
    | (with_reducible refine LeO.ite ?_ ?_)
    | (with_reducible refine LeO.bind ?_ (fun _=>?_))
    | exact ih0 _ _ _ _ _ _ _ _
    | exact ih1 _ _ _ _ _ _ _ _
    | exact ih2 _ _ _ _
    | exact ih3 _ _ _ _ _ _ _ _
    | exact r3Under.mono _ _ _ _
    | exact r4Copy.mono _ _
    | exact r4with.mono _ _ _
    | exact LeO.none _
    | refine LeO.ite ?_ ?_
    | refine LeO.bind ?_ (fun _=>?_)
  · intro y0 y1 y2 y3 y4 y5 y6 y7
    unfold r4Add.j2
    repeat' first
    | (with_reducible exact ih0 _ _ _ _ _ _ _ _)
    | (with_reducible exact ih1 _ _ _ _ _ _ _ _)
    | (with_reducible exact ih2 _ _ _ _)
    | (with_reducible exact ih3 _ _ _ _ _ _ _ _)
    | (with_reducible exact r3Under.mono _ _ _ _)
    | (with_reducible exact r4Copy.mono _ _)
    | (with_reducible exact r4with.mono _ _ _)
    | (with_reducible exact LeO.refl _)
    | (with_reducible exact LeO.none _)
    | (with_reducible refine LeO.ite ?_ ?_)
    | (with_reducible refine LeO.bind ?_ (fun _=>?_))
    | exact ih0 _ _ _ _ _ _ _ _
    | exact ih1 _ _ _ _ _ _ _ _
    | exact ih2 _ _ _ _
    | exact ih3 _ _ _ _ _ _ _ _
    | exact r3Under.mono _ _ _ _
    | exact r4Copy.mono _ _
    | exact r4with.mono _ _ _
    | exact LeO.none _
    | refine LeO.ite ?_ ?_
    | refine LeO.bind ?_ (fun _=>?_)
  · intro y0 y1 y2 y3
    unfold r4Add.l2
    repeat' first
    | (with_reducible exact ih0 _ _ _ _ _ _ _ _)
    | (with_reducible exact ih1 _ _ _ _ _ _ _ _)
    | (with_reducible exact ih2 _ _ _ _)
    | (with_reducible exact ih3 _ _ _ _ _ _ _ _)
    | (with_reducible exact r3Under.mono _ _ _ _)
    | (with_reducible exact r4Copy.mono _ _)
    | (with_reducible exact r4with.mono _ _ _)
    | (with_reducible exact LeO.refl _)
    | (with_reducible exact LeO.none _)
    | (with_reducible refine LeO.ite ?_ ?_)
    | (with_reducible refine LeO.bind ?_ (fun _=>?_))
    | exact ih0 _ _ _ _ _ _ _ _
    | exact ih1 _ _ _ _ _ _ _ _
    | exact ih2 _ _ _ _
    | exact ih3 _ _ _ _ _ _ _ _
    | exact r3Under.mono _ _ _ _
    | exact r4Copy.mono _ _
    | exact r4with.mono _ _ _
    | exact LeO.none _
    | refine LeO.ite ?_ ?_
    | refine LeO.bind ?_ (fun _=>?_)
  · intro y0 y1 y2 y3 y4 y5 y6 y7
    unfold r4Add.l1
    repeat' first
    | (with_reducible exact ih0 _ _ _ _ _ _ _ _)
    | (with_reducible exact ih1 _ _ _ _ _ _ _ _)
    | (with_reducible exact ih2 _ _ _ _)
    | (with_reducible exact ih3 _ _ _ _ _ _ _ _)
    | (with_reducible exact r3Under.mono _ _ _ _)
    | (with_reducible exact r4Copy.mono _ _)
    | (with_reducible exact r4with.mono _ _ _)
    | (with_reducible exact LeO.refl _)
    | (with_reducible exact LeO.none _)
    | (with_reducible refine LeO.ite ?_ ?_)
    | (with_reducible refine LeO.bind ?_ (fun _=>?_))
    | exact ih0 _ _ _ _ _ _ _ _
    | exact ih1 _ _ _ _ _ _ _ _
    | exact ih2 _ _ _ _
    | exact ih3 _ _ _ _ _ _ _ _
    | exact r3Under.mono _ _ _ _
    | exact r4Copy.mono _ _
    | exact r4with.mono _ _ _
    | exact LeO.none _
    | refine LeO.ite ?_ ?_
    | refine LeO.bind ?_ (fun _=>?_)
theorem r4Add.mono : ∀ a0 a1 a2 a3 a4 a5 a6 k,LeO (r4Add.f k a0 a1 a2 a3 a4 a5 a6) (r4Add.f (k + 1) a0 a1 a2 a3 a4 a5 a6):=by
 intro a0 a1 a2 a3 a4 a5 a6 k
 obtain ⟨ih0,ih1,ih2,ih3⟩:=r4Add.mono_l k
 unfold r4Add.f
 repeat' first
  | (with_reducible exact ih0 _ _ _ _ _ _ _ _)
  | (with_reducible exact ih1 _ _ _ _ _ _ _ _)
  | (with_reducible exact ih2 _ _ _ _)
  | (with_reducible exact ih3 _ _ _ _ _ _ _ _)
  | (with_reducible exact r3Under.mono _ _ _ _)
  | (with_reducible exact r4Copy.mono _ _)
  | (with_reducible exact r4with.mono _ _ _)
  | (with_reducible exact LeO.refl _)
  | (with_reducible exact LeO.none _)
  | (with_reducible refine LeO.ite ?_ ?_)
  | (with_reducible refine LeO.bind ?_ (fun _=>?_))
  | exact ih0 _ _ _ _ _ _ _ _
  | exact ih1 _ _ _ _ _ _ _ _
  | exact ih2 _ _ _ _
  | exact ih3 _ _ _ _ _ _ _ _
  | exact r3Under.mono _ _ _ _
  | exact r4Copy.mono _ _
  | exact r4with.mono _ _ _
  | exact LeO.none _
  | refine LeO.ite ?_ ?_
  | refine LeO.bind ?_ (fun _=>?_)
set_option maxHeartbeats 8000000 in
set_option maxRecDepth 100000 in
theorem r4Add.calls (k : Nat) (A0 : Option Addr) (c0 : Nat) (l0 : List (S29)) (a1_0 : Bool) (a1_1 : Int) (a1_2 : Int) (a1_3 : Int) (a1_4 : Int) (P1_5_ : Nat→Prop) (A1_5 : Option Addr) (c1_5 : Nat) (l1_5 : List Int) (r1 : List (S29)) (r2 : Int) (r3 : Int) (w : World) (hr0 : Kd.C k29 w A0 l0.length l0) (hc0 : l0.length≤c0) (hs1_5 : Kd.V (Kd.int .i64) 3 w w.heap.size (fun k_=>P1_5_ k_) (.slice A1_5 l1_5.length c1_5) l1_5) (h : r4Add.f k l0 a1_0 a1_1 a1_2 a1_3 a1_4 l1_5 = some (r1,r2,r3)) :
 Calls Tryd.prog 20 #[.slice A0 l0.length c0,.agg #[.bool a1_0,.int .i64 a1_1,.int .i64 a1_2,.int .i64 a1_3,.int .i64 a1_4,.slice A1_5 l1_5.length c1_5]] w fun e w'=>∃ v0_ : Value,e = .returned (.tuple #[v0_,.int .i64 r2,.int .i64 r3])∧Kd.S k29 29 w' w.heap.size (fun k_=>(w.heap.size≤k_)) v0_ r1∧Below w.heap.size w w':=by
 have hu29:=Tryd.underlying29
 have HR0:=Az.mk hr0
 have HC0:=Az.mk hc0
 clear hr0 hc0
 have HO1_5:=Az.mk (show Kd.V (Kd.int .i64) 3 w w.heap.size (fun k_=>(P1_5_ k_∨w.heap.size≤k_)) (.slice A1_5 l1_5.length c1_5) l1_5 from Kd.V_mono hs1_5 (fun k_ hk=>.inl hk))
 have HB:=Az.mk (Below.refl w.heap.size w)
 have H : ((r4Copy.f k l0).bind fun t355=>(r4Add.l0 k t355 0 a1_0 a1_1 a1_2 a1_3 a1_4 l1_5)) = some (r1,r2,r3):=h
 clear h
 replace H:=Option.bind_eq_some_iff.mp H
 obtain ⟨t355,A30,H⟩:=H
 replace H : (r4Add.l0 k t355 0 a1_0 a1_1 a1_2 a1_3 a1_4 l1_5) = some (r1,r2,r3):=H
 have A3:=Az.mk A30
 clear A30
 have H':=Az.mk H
 clear H
 go_enter Tryd.func20,Tryd.ntmps20
 go_wp2_with (first | ((with_reducible refine gate_dst (N:=3) rfl ?_);refine box_event ?hg (N:=3) ?hd (cs:=#[.bool a1_0,.int .i64 a1_1,.int .i64 a1_2,.int .i64 a1_3,.int .i64 a1_4,.slice A1_5 l1_5.length c1_5]) (t:=29) ?hr ?_;(case hd=>rfl);(case hg=>rfl);(case hr=>first | (go_simp;done) | (go_simp;rfl));intro gb354 hg w4 hbox hb;have n0_:=Az.mk (Kd.V_below (Kd.V_elderB (V_mv HO1_5.out) gb354 (Nat.le_of_eq hg.symm)) hb);have n1_:=Az.mk (bwT (bmv HB.out) hb);have n2_:=Az.mk (hbox);have n3_:=Az.mk ((by rw [hg];exact (bwZ (bmv HB.out)) : w.heap.size≤gb354));have n4_:=Az.mk ((by rw [hg];exact (bwZ (bmv HB.out)) : w.heap.size≤gb354));clear HO1_5;clear HB;have HO1_5:=n0_;have HB:=n1_;have BK354:=n2_;have GW354:=n3_;have GE354:=n4_;clear n0_ n1_ n2_ n3_ n4_;clear hb hbox hg) | ((with_reducible refine gate_callee (f:=14) rfl ?_);refine goesL_ (some 12) rfl rfl Tryd.func14 (by kernel_rfl) rfl #[.slice A0 l0.length c0] rfl (by (try simp only [List.map_toArray,List.map_cons,List.map_nil]);first | done | rfl | (simp only [List.length_drop,List.length_take];rfl)) ?_;(with_reducible refine (r4Copy.calls k _ _ l0 t355 _ ?side1 ?side2 A3.out).mono ?_);(case side1=>exact C_mv ((Kd.C_below HR0.out HB.out)));(case side2=>exact HC0.out);rintro e w5 ⟨v356,rfl,ho0,hb⟩;refine ⟨_,rfl,?_⟩;have n0_:=Az.mk (Kd.V_elder' (V_mv HO1_5.out) (Kd.S_base ho0) hb);have n1_:=Az.mk (Kd.S_lower (Kd.S_newB (Kd.S_newM (M:=fun k_=>(w.heap.size≤k_)) ho0 (bwZ (by repeat (with_reducible first | exact bmv HB.out | refine bwS ?_ GE354.out))) (fun k_ h_=>h_)) (g:=gb354) (o:=.cells #[.bool a1_0,.int .i64 a1_1,.int .i64 a1_2,.int .i64 a1_3,.int .i64 a1_4,.slice A1_5 l1_5.length c1_5] 29 (0,0)) (blk_mv BK354.out)) (bwZ (by repeat (with_reducible first | exact bmv HB.out | refine bwS ?_ GE354.out))));have n2_:=Az.mk (kB (g:=gb354) (o:=.cells #[.bool a1_0,.int .i64 a1_1,.int .i64 a1_2,.int .i64 a1_3,.int .i64 a1_4,.slice A1_5 l1_5.length c1_5] 29 (0,0)) (blk_mv BK354.out) hb);have n3_:=Az.mk (bwT (by repeat (with_reducible first | exact bmv HB.out | refine bwS ?_ GE354.out)) hb);clear HO1_5;clear BK354;clear HB;have HO1_5:=n0_;have HO357:=n1_;have BK354:=n2_;have HB:=n3_;clear n0_ n1_ n2_ n3_;(try clear hb);(try clear hb2);(try clear hk);(try clear hi);(try clear ho0)))
 go_loopg [8] k (fun kq v8 w'=>∃ (x8_1 : Int),v8 = .int .i64 x8_1∧Az (r4Add.l0 kq t355 x8_1 a1_0 a1_1 a1_2 a1_3 a1_4 l1_5 = some (r1,r2,r3))∧Az (kq≤k)∧Az (Kd.S k29 29 w' w.heap.size (fun k_=>(w.heap.size≤k_)∧k_≠gb354) v356 t355)∧Az (Kd.V (Kd.int .i64) 3 w' w.heap.size (fun k_=>(P1_5_ k_∨w.heap.size≤k_)∧some k_≠(v356 : Value).ownBlock∧k_≠gb354) (.slice A1_5 l1_5.length c1_5) l1_5)∧Az (w'.heap[gb354]? = some (.cells #[.bool a1_0,.int .i64 a1_1,.int .i64 a1_2,.int .i64 a1_3,.int .i64 a1_4,(.slice A1_5 l1_5.length c1_5)] 29 (0,0)))∧Az (Below w.heap.size w w'))
 case atStart=>exact ⟨(0),(by first | rfl | (simp;done) | (simp [*];done)),H',⟨Nat.le_refl _⟩,⟨S_mv (Kd.S_mono HO357.out (fun _ hk=>⟨hk.1.1,hk.2⟩))⟩,⟨V_mv (Kd.V_mono HO1_5.out (fun _ hk=>⟨hk.1.1,⟨hk.2,hk.1.2⟩⟩))⟩,⟨blk_mv BK354.out⟩,⟨by repeat (with_reducible first | exact bmv HB.out | refine bwS ?_ GE354.out)⟩⟩
 case round=>
  clear H'
  obtain ⟨x8_1,rfl,HA,HK1,HO_7,HO_355005,BK354,HB⟩:=hrel
  cases gk with
  | zero=>exact absurd HA.out (by simp [r4Add.l0])
  | succ k1=>
   have H:=HA.out
   clear HA
   simp only [r4Add.l0] at H
   replace H:=Option.bind_eq_some_iff.mp H
   obtain ⟨t358,A60,H⟩:=H
   replace H : (if t358 = true then (r4Add.l0 k1 t355 (wrap64 (x8_1 + 1)) a1_0 a1_1 a1_2 a1_3 a1_4 l1_5) else ((r4Leaves.f t355).bind fun t359=>(if x8_1 = t359 then (if x8_1 = 32 then (some (([] : List (S29)),0,41)) else (r4Add.l1 k1 t355 x8_1 a1_0 a1_1 a1_2 a1_3 a1_4 l1_5)) else (r4Add.j2 k1 t355 x8_1 a1_0 a1_1 a1_2 a1_3 a1_4 l1_5)))) = some (r1,r2,r3):=H
   have A6:=Az.mk A60
   clear A60
   by_cases c7 : t358 = true
   · subst c7
     have H1 : (r4Add.l0 k1 t355 (wrap64 (x8_1 + 1)) a1_0 a1_1 a1_2 a1_3 a1_4 l1_5) = some (r1,r2,r3):=by rw [if_pos rfl] at H;exact H
     clear H
     have H:=H1
     clear H1
     have H':=Az.mk H
     clear H
     obtain ⟨Ao8,co8,eo8⟩:=Kd.S_slice HO_7.out
     subst eo8
     go_wp2_with (first | ((with_reducible refine gate_callee (f:=22) rfl ?_);refine goesL_ (some 15) rfl rfl Tryd.func22 (by kernel_rfl) rfl #[.slice Ao8 t355.length co8,.int .i64 x8_1] rfl (by (try simp only [List.map_toArray,List.map_cons,List.map_nil]);first | done | rfl | (simp only [List.length_drop,List.length_take];rfl)) ?_;(with_reducible refine (r4Full.calls _ _ t355 x8_1 true _ ?side1 ?side2 A6.out).mono ?_);(case side1=>exact C_mv ((Kd.S_reads' HO_7.out).2.2));(case side2=>exact (Kd.S_reads' HO_7.out).2.1);rintro e w' ⟨rfl,⟨nd,rfl⟩⟩;refine ⟨_,rfl,?_⟩))
     go_roundg k1
     case measure=>have:=HK1.out;omega
     case rel=>exact ⟨(wrap64 (x8_1 + 1)),(by first | rfl | (simp;done) | (simp [*];done)),H',⟨by have:=HK1.out;omega⟩,⟨S_mv HO_7.out⟩,⟨V_mv HO_355005.out⟩,⟨blk_mv BK354.out⟩,⟨by repeat (with_reducible first | exact bmv HB.out | refine bwS ?_ GE354.out)⟩⟩
   · replace c7:=Bool.eq_false_iff.mpr c7
     subst c7
     have H1 : ((r4Leaves.f t355).bind fun t359=>(if x8_1 = t359 then (if x8_1 = 32 then (some (([] : List (S29)),0,41)) else (r4Add.l1 k1 t355 x8_1 a1_0 a1_1 a1_2 a1_3 a1_4 l1_5)) else (r4Add.j2 k1 t355 x8_1 a1_0 a1_1 a1_2 a1_3 a1_4 l1_5))) = some (r1,r2,r3):=by rw [if_neg (show ¬ (false = true) by decide)] at H;exact H
     clear H
     have H:=H1
     clear H1
     replace H:=Option.bind_eq_some_iff.mp H
     obtain ⟨t359,A90,H⟩:=H
     replace H : (if x8_1 = t359 then (if x8_1 = 32 then (some (([] : List (S29)),0,41)) else (r4Add.l1 k1 t355 x8_1 a1_0 a1_1 a1_2 a1_3 a1_4 l1_5)) else (r4Add.j2 k1 t355 x8_1 a1_0 a1_1 a1_2 a1_3 a1_4 l1_5)) = some (r1,r2,r3):=H
     have A9:=Az.mk A90
     clear A90
     have HC10:=Az.mk H
     clear H
     obtain ⟨Ao11,co11,eo11⟩:=Kd.S_slice HO_7.out
     subst eo11
     go_upto_if 21 with (first | ((with_reducible refine gate_callee (f:=22) rfl ?_);refine goesL_ (some 15) rfl rfl Tryd.func22 (by kernel_rfl) rfl #[.slice Ao11 t355.length co11,.int .i64 x8_1] rfl (by (try simp only [List.map_toArray,List.map_cons,List.map_nil]);first | done | rfl | (simp only [List.length_drop,List.length_take];rfl)) ?_;(with_reducible refine (r4Full.calls _ _ t355 x8_1 false _ ?side1 ?side2 A6.out).mono ?_);(case side1=>exact C_mv ((Kd.S_reads' HO_7.out).2.2));(case side2=>exact (Kd.S_reads' HO_7.out).2.1);rintro e w' ⟨rfl,⟨nd,rfl⟩⟩;refine ⟨_,rfl,?_⟩) | ((with_reducible refine gate_callee (f:=21) rfl ?_);refine goesL_ (some 20) rfl rfl Tryd.func21 (by kernel_rfl) rfl #[.slice Ao11 t355.length co11] rfl (by (try simp only [List.map_toArray,List.map_cons,List.map_nil]);first | done | rfl | (simp only [List.length_drop,List.length_take];rfl)) ?_;(with_reducible refine (r4Leaves.calls _ _ t355 t359 _ ?side1 ?side2 A9.out).mono ?_);(case side1=>exact C_mv ((Kd.S_reads' HO_7.out).2.2));(case side2=>exact (Kd.S_reads' HO_7.out).2.1);rintro e w' ⟨rfl,⟨nd,rfl⟩⟩;refine ⟨_,rfl,?_⟩))
     (try simp only [Act.put,List.setIfInBounds_toArray,List.set_cons_zero,List.set_cons_succ])
     go_cut [7] (fun v7 wc=>∃ (kq : Nat) (x7_9 : List (S29)),Az (r4Add.j2 kq x7_9 x8_1 a1_0 a1_1 a1_2 a1_3 a1_4 l1_5 = some (r1,r2,r3))∧Az (kq≤k1)∧Az (Kd.S k29 29 wc w.heap.size (fun k_=>(w.heap.size≤k_)∧k_≠gb354) v7 x7_9)∧Az (Kd.V (Kd.int .i64) 3 wc w.heap.size (fun k_=>(P1_5_ k_∨w.heap.size≤k_)∧some k_≠(v7 : Value).ownBlock∧k_≠gb354) (.slice A1_5 l1_5.length c1_5) l1_5)∧Az (wc.heap[gb354]? = some (.cells #[.bool a1_0,.int .i64 a1_1,.int .i64 a1_2,.int .i64 a1_3,.int .i64 a1_4,(.slice A1_5 l1_5.length c1_5)] 29 (0,0)))∧Az (Below w.heap.size w wc))
     case first=>
      have H:=HC10.out
      clear HC10
      by_cases c12 : x8_1 = t359
      · rw [if_pos c12] at H
        have c12b0 : (x8_1 == t359) = true:=beq_iff_eq.mpr c12
        have c12b1 : (x8_1 != t359) = false:=bne_eq_false_iff_eq.mpr c12
        clear c12
        (first | rw [c12b0] | (simp only [i64_w,i32_w];rw [c12b0]) | skip)
        by_cases c13 : x8_1 = 32
        · rw [if_pos c13] at H
          have c13b0 : (x8_1 == 32) = true:=beq_iff_eq.mpr c13
          have c13b1 : (x8_1 != 32) = false:=bne_eq_false_iff_eq.mpr c13
          clear c13
          simp only [Option.some.injEq,Prod.mk.injEq] at H
          obtain ⟨rfl,rfl,rfl⟩:=H
          go_wp2
          go_ret3
          exact ⟨_,by first | rfl | (simp [errW_none,errW_some] <;> rfl) | (simp [*,errW_none,errW_some] <;> rfl),by first | exact Kd.S_nil _ _ _ _ _ | exact Kd.N_nil _ _ _ _ _ | exact Kd.V_nil _ _ _ _ _ | exact Kd.Q_nil _ _ _ _ _ | exact Kd.R_nil _ _ _ _ _,by repeat (with_reducible first | exact bmv HB.out | refine bwS ?_ GE354.out)⟩
        · rw [if_neg c13] at H
          have c13b0 : (x8_1 == 32) = false:=beq_eq_false_iff_ne.mpr c13
          have c13b1 : (x8_1 != 32) = true:=bne_iff_ne.mpr c13
          have H':=Az.mk H
          clear H
          go_wp2
          go_loopg [7] k1 (fun kq v7 w'=>∃ (x7_2 : List (S29)),Az (r4Add.l1 kq x7_2 x8_1 a1_0 a1_1 a1_2 a1_3 a1_4 l1_5 = some (r1,r2,r3))∧Az (kq≤k1)∧Az (Kd.S k29 29 w' w.heap.size (fun k_=>(w.heap.size≤k_)∧k_≠gb354) v7 x7_2)∧Az (Kd.V (Kd.int .i64) 3 w' w.heap.size (fun k_=>(P1_5_ k_∨w.heap.size≤k_)∧some k_≠(v7 : Value).ownBlock∧k_≠gb354) (.slice A1_5 l1_5.length c1_5) l1_5)∧Az (w'.heap[gb354]? = some (.cells #[.bool a1_0,.int .i64 a1_1,.int .i64 a1_2,.int .i64 a1_3,.int .i64 a1_4,(.slice A1_5 l1_5.length c1_5)] 29 (0,0)))∧Az (Below w.heap.size w w'))
          case atStart=>exact ⟨(t355),H',⟨Nat.le_refl _⟩,⟨S_mv HO_7.out⟩,⟨V_mv HO_355005.out⟩,⟨blk_mv BK354.out⟩,⟨by repeat (with_reducible first | exact bmv HB.out | refine bwS ?_ GE354.out)⟩⟩
          case round=>
           clear H'
           try clear c7
           try clear c12
           try clear c12b0
           try clear c12b1
           try clear c13
           try clear c13b0
           try clear c13b1
           obtain ⟨x7_2,HA,HK2,HO_7,HO_355005,BK354,HB⟩:=hrel
           cases gk with
           | zero=>exact absurd HA.out (by simp [r4Add.l1])
           | succ k2=>
            have H:=HA.out
            clear HA
            simp only [r4Add.l1] at H
            by_cases c14 : (x7_2.length : Int) < (wrap64 ((wrap64 (4 * x8_1)) - 1))
            · rw [if_pos c14] at H
              have c14b0 : decide ((x7_2.length : Int) < (wrap64 ((wrap64 (4 * x8_1)) - 1))) = true:=decide_eq_true c14
              clear c14
              by_cases c15 : x7_2.length < 2199023255552
              · rw [if_pos c15] at H
                have LMc15:=Az.mk c15
                clear c15
                obtain ⟨y360,hy360⟩ : ∃ y_ : List (S29),y_ = (x7_2 ++ [(⟨false,0,0,0,0,([] : List Int)⟩ : S29)]):=⟨_,rfl⟩
                replace H : (r4Add.l1 k2 y360 x8_1 a1_0 a1_1 a1_2 a1_3 a1_4 l1_5) = some (r1,r2,r3):=by first | (rw [hy360];with_reducible exact H) | (have H2_:=(Option.bind_some _ _).symm.trans H;rw [hy360];with_reducible exact H2_) | (have H2_:=(Option.bind_some _ _).symm.trans H;with_reducible exact H2_) | with_reducible exact H | (rw [hy360];exact H) | exact H
                have Ny360:=Az.mk hy360
                clear hy360
                have H':=Az.mk H
                clear H
                obtain ⟨Ao16,co16,eo16⟩:=Kd.S_slice HO_7.out
                subst eo16
                go_wp2_with (first | ((with_reducible refine gate_builtin (b:=.append) (xs:=#[.tmp 30,.tmp 32]) rfl ?_);at_builtin;refine Kd.S_append k29 (w0:=w) w.heap.size rfl (.tmp 30) (.tmp 32) 22 29 (.agg #[(.bool false),(.int .i64 0),(.int .i64 0),(.int .i64 0),(.int .i64 0),(.slice none 0 0)]) 64 rfl Tryd.underlying22 info29 rfl (by decide) (by omega) (.slice Ao16 x7_2.length co16) x7_2 (⟨false,0,0,0,0,([] : List Int)⟩ : S29) [.bool false,.int .i64 0,.int .i64 0,.int .i64 0,.int .i64 0,.slice none 0 0] (fun k_=>(w.heap.size≤k_)∧k_≠gb354) (fun _=>False) rfl rfl ?aP (fun k_ hk_=>hk_.elim) ?aF ?aO ?aB ?aS ?aL ?_;(case aP=>exact k29_mkM _ _ _ (⟨false,0,0,0,0,([] : List Int)⟩ : S29) (Kd.R_nil _ _ _ _ _));(case aB=>exact (by repeat (with_reducible first | exact bmv HB.out | refine bwS ?_ GE354.out)));(case aF=>exact (fun k_ hk=>⟨(Nat.le_trans (bwZ (by repeat (with_reducible first | exact bmv HB.out | refine bwS ?_ GE354.out))) hk),Kd.freshB (g:=gb354) (o:=.cells #[.bool a1_0,.int .i64 a1_1,.int .i64 a1_2,.int .i64 a1_3,.int .i64 a1_4,.slice A1_5 l1_5.length c1_5] 29 (0,0)) (blk_mv BK354.out) k_ hk⟩));(case aO=>exact (S_mv (Kd.S_mono HO_7.out (fun k_ hk=>⟨⟨hk.1,hk.2⟩,fun e_=>e_⟩))));(case aS=>exact (bwZ (by repeat (with_reducible first | exact bmv HB.out | refine bwS ?_ GE354.out))));(case aL=>have:=LMc15.out;omega);intro v361 w17 ho hb hg hat;rw [← Ny360.out] at ho;have n0_:=Az.mk (Kd.V_afterv (ok:=(fun k_=>(P1_5_ k_∨w.heap.size≤k_)∧k_≠gb354)) (V_mv (Kd.V_mono HO_355005.out (fun _ hk=>⟨⟨hk.1,hk.2.2⟩,hk.2.1⟩))) hg hat);have n1_:=Az.mk (blk_grown (g:=gb354) (o:=.cells #[.bool a1_0,.int .i64 a1_1,.int .i64 a1_2,.int .i64 a1_3,.int .i64 a1_4,.slice A1_5 l1_5.length c1_5] 29 (0,0)) (blk_mv BK354.out) hg (Kd.S_away HO_7.out (fun _ hk=>hk.2)));have n2_:=Az.mk (hb);have n3_:=Az.mk (ho);clear HO_355005;clear BK354;clear HB;clear HO_7;have HO_355005:=n0_;have BK354:=n1_;have HB:=n2_;have HO362:=n3_;clear n0_ n1_ n2_ n3_;clear ho hb hg hat))
                go_roundg k2
                case measure=>have:=HK1.out;have:=HK2.out;omega
                case rel=>exact ⟨(y360),H',⟨by have:=HK1.out;have:=HK2.out;omega⟩,⟨S_mv HO362.out⟩,⟨V_mv (Kd.V_mono HO_355005.out (fun _ hk=>⟨hk.1.1,⟨hk.2,hk.1.2⟩⟩))⟩,⟨blk_mv BK354.out⟩,⟨by repeat (with_reducible first | exact bmv HB.out | refine bwS ?_ GE354.out)⟩⟩
              · rw [if_neg c15] at H
                exact absurd H (by simp)
            · rw [if_neg c14] at H
              have c14b0 : decide ((x7_2.length : Int) < (wrap64 ((wrap64 (4 * x8_1)) - 1))) = false:=decide_eq_false c14
              clear c14
              have H':=Az.mk H
              clear H
              obtain ⟨Ao18,co18,eo18⟩:=Kd.S_slice HO_7.out
              subst eo18
              go_wp2
              go_meet
              case rel=>exact ⟨_,(x7_2),H',⟨by have:=HK1.out;have:=HK2.out;first | omega | exact Nat.le_refl _⟩,⟨S_mv HO_7.out⟩,⟨V_mv HO_355005.out⟩,⟨blk_mv BK354.out⟩,⟨by repeat (with_reducible first | exact bmv HB.out | refine bwS ?_ GE354.out)⟩⟩
      · rw [if_neg c12] at H
        have c12b0 : (x8_1 == t359) = false:=beq_eq_false_iff_ne.mpr c12
        have c12b1 : (x8_1 != t359) = true:=bne_iff_ne.mpr c12
        (first | rw [c12b0] | (simp only [i64_w,i32_w];rw [c12b0]) | skip)
        have H':=Az.mk H
        clear H
        go_wp2
        go_meet
        case rel=>exact ⟨_,(t355),H',⟨by have:=HK1.out;first | omega | exact Nat.le_refl _⟩,⟨S_mv HO_7.out⟩,⟨V_mv HO_355005.out⟩,⟨blk_mv BK354.out⟩,⟨by repeat (with_reducible first | exact bmv HB.out | refine bwS ?_ GE354.out)⟩⟩
     case rest=>
      clear HC10
      try clear c7
      try clear c12
      try clear c12b0
      try clear c12b1
      try clear c13
      try clear c13b0
      try clear c13b1
      try clear c14
      try clear c14b0
      try clear c15
      obtain ⟨kq,x7_9,HA,HJ9,HO_7,HO_355005,BK354,HB⟩:=hcut
      cases kq with
      | zero=>exact absurd HA.out (by simp [r4Add.j2])
      | succ kj9=>
       have H:=HA.out
       clear HA
       simp only [r4Add.j2] at H
       replace H:=Option.bind_eq_some_iff.mp H
       obtain ⟨⟨t363,t364,t365,t366,t367,t368⟩,A190,H⟩:=H
       replace H : (if 0≤(wrap64 (2 * x8_1)) then (if (wrap64 (2 * x8_1)) < (x7_9.length : Int) then ((some (x7_9.set ((wrap64 (2 * x8_1)) : Int).toNat (⟨t363,t364,t365,t366,t367,t368⟩ : S29) : List (S29))).bind fun y371=>((r4Leaves.f y371).bind fun t372=>(r4Add.l2 kj9 y371 x8_1 t372 1))) else (none)) else (none)) = some (r1,r2,r3):=H
       have A19:=Az.mk A190
       clear A190
       obtain ⟨ji20,hji20⟩ : ∃ j_ : Int,(wrap64 (2 * x8_1)) = j_:=⟨_,rfl⟩
       replace H : (if 0≤(ji20) then (if (ji20) < (x7_9.length : Int) then ((some (x7_9.set ((ji20) : Int).toNat (⟨t363,t364,t365,t366,t367,t368⟩ : S29) : List (S29))).bind fun y371=>((r4Leaves.f y371).bind fun t372=>(r4Add.l2 kj9 y371 x8_1 t372 1))) else (none)) else (none)) = some (r1,r2,r3):=by first | (rw [hji20] at H;exact H) | (simp only [hji20] at H ⊢;exact H)
       (try rw [hji20] at A19)
       have hji20w : (IntKind.i64.wrap (2 * x8_1)) = ji20:=(i64_w _).trans hji20
       by_cases c21 : 0≤(ji20)
       · rw [if_pos c21] at H
         have c21b0 : decide (0≤(ji20)) = true:=decide_eq_true c21
         clear c21
         by_cases c22 : (ji20) < (x7_9.length : Int)
         · rw [if_pos c22] at H
           have c22b0 : decide ((ji20) < (x7_9.length : Int)) = true:=decide_eq_true c22
           clear c22
           obtain ⟨y371,hy371⟩ : ∃ y_ : List (S29),y_ = (x7_9.set ((ji20) : Int).toNat (⟨t363,t364,t365,t366,t367,t368⟩ : S29)):=⟨_,rfl⟩
           replace H : ((r4Leaves.f y371).bind fun t372=>(r4Add.l2 kj9 y371 x8_1 t372 1)) = some (r1,r2,r3):=by first | (rw [hy371];with_reducible exact H) | (have H2_:=(Option.bind_some _ _).symm.trans H;rw [hy371];with_reducible exact H2_) | (have H2_:=(Option.bind_some _ _).symm.trans H;with_reducible exact H2_) | with_reducible exact H | (rw [hy371];exact H) | exact H
           have Ny371:=Az.mk hy371
           clear hy371
           replace H:=Option.bind_eq_some_iff.mp H
           obtain ⟨t372,A240,H⟩:=H
           replace H : (r4Add.l2 kj9 y371 x8_1 t372 1) = some (r1,r2,r3):=H
           have A24:=Az.mk A240
           clear A240
           have H':=Az.mk H
           clear H
           have hcz25_0 : wc.cell? ⟨gb354,0,none⟩ = some (.bool a1_0):=(kC BK354.out 0).trans rfl
           have hcz25_1 : wc.cell? ⟨gb354,1,none⟩ = some (.int .i64 a1_1):=(kC BK354.out 1).trans rfl
           have hcz25_2 : wc.cell? ⟨gb354,2,none⟩ = some (.int .i64 a1_2):=(kC BK354.out 2).trans rfl
           have hcz25_3 : wc.cell? ⟨gb354,3,none⟩ = some (.int .i64 a1_3):=(kC BK354.out 3).trans rfl
           have hcz25_4 : wc.cell? ⟨gb354,4,none⟩ = some (.int .i64 a1_4):=(kC BK354.out 4).trans rfl
           have hcz25_5 : wc.cell? ⟨gb354,5,none⟩ = some (.slice A1_5 l1_5.length c1_5):=(kC BK354.out 5).trans rfl
           have hfz25_0:=kF BK354.out 0
           have hfz25_1:=kF BK354.out 1
           have hfz25_2:=kF BK354.out 2
           have hfz25_3:=kF BK354.out 3
           have hfz25_4:=kF BK354.out 4
           have hfz25_5:=kF BK354.out 5
           go_wp2_with (first | ((with_reducible refine gate_callee (f:=35) rfl ?_);refine goesL_ (some 38) rfl rfl Tryd.func35 (by kernel_rfl) rfl #[.agg #[.bool a1_0,.int .i64 a1_1,.int .i64 a1_2,.int .i64 a1_3,.int .i64 a1_4,.slice A1_5 l1_5.length c1_5]] rfl (by (try simp only [List.map_toArray,List.map_cons,List.map_nil]);first | done | rfl | (simp only [List.length_drop,List.length_take];rfl)) ?_;(with_reducible refine (r4Leaf.calls a1_0 a1_1 a1_2 a1_3 a1_4 _ _ l1_5 t363 t364 t365 t366 t367 t368 _ ?side1 ?side2 A19.out).mono ?_);(case side1=>exact C_mv ((Kd.V_reads' HO_355005.out).2.2));(case side2=>exact (Kd.V_reads' HO_355005.out).2.1);rintro e w26 ⟨v369,rfl,ho0,hb⟩;refine ⟨_,rfl,?_⟩;obtain ⟨Av_,cv_,hv_⟩:=Kd.R_slice ho0;have HV369:=Az.mk hv_;clear hv_;have n0_:=Az.mk (Kd.S_elder' (S_mv HO_7.out) (Kd.R_base ho0) hb);have n1_:=Az.mk (Kd.V_elder' (V_mv HO_355005.out) (Kd.R_base ho0) hb);have n2_:=Az.mk (Kd.R_lower (Kd.R_newM (M:=fun k_=>(w.heap.size≤k_)) ho0 (bwZ (by repeat (with_reducible first | exact bmv HB.out | refine bwS ?_ GE354.out))) (fun k_ h_=>h_)) (bwZ (by repeat (with_reducible first | exact bmv HB.out | refine bwS ?_ GE354.out))));have n3_:=Az.mk (kB (g:=gb354) (o:=.cells #[.bool a1_0,.int .i64 a1_1,.int .i64 a1_2,.int .i64 a1_3,.int .i64 a1_4,.slice A1_5 l1_5.length c1_5] 29 (0,0)) (blk_mv BK354.out) hb);have n4_:=Az.mk (bwT (by repeat (with_reducible first | exact bmv HB.out | refine bwS ?_ GE354.out)) hb);clear HO_7;clear HO_355005;clear BK354;clear HB;have HO_7:=n0_;have HO_355005:=n1_;have HO370:=n2_;have BK354:=n3_;have HB:=n4_;clear n0_ n1_ n2_ n3_ n4_;(try clear hb);(try clear hb2);(try clear hk);(try clear hi);(try clear ho0);have p23 : 0≤((ji20) : Int):=of_decide_eq_true (by first | (with_reducible assumption) | assumption);have q23 : ((ji20) : Int) < ((x7_9.length : Int) : Int):=of_decide_eq_true (by first | (with_reducible assumption) | assumption);obtain ⟨go23,co23,eo23,gb23,gl23,cl23,HG23⟩:=Kd.S_form HO_7.out (by omega);(first | cases eo23 | (injection eo23 with ea_ en_ ec_;(first | subst ea_ | (injection ea_ with ea_;subst ea_));subst ec_;clear en_));have GB23:=Az.mk gb23;have GG23:=Az.mk HG23;clear gb23 gl23 HG23;obtain ⟨_,ce23,hcl23,hM23,hcc23,hfr23,_,_⟩:=Kd.S_elem HO_7.out z29 ((ji20) : Int) p23 q23;obtain ⟨ve23_5,rfl,ge23_5⟩:=k29_openM hM23;have hx23_0 : w26.cell? ⟨go23,((ji20) : Int).toNat * 6,none⟩ = some (.bool ((rd_T29 x7_9 (ji20)).f0)):=hcc23 0 _ rfl;have hx23_1 : w26.cell? ⟨go23,((ji20) : Int).toNat * 6 + 1,none⟩ = some (.int .i64 ((rd_T29 x7_9 (ji20)).f1)):=hcc23 1 _ rfl;have hx23_2 : w26.cell? ⟨go23,((ji20) : Int).toNat * 6 + 2,none⟩ = some (.int .i64 ((rd_T29 x7_9 (ji20)).f2)):=hcc23 2 _ rfl;have hx23_3 : w26.cell? ⟨go23,((ji20) : Int).toNat * 6 + 3,none⟩ = some (.int .i64 ((rd_T29 x7_9 (ji20)).f3)):=hcc23 3 _ rfl;have hx23_4 : w26.cell? ⟨go23,((ji20) : Int).toNat * 6 + 4,none⟩ = some (.int .i64 ((rd_T29 x7_9 (ji20)).f4)):=hcc23 4 _ rfl;have hx23_5 : w26.cell? ⟨go23,((ji20) : Int).toNat * 6 + 5,none⟩ = some (ve23_5):=hcc23 5 _ rfl;have hf23_0 : w26.frozen? ⟨go23,((ji20) : Int).toNat * 6,none⟩ = false:=hfr23 0;have hf23_1 : w26.frozen? ⟨go23,((ji20) : Int).toNat * 6 + 1,none⟩ = false:=hfr23 1;have hf23_2 : w26.frozen? ⟨go23,((ji20) : Int).toNat * 6 + 2,none⟩ = false:=hfr23 2;have hf23_3 : w26.frozen? ⟨go23,((ji20) : Int).toNat * 6 + 3,none⟩ = false:=hfr23 3;have hf23_4 : w26.frozen? ⟨go23,((ji20) : Int).toNat * 6 + 4,none⟩ = false:=hfr23 4;have hf23_5 : w26.frozen? ⟨go23,((ji20) : Int).toNat * 6 + 5,none⟩ = false:=hfr23 5;clear hcl23 hcc23 hfr23 hM23;replace p23:=eq_true p23;replace q23:=eq_true q23;have n_:=Az.mk (Kd.S_mono (ok':=(fun k_=>(w.heap.size≤k_)∧some k_≠(v369 : Value).ownBlock∧k_≠gb354)) HO_7.out (fun k_ hk=>⟨hk.1.1,⟨hk.2,hk.1.2⟩⟩));clear HO_7;have HO_7:=n_;clear n_;have HX27:=Az.mk (show Kd.S k29 29 w26 w.heap.size (fun k_=>((fun k_=>(w.heap.size≤k_)∧k_≠gb354)) k_∧¬ ((fun k_=>some k_ = (v369 : Value).ownBlock)) k_) (.slice (some ⟨go23,0,none⟩) x7_9.length co23) x7_9 from (S_mv (Kd.S_mono HO_7.out (fun k_ hk=>⟨⟨hk.1,hk.2.2⟩,fun e_=>hk.2.1 e_⟩))));obtain ⟨oki27,ce27,hcl27,hM27,hcc27,hfr27,hoki27,hH27⟩:=Kd.S_elem HX27.out z29 ((ji20) : Int) (of_decide_eq_true (by first | (with_reducible assumption) | assumption)) (by have h_ : ((ji20) : Int) < ((x7_9.length : Int) : Int):=of_decide_eq_true (by first | (with_reducible assumption) | assumption);first | exact h_ | (have e_:=(Kd.S_reads' HO_7.out).1;omega) | simpa using h_);obtain ⟨ve27_5,rfl,ge27_5⟩:=k29_openM hM27;have HP27:=Kd.S_seg hH27 (of_decide_eq_true (by first | (with_reducible assumption) | assumption)) (by have h_ : ((ji20) : Int) < ((x7_9.length : Int) : Int):=of_decide_eq_true (by first | (with_reducible assumption) | assumption);first | exact h_ | (have e_:=(Kd.S_reads' HO_7.out).1;omega) | simpa using h_) (seg:=[.bool t363,.int .i64 t364,.int .i64 t365,.int .i64 t366,.int .i64 t367,v369]) (j:=0) (show 6≤6 from by decide) (x':=(⟨t363,t364,t365,t366,t367,t368⟩ : S29)) (k29_mkM _ _ _ (⟨t363,t364,t365,t366,t367,t368⟩ : S29) (Kd.R_mono (Kd.R_tight rfl (Kd.R_mono (ok':=fun k_=>((fun k_=>(w.heap.size≤k_)∧k_≠gb354)) k_∧k_≠go23) (Kd.R_types (Kd.R_apart' (HO370.out) (Kd.S_typed HO_7.out) (by decide)) BK354.out (by decide)) (fun k_ hk=>⟨⟨hk.1.1.1,hk.2⟩,fun e_=>(hk.1.2) (by rw [e_];rfl)⟩))) (fun _ h_=>Or.inr (h_)))) (fun _ hk=>hk) (fun k_ hk_=>((Kd.R_mono (ok':=fun k_=>((fun k_=>(w.heap.size≤k_)∧k_≠gb354)) k_∧k_≠go23) (Kd.R_types (Kd.R_apart' (HO370.out) (Kd.S_typed HO_7.out) (by decide)) BK354.out (by decide)) (fun k_ hk=>⟨⟨hk.1.1.1,hk.2⟩,fun e_=>(hk.1.2) (by rw [e_];rfl)⟩))).1 k_ hk_.symm);have hx27_0:=hcc27 0 _ rfl;(try simp only [show (k29).sz = 6 from rfl,Nat.mul_one,Nat.add_zero] at hx27_0);have hf27_0:=hfr27 0;(try simp only [show (k29).sz = 6 from rfl,Nat.mul_one,Nat.add_zero] at hf27_0);have hx27_1:=hcc27 1 _ rfl;(try simp only [show (k29).sz = 6 from rfl,Nat.mul_one,Nat.add_zero] at hx27_1);have hf27_1:=hfr27 1;(try simp only [show (k29).sz = 6 from rfl,Nat.mul_one,Nat.add_zero] at hf27_1);have hx27_2:=hcc27 2 _ rfl;(try simp only [show (k29).sz = 6 from rfl,Nat.mul_one,Nat.add_zero] at hx27_2);have hf27_2:=hfr27 2;(try simp only [show (k29).sz = 6 from rfl,Nat.mul_one,Nat.add_zero] at hf27_2);have hx27_3:=hcc27 3 _ rfl;(try simp only [show (k29).sz = 6 from rfl,Nat.mul_one,Nat.add_zero] at hx27_3);have hf27_3:=hfr27 3;(try simp only [show (k29).sz = 6 from rfl,Nat.mul_one,Nat.add_zero] at hf27_3);have hx27_4:=hcc27 4 _ rfl;(try simp only [show (k29).sz = 6 from rfl,Nat.mul_one,Nat.add_zero] at hx27_4);have hf27_4:=hfr27 4;(try simp only [show (k29).sz = 6 from rfl,Nat.mul_one,Nat.add_zero] at hf27_4);have hx27_5:=hcc27 5 _ rfl;(try simp only [show (k29).sz = 6 from rfl,Nat.mul_one,Nat.add_zero] at hx27_5);have hf27_5:=hfr27 5;(try simp only [show (k29).sz = 6 from rfl,Nat.mul_one,Nat.add_zero] at hf27_5);clear hcl27 hcc27 hfr27 hM27 hoki27 hH27) | ((with_reducible refine gate_store (t:=29) (p:=39) rfl ?_);refine store_event (t:=29) (p:=39) (v:=?vo_w28) (w1:=((((((w26.setCell ⟨go23,((ji20) : Int).toNat * 6,none⟩ (.bool t363)).setCell ⟨go23,((ji20) : Int).toNat * 6 + 1,none⟩ (.int .i64 t364)).setCell ⟨go23,((ji20) : Int).toNat * 6 + 2,none⟩ (.int .i64 t365)).setCell ⟨go23,((ji20) : Int).toNat * 6 + 3,none⟩ (.int .i64 t366)).setCell ⟨go23,((ji20) : Int).toNat * 6 + 4,none⟩ (.int .i64 t367)).setCell ⟨go23,((ji20) : Int).toNat * 6 + 5,none⟩ (v369))) ?hg ?ho ?hn ?hr ?_;(case ho=>rfl);(case hg=>rfl);(case hn=>rfl);(case hr=>first | (go_simp;done) | (go_simp;rfl) | (rw [HV369.out];go_simp;done) | (rw [HV369.out];go_simp;rfl));intro w28 hw;have hg : w26.grownBy w28 (some go23):=(by rw [hw];exact HP27.2);have hp_ : Kd.S k29 29 w28 w.heap.size (fun k_=>(w.heap.size≤k_)∧k_≠gb354) (.slice (some ⟨go23,0,none⟩) x7_9.length co23) y371:=(by rw [hw,Ny371.out];exact HP27.1);clear HP27;have n0_:=Az.mk (hp_);have n1_:=Az.mk (Kd.V_afterv (v:=(.slice (some ⟨go23,0,none⟩) x7_9.length co23)) (v1:=(.slice (some ⟨go23,0,none⟩) x7_9.length co23)) (ok:=(fun k_=>(P1_5_ k_∨w.heap.size≤k_)∧some k_≠(v369 : Value).ownBlock∧k_≠gb354)) (V_mv (Kd.V_mono HO_355005.out (fun _ hk=>⟨⟨hk.1.1,⟨hk.2,hk.1.2.2⟩⟩,hk.1.2.1⟩))) hg (.inl rfl));have n2_:=Az.mk (blk_grown (g:=gb354) (o:=.cells #[.bool a1_0,.int .i64 a1_1,.int .i64 a1_2,.int .i64 a1_3,.int .i64 a1_4,.slice A1_5 l1_5.length c1_5] 29 (0,0)) (blk_mv BK354.out) hg (Kd.S_away HO_7.out (fun _ hk=>hk.2.2)));have n3_:=Az.mk ((by rw [hw];exact bwS (bwS (bwS (bwS (bwS (bwS (HB.out) GB23.out) GB23.out) GB23.out) GB23.out) GB23.out) GB23.out : Below w.heap.size w w28));clear HO_7;clear HO_355005;clear BK354;clear HB;clear HO370;have HO_7:=n0_;have HO_355005:=n1_;have BK354:=n2_;have HB:=n3_;clear n0_ n1_ n2_ n3_;clear hg hw hp_) | ((with_reducible refine gate_callee (f:=21) rfl ?_);refine goesL_ (some 41) rfl rfl Tryd.func21 (by kernel_rfl) rfl #[.slice (some ⟨go23,0,none⟩) y371.length co23] rfl (by (try simp only [List.map_toArray,List.map_cons,List.map_nil]);first | done | (rw [show y371.length = x7_9.length from (Kd.S_reads' HO_7.out).1.symm] <;> rfl) | rfl | (simp only [List.length_drop,List.length_take];rfl)) ?_;(with_reducible refine (r4Leaves.calls _ _ y371 t372 _ ?side1 ?side2 A24.out).mono ?_);(case side1=>exact C_mv ((Kd.S_reads' HO_7.out).2.2));(case side2=>rw [show y371.length = x7_9.length from (Kd.S_reads' HO_7.out).1.symm];exact (Kd.S_reads' HO_7.out).2.1);rintro e w' ⟨rfl,⟨nd,rfl⟩⟩;refine ⟨_,rfl,?_⟩))
           go_loopg [10] kj9 (fun kq v10 w'=>∃ (x7_3 : List (S29)) (x10_3 : Int) (x355005_3 : List Int) (u355005 : Value),v10 = .int .i64 x10_3∧Az (r4Add.l2 kq x7_3 x8_1 t372 x10_3 = some (r1,r2,r3))∧Az (kq≤kj9)∧Az (Kd.S k29 29 w' w.heap.size (fun k_=>(w.heap.size≤k_)∧k_≠gb354) (.slice (some ⟨go23,0,none⟩) x7_9.length co23) x7_3)∧Az (Kd.V (Kd.int .i64) 3 w' w.heap.size (fun k_=>(P1_5_ k_∨w.heap.size≤k_)∧some k_≠((.slice (some ⟨go23,0,none⟩) x7_9.length co23) : Value).ownBlock∧k_≠gb354) u355005 x355005_3)∧Az (w'.heap[gb354]? = some (.cells #[.bool a1_0,.int .i64 a1_1,.int .i64 a1_2,.int .i64 a1_3,.int .i64 a1_4,u355005] 29 (0,0)))∧Az (Below w.heap.size w w'))
           case atStart=>exact ⟨(y371),(1),(l1_5),(.slice A1_5 l1_5.length c1_5),(by first | rfl | (simp;done) | (simp [*];done)),H',⟨Nat.le_refl _⟩,⟨S_mv HO_7.out⟩,⟨V_mv (Kd.V_mono HO_355005.out (fun _ hk=>⟨hk.1.1,⟨hk.2,hk.1.2.2⟩⟩))⟩,⟨blk_mv BK354.out⟩,⟨by repeat (with_reducible first | exact bmv HB.out | refine bwS ?_ GE354.out)⟩⟩
           case round=>
            clear H'
            try clear c7
            try clear c12
            try clear c12b0
            try clear c12b1
            try clear c13
            try clear c13b0
            try clear c13b1
            try clear c14
            try clear c14b0
            try clear c15
            try clear c21
            try clear c21b0
            try clear c22
            try clear c22b0
            try clear p23
            try clear q23
            try clear hcz25_0
            try clear hcz25_1
            try clear hcz25_2
            try clear hcz25_3
            try clear hcz25_4
            try clear hcz25_5
            try clear hfz25_0
            try clear hfz25_1
            try clear hfz25_2
            try clear hfz25_3
            try clear hfz25_4
            try clear hfz25_5
            try clear hx23_0
            try clear hx23_1
            try clear hx23_2
            try clear hx23_3
            try clear hx23_4
            try clear hx23_5
            try clear hx27_0
            try clear hx27_1
            try clear hx27_2
            try clear hx27_3
            try clear hx27_4
            try clear hx27_5
            try clear p23
            try clear q23
            obtain ⟨x7_3,x10_3,x355005_3,u355005,rfl,HA,HK3,HO_7,HO_355005,BK354,HB⟩:=hrel
            have hl7_3:=(Kd.S_reads' HO_7.out).1
            rw [hl7_3] at HO_7
            (try simp only [hl7_3])
            (try simp only [hl7_3] at BK354)
            (try simp only [hl7_3] at HO_355005)
            cases gk with
            | zero=>exact absurd HA.out (by simp [r4Add.l2])
            | succ k3=>
             have H:=HA.out
             clear HA
             simp only [r4Add.l2] at H
             by_cases c29 : x10_3 < (x7_3.length : Int)
             · rw [if_pos c29] at H
               have c29b0 : decide (x10_3 < (x7_3.length : Int)) = true:=decide_eq_true c29
               clear c29
               by_cases c30 : 0≤x10_3
               · rw [if_pos c30] at H
                 have c30b0 : decide (0≤x10_3) = true:=decide_eq_true c30
                 clear c30
                 obtain ⟨bq31,hbq31⟩ : ∃ b_ : Bool,b_ = ((rd_T29 x7_3 x10_3).f0):=⟨_,rfl⟩
                 replace H : (if bq31 = true then ((r3Under.f k3 (wrap64 (2 * x8_1)) x10_3 t372).bind fun t374=>(if t374 = true then ((r4with.f k3 ((rd_T29 x7_3 x10_3).f5) x8_1).bind fun t376=>(r4Add.l2 k3 (x7_3.set (x10_3 : Int).toNat (⟨bq31,(rd_T29 x7_3 x10_3).f1,(rd_T29 x7_3 x10_3).f2,(rd_T29 x7_3 x10_3).f3,(rd_T29 x7_3 x10_3).f4,t376⟩ : S29)) x8_1 t372 (wrap64 (x10_3 + 2)))) else (r4Add.l2 k3 x7_3 x8_1 t372 (wrap64 (x10_3 + 2))))) else (r4Add.l2 k3 x7_3 x8_1 t372 (wrap64 (x10_3 + 2)))) = some (r1,r2,r3):=by rw [← hbq31] at H;exact H
                 have Nbq31:=Az.mk hbq31
                 clear hbq31
                 by_cases c32 : bq31 = true
                 · subst c32
                   have H1 : ((r3Under.f k3 (wrap64 (2 * x8_1)) x10_3 t372).bind fun t374=>(if t374 = true then ((r4with.f k3 ((rd_T29 x7_3 x10_3).f5) x8_1).bind fun t376=>(r4Add.l2 k3 (x7_3.set (x10_3 : Int).toNat (⟨true,(rd_T29 x7_3 x10_3).f1,(rd_T29 x7_3 x10_3).f2,(rd_T29 x7_3 x10_3).f3,(rd_T29 x7_3 x10_3).f4,t376⟩ : S29)) x8_1 t372 (wrap64 (x10_3 + 2)))) else (r4Add.l2 k3 x7_3 x8_1 t372 (wrap64 (x10_3 + 2))))) = some (r1,r2,r3):=by rw [if_pos rfl] at H;exact H
                   clear H
                   have H:=H1
                   clear H1
                   replace H:=Option.bind_eq_some_iff.mp H
                   obtain ⟨t374,A330,H⟩:=H
                   replace H : (if t374 = true then ((r4with.f k3 ((rd_T29 x7_3 x10_3).f5) x8_1).bind fun t376=>(r4Add.l2 k3 (x7_3.set (x10_3 : Int).toNat (⟨true,(rd_T29 x7_3 x10_3).f1,(rd_T29 x7_3 x10_3).f2,(rd_T29 x7_3 x10_3).f3,(rd_T29 x7_3 x10_3).f4,t376⟩ : S29)) x8_1 t372 (wrap64 (x10_3 + 2)))) else (r4Add.l2 k3 x7_3 x8_1 t372 (wrap64 (x10_3 + 2)))) = some (r1,r2,r3):=H
                   have A33:=Az.mk A330
                   clear A330
                   by_cases c34 : t374 = true
                   · subst c34
                     have H1 : ((r4with.f k3 ((rd_T29 x7_3 x10_3).f5) x8_1).bind fun t376=>(r4Add.l2 k3 (x7_3.set (x10_3 : Int).toNat (⟨true,(rd_T29 x7_3 x10_3).f1,(rd_T29 x7_3 x10_3).f2,(rd_T29 x7_3 x10_3).f3,(rd_T29 x7_3 x10_3).f4,t376⟩ : S29)) x8_1 t372 (wrap64 (x10_3 + 2)))) = some (r1,r2,r3):=by rw [if_pos rfl] at H;exact H
                     clear H
                     have H:=H1
                     clear H1
                     replace H:=Option.bind_eq_some_iff.mp H
                     obtain ⟨t376,A350,H⟩:=H
                     replace H : (r4Add.l2 k3 (x7_3.set (x10_3 : Int).toNat (⟨true,(rd_T29 x7_3 x10_3).f1,(rd_T29 x7_3 x10_3).f2,(rd_T29 x7_3 x10_3).f3,(rd_T29 x7_3 x10_3).f4,t376⟩ : S29)) x8_1 t372 (wrap64 (x10_3 + 2))) = some (r1,r2,r3):=H
                     have A35:=Az.mk A350
                     clear A350
                     obtain ⟨y379,hy379⟩ : ∃ y_ : List (S29),y_ = (x7_3.set (x10_3 : Int).toNat (⟨true,(rd_T29 x7_3 x10_3).f1,(rd_T29 x7_3 x10_3).f2,(rd_T29 x7_3 x10_3).f3,(rd_T29 x7_3 x10_3).f4,t376⟩ : S29)):=⟨_,rfl⟩
                     replace H : (r4Add.l2 k3 y379 x8_1 t372 (wrap64 (x10_3 + 2))) = some (r1,r2,r3):=by first | (rw [hy379];with_reducible exact H) | (have H2_:=(Option.bind_some _ _).symm.trans H;rw [hy379];with_reducible exact H2_) | (have H2_:=(Option.bind_some _ _).symm.trans H;with_reducible exact H2_) | with_reducible exact H | (rw [hy379];exact H) | exact H
                     have Ny379:=Az.mk hy379
                     clear hy379
                     have H':=Az.mk H
                     clear H
                     have p373 : 0≤(x10_3 : Int):=of_decide_eq_true (by first | (with_reducible assumption) | assumption)
                     have q373 : x10_3 < (x7_3.length : Int):=of_decide_eq_true (by first | (with_reducible assumption) | assumption)
                     obtain ⟨ad373,A373_5,c373_5,e373,hx373_0,hx373_1,hx373_2,hx373_3,hx373_4,hx373_5,hl373_5,hi373_5⟩:=at_T29 (Kd.S_reads' HO_7.out).2.2 x10_3 p373 q373
                     (try rw [← Nbq31.out] at hx373_0)
                     obtain rfl : (⟨go23,0,none⟩ : Addr) = ad373:=(by injection e373)
                     obtain ⟨ce373,hce373,hMe373,hcc373⟩:=Kd.S_get HO_7.out z29 x10_3 p373 (by first | exact q373 | exact of_decide_eq_true (by first | (with_reducible assumption) | assumption) | (have e_:=(Kd.S_reads' HO_7.out).1;omega))
                     obtain ⟨ve373_5,rfl,ge373_5⟩:=k29_openM hMe373
                     have hv373_5:=hcc373 5 _ rfl
                     rw [add_field _ _ 5 (by omega)] at hv373_5
                     replace hv373_5:=Option.some.inj (hv373_5.symm.trans hx373_5)
                     rw [hv373_5] at ge373_5
                     have HL373_5:=Az.mk (show Kd.R (Kd.int .i64) 3 _ _ _ _ ((rd_T29 x7_3 x10_3).f5) from ge373_5)
                     clear hv373_5 ge373_5
                     clear hcc373 hce373
                     (first | simp only [add_plain] at hx373_0 | simp only [add_at] at hx373_0 | simp only [Addr.add,Nat.zero_add] at hx373_0 | skip)
                     (first | simp only [add_plain] at hx373_1 | simp only [add_at] at hx373_1 | simp only [Addr.add,Nat.zero_add] at hx373_1 | skip)
                     (first | simp only [add_plain] at hx373_2 | simp only [add_at] at hx373_2 | simp only [Addr.add,Nat.zero_add] at hx373_2 | skip)
                     (first | simp only [add_plain] at hx373_3 | simp only [add_at] at hx373_3 | simp only [Addr.add,Nat.zero_add] at hx373_3 | skip)
                     (first | simp only [add_plain] at hx373_4 | simp only [add_at] at hx373_4 | simp only [Addr.add,Nat.zero_add] at hx373_4 | skip)
                     (first | simp only [add_plain] at hx373_5 | simp only [add_at] at hx373_5 | simp only [Addr.add,Nat.zero_add] at hx373_5 | skip)
                     have HR373_5:=Az.mk hi373_5
                     have HC373_5:=Az.mk hl373_5
                     clear hi373_5 hl373_5
                     replace p373:=eq_true p373
                     replace q373:=eq_true q373
                     go_wp2_with (first | (go_at_call 26;(with_reducible refine (r3Under.calls k3 ji20 x10_3 t372 true _ (by rw [← hji20];exact A33.out)).mono ?_);rintro e w' ⟨rfl,⟨nd,rfl⟩⟩;have p375 : 0≤(x10_3 : Int):=of_decide_eq_true (by first | (with_reducible assumption) | assumption);have q375 : x10_3 < (x7_3.length : Int):=of_decide_eq_true (by first | (with_reducible assumption) | assumption);obtain ⟨ad375,A375_5,c375_5,e375,hx375_0,hx375_1,hx375_2,hx375_3,hx375_4,hx375_5,hl375_5,hi375_5⟩:=at_T29 (Kd.S_reads' HO_7.out).2.2 x10_3 p375 q375;(try rw [← Nbq31.out] at hx375_0);obtain rfl : (⟨go23,0,none⟩ : Addr) = ad375:=(by injection e375);obtain ⟨ce375,hce375,hMe375,hcc375⟩:=Kd.S_get HO_7.out z29 x10_3 p375 (by first | exact q375 | exact of_decide_eq_true (by first | (with_reducible assumption) | assumption) | (have e_:=(Kd.S_reads' HO_7.out).1;omega));obtain ⟨ve375_5,rfl,ge375_5⟩:=k29_openM hMe375;have hv375_5:=hcc375 5 _ rfl;rw [add_field _ _ 5 (by omega)] at hv375_5;replace hv375_5:=Option.some.inj (hv375_5.symm.trans hx375_5);rw [hv375_5] at ge375_5;have HL375_5:=Az.mk (show Kd.R (Kd.int .i64) 3 _ _ _ _ ((rd_T29 x7_3 x10_3).f5) from ge375_5);clear hv375_5 ge375_5;clear hcc375 hce375;(first | simp only [add_plain] at hx375_0 | simp only [add_at] at hx375_0 | simp only [Addr.add,Nat.zero_add] at hx375_0 | skip);(first | simp only [add_plain] at hx375_1 | simp only [add_at] at hx375_1 | simp only [Addr.add,Nat.zero_add] at hx375_1 | skip);(first | simp only [add_plain] at hx375_2 | simp only [add_at] at hx375_2 | simp only [Addr.add,Nat.zero_add] at hx375_2 | skip);(first | simp only [add_plain] at hx375_3 | simp only [add_at] at hx375_3 | simp only [Addr.add,Nat.zero_add] at hx375_3 | skip);(first | simp only [add_plain] at hx375_4 | simp only [add_at] at hx375_4 | simp only [Addr.add,Nat.zero_add] at hx375_4 | skip);(first | simp only [add_plain] at hx375_5 | simp only [add_at] at hx375_5 | simp only [Addr.add,Nat.zero_add] at hx375_5 | skip);have HR375_5:=Az.mk hi375_5;have HC375_5:=Az.mk hl375_5;clear hi375_5 hl375_5;replace p375:=eq_true p375;replace q375:=eq_true q375;have ea_:=Option.some.inj (hx373_5.symm.trans hx375_5);injection ea_ with ea_ en_ ec_;subst ea_;subst ec_;clear en_) | ((with_reducible refine gate_callee (f:=55) rfl ?_);refine goesL_ (some 68) rfl rfl Tryd.func55 (by kernel_rfl) rfl #[.slice A373_5 ((rd_T29 x7_3 x10_3).f5).length c373_5,.int .i64 x8_1] rfl (by (try simp only [List.map_toArray,List.map_cons,List.map_nil]);first | done | rfl | (simp only [List.length_drop,List.length_take];rfl)) ?_;(with_reducible refine (r4with.calls k3 _ _ ((rd_T29 x7_3 x10_3).f5) x8_1 t376 _ ?side1 ?side2 A35.out).mono ?_);(case side1=>repeat (first | exact (by repeat (first | (with_reducible exact HR375_5.out) | (with_reducible refine Kd.C_alloc ?_ _) | (with_reducible refine Kd.C_drewN ?_ _) | (with_reducible refine Kd.C_drew ?_) | exact HR375_5.out)) | (with_reducible refine Kd.C_alloc ?_ _) | (with_reducible refine Kd.C_drewN ?_ _) | (with_reducible refine Kd.C_drew ?_)));(case side2=>exact HC375_5.out);rintro e w37 ⟨v377,rfl,ho0,hb⟩;refine ⟨_,rfl,?_⟩;obtain ⟨Av_,cv_,hv_⟩:=Kd.R_slice ho0;have HV377:=Az.mk hv_;clear hv_;have n0_:=Az.mk (Kd.S_elder' (S_mv HO_7.out) (Kd.R_base ho0) hb);have n1_:=Az.mk (Kd.V_elder' (V_mv HO_355005.out) (Kd.R_base ho0) hb);have n2_:=Az.mk (Kd.R_elder' (R_mv HL373_5.out) (Kd.R_base ho0) hb);have n3_:=Az.mk (Kd.R_elder' (R_mv HL375_5.out) (Kd.R_base ho0) hb);have n4_:=Az.mk (Kd.R_lower (Kd.R_new' (Kd.R_new' (Kd.R_newM (M:=fun k_=>(w.heap.size≤k_)) ho0 (bwZ (by repeat (with_reducible first | exact bmv HB.out | refine bwS ?_ GE354.out))) (fun k_ h_=>h_)) (Kd.R_lt (R_mv HL373_5.out))) (Kd.R_lt (R_mv HL375_5.out))) (bwZ (by repeat (with_reducible first | exact bmv HB.out | refine bwS ?_ GE354.out))));have n5_:=Az.mk (kB (g:=gb354) (o:=.cells #[.bool a1_0,.int .i64 a1_1,.int .i64 a1_2,.int .i64 a1_3,.int .i64 a1_4,u355005] 29 (0,0)) (blk_mv BK354.out) hb);have n6_:=Az.mk (Kd.C_below (by repeat (first | (with_reducible exact HR373_5.out) | (with_reducible refine Kd.C_alloc ?_ _) | (with_reducible refine Kd.C_drewN ?_ _) | (with_reducible refine Kd.C_drew ?_) | exact HR373_5.out)) hb);have n7_:=Az.mk (Kd.C_below (by repeat (first | (with_reducible exact HR375_5.out) | (with_reducible refine Kd.C_alloc ?_ _) | (with_reducible refine Kd.C_drewN ?_ _) | (with_reducible refine Kd.C_drew ?_) | exact HR375_5.out)) hb);have n8_:=Az.mk (bwT (by repeat (with_reducible first | exact bmv HB.out | refine bwS ?_ GE354.out)) hb);clear HO_7;clear HO_355005;clear HL373_5;clear HL375_5;clear BK354;clear HR373_5;clear HR375_5;clear HB;have HO_7:=n0_;have HO_355005:=n1_;have HL373_5:=n2_;have HL375_5:=n3_;have HO378:=n4_;have BK354:=n5_;have HR373_5:=n6_;have HR375_5:=n7_;have HB:=n8_;clear n0_ n1_ n2_ n3_ n4_ n5_ n6_ n7_ n8_;(try clear hb);(try clear hb2);(try clear hk);(try clear hi);(try clear ho0);have p36 : 0≤(x10_3 : Int):=of_decide_eq_true (by first | (with_reducible assumption) | assumption);have q36 : (x10_3 : Int) < ((x7_3.length : Int) : Int):=of_decide_eq_true (by first | (with_reducible assumption) | assumption);obtain ⟨_,ce36,hcl36,hM36,hcc36,hfr36,_,_⟩:=Kd.S_elem HO_7.out z29 (x10_3 : Int) p36 q36;obtain ⟨ve36_5,rfl,ge36_5⟩:=k29_openM hM36;have hx36_0 : w37.cell? ⟨go23,(x10_3 : Int).toNat * 6,none⟩ = some (.bool ((rd_T29 x7_3 x10_3).f0)):=hcc36 0 _ rfl;have hx36_1 : w37.cell? ⟨go23,(x10_3 : Int).toNat * 6 + 1,none⟩ = some (.int .i64 ((rd_T29 x7_3 x10_3).f1)):=hcc36 1 _ rfl;have hx36_2 : w37.cell? ⟨go23,(x10_3 : Int).toNat * 6 + 2,none⟩ = some (.int .i64 ((rd_T29 x7_3 x10_3).f2)):=hcc36 2 _ rfl;have hx36_3 : w37.cell? ⟨go23,(x10_3 : Int).toNat * 6 + 3,none⟩ = some (.int .i64 ((rd_T29 x7_3 x10_3).f3)):=hcc36 3 _ rfl;have hx36_4 : w37.cell? ⟨go23,(x10_3 : Int).toNat * 6 + 4,none⟩ = some (.int .i64 ((rd_T29 x7_3 x10_3).f4)):=hcc36 4 _ rfl;have hx36_5 : w37.cell? ⟨go23,(x10_3 : Int).toNat * 6 + 5,none⟩ = some (ve36_5):=hcc36 5 _ rfl;have hf36_0 : w37.frozen? ⟨go23,(x10_3 : Int).toNat * 6,none⟩ = false:=hfr36 0;have hf36_1 : w37.frozen? ⟨go23,(x10_3 : Int).toNat * 6 + 1,none⟩ = false:=hfr36 1;have hf36_2 : w37.frozen? ⟨go23,(x10_3 : Int).toNat * 6 + 2,none⟩ = false:=hfr36 2;have hf36_3 : w37.frozen? ⟨go23,(x10_3 : Int).toNat * 6 + 3,none⟩ = false:=hfr36 3;have hf36_4 : w37.frozen? ⟨go23,(x10_3 : Int).toNat * 6 + 4,none⟩ = false:=hfr36 4;have hf36_5 : w37.frozen? ⟨go23,(x10_3 : Int).toNat * 6 + 5,none⟩ = false:=hfr36 5;clear hcl36 hcc36 hfr36 hM36;replace p36:=eq_true p36;replace q36:=eq_true q36;have n_:=Az.mk (Kd.S_mono (ok':=(fun k_=>(w.heap.size≤k_)∧some k_≠(v377 : Value).ownBlock∧k_≠gb354)) HO_7.out (fun k_ hk=>⟨hk.1.1,⟨hk.2,hk.1.2⟩⟩));clear HO_7;have HO_7:=n_;clear n_;have HX38:=Az.mk (show Kd.S k29 29 w37 w.heap.size (fun k_=>((fun k_=>(w.heap.size≤k_)∧k_≠gb354)) k_∧¬ ((fun k_=>some k_ = (v377 : Value).ownBlock)) k_) (.slice (some ⟨go23,0,none⟩) x7_3.length co23) x7_3 from (S_mv (Kd.S_mono HO_7.out (fun k_ hk=>⟨⟨hk.1,hk.2.2⟩,fun e_=>hk.2.1 e_⟩))));obtain ⟨oki38,ce38,hcl38,hM38,hcc38,hfr38,hoki38,hH38⟩:=Kd.S_elem HX38.out z29 (x10_3 : Int) (of_decide_eq_true (by first | (with_reducible assumption) | assumption)) (by have h_ : (x10_3 : Int) < ((x7_3.length : Int) : Int):=of_decide_eq_true (by first | (with_reducible assumption) | assumption);first | exact h_ | (have e_:=(Kd.S_reads' HO_7.out).1;omega) | simpa using h_);obtain ⟨ve38_5,rfl,ge38_5⟩:=k29_openM hM38;(try rw [show (x7_3.getD x10_3.toNat z29).f0 = true from Nbq31.out.symm] at hH38);have HP38:=Kd.S_seg hH38 (of_decide_eq_true (by first | (with_reducible assumption) | assumption)) (by have h_ : (x10_3 : Int) < ((x7_3.length : Int) : Int):=of_decide_eq_true (by first | (with_reducible assumption) | assumption);first | exact h_ | (have e_:=(Kd.S_reads' HO_7.out).1;omega) | simpa using h_) (seg:=[v377]) (j:=5) (show 6≤6 from by decide) (x':=(⟨true,(rd_T29 x7_3 x10_3).f1,(rd_T29 x7_3 x10_3).f2,(rd_T29 x7_3 x10_3).f3,(rd_T29 x7_3 x10_3).f4,t376⟩ : S29)) (k29_mkM _ _ _ (⟨true,(rd_T29 x7_3 x10_3).f1,(rd_T29 x7_3 x10_3).f2,(rd_T29 x7_3 x10_3).f3,(rd_T29 x7_3 x10_3).f4,t376⟩ : S29) (Kd.R_mono (Kd.R_tight rfl (Kd.R_mono (ok':=fun k_=>((fun k_=>(w.heap.size≤k_)∧k_≠gb354)) k_∧k_≠go23) (Kd.R_types (Kd.R_apart' (HO378.out) (Kd.S_typed HO_7.out) (by decide)) BK354.out (by decide)) (fun k_ hk=>⟨⟨hk.1.1.1.1.1,hk.2⟩,fun e_=>(hk.1.2) (by rw [e_];rfl)⟩))) (fun _ h_=>Or.inr (h_)))) (fun _ hk=>hk) (fun k_ hk_=>((Kd.R_mono (ok':=fun k_=>((fun k_=>(w.heap.size≤k_)∧k_≠gb354)) k_∧k_≠go23) (Kd.R_types (Kd.R_apart' (HO378.out) (Kd.S_typed HO_7.out) (by decide)) BK354.out (by decide)) (fun k_ hk=>⟨⟨hk.1.1.1.1.1,hk.2⟩,fun e_=>(hk.1.2) (by rw [e_];rfl)⟩))).1 k_ hk_.symm);have hx38_5:=hcc38 5 _ rfl;(try simp only [show (k29).sz = 6 from rfl,Nat.mul_one,Nat.add_zero] at hx38_5);have hf38_5:=hfr38 5;(try simp only [show (k29).sz = 6 from rfl,Nat.mul_one,Nat.add_zero] at hf38_5);clear hcl38 hcc38 hfr38 hM38 hoki38 hH38) | ((with_reducible refine gate_store (t:=27) (p:=70) rfl ?_);refine store_event (t:=27) (p:=70) (v:=?vo_w39) (w1:=(w37.setCell ⟨go23,(x10_3 : Int).toNat * 6 + 5,none⟩ (v377))) ?hg ?ho ?hn ?hr ?_;(case ho=>rfl);(case hg=>rfl);(case hn=>rfl);(case hr=>first | (go_simp;done) | (go_simp;rfl) | (rw [HV377.out];go_simp;done) | (rw [HV377.out];go_simp;rfl));intro w39 hw;have hg : w37.grownBy w39 (some go23):=(by rw [hw];exact HP38.2);have hp_ : Kd.S k29 29 w39 w.heap.size (fun k_=>(w.heap.size≤k_)∧k_≠gb354) (.slice (some ⟨go23,0,none⟩) x7_3.length co23) y379:=(by rw [hw,Ny379.out];exact HP38.1);clear HP38;have n0_:=Az.mk (hp_);have n1_:=Az.mk (Kd.V_afterv (v:=(.slice (some ⟨go23,0,none⟩) x7_3.length co23)) (v1:=(.slice (some ⟨go23,0,none⟩) x7_3.length co23)) (ok:=(fun k_=>(P1_5_ k_∨w.heap.size≤k_)∧some k_≠(v377 : Value).ownBlock∧k_≠gb354)) (V_mv (Kd.V_mono HO_355005.out (fun _ hk=>⟨⟨hk.1.1,⟨hk.2,hk.1.2.2⟩⟩,hk.1.2.1⟩))) hg (.inl rfl));have n2_:=Az.mk (blk_grown (g:=gb354) (o:=.cells #[.bool a1_0,.int .i64 a1_1,.int .i64 a1_2,.int .i64 a1_3,.int .i64 a1_4,u355005] 29 (0,0)) (blk_mv BK354.out) hg (Kd.S_away HO_7.out (fun _ hk=>hk.2.2)));have n3_:=Az.mk (Kd.R_after (v:=(.slice (some ⟨go23,0,none⟩) x7_3.length co23)) (v1:=(.slice (some ⟨go23,0,none⟩) x7_3.length co23)) (ok:=(fun k_=>(w.heap.size≤k_)∧some k_≠(v377 : Value).ownBlock∧k_≠gb354)) (R_mv (Kd.R_mono HL373_5.out (fun _ hk=>⟨⟨hk.1.1.1,⟨hk.2,hk.1.1.2⟩⟩,hk.1.2⟩))) hg (.inl rfl));have n4_:=Az.mk (Kd.R_after (v:=(.slice (some ⟨go23,0,none⟩) x7_3.length co23)) (v1:=(.slice (some ⟨go23,0,none⟩) x7_3.length co23)) (ok:=(fun k_=>(w.heap.size≤k_)∧some k_≠(v377 : Value).ownBlock∧k_≠gb354)) (R_mv (Kd.R_mono HL375_5.out (fun _ hk=>⟨⟨hk.1.1.1,⟨hk.2,hk.1.1.2⟩⟩,hk.1.2⟩))) hg (.inl rfl));have n5_:=Az.mk ((by rw [hw];exact bwS (HB.out) GB23.out : Below w.heap.size w w39));clear HO_7;clear HO_355005;clear BK354;clear HL373_5;clear HL375_5;clear HB;clear HO378;have HO_7:=n0_;have HO_355005:=n1_;have BK354:=n2_;have HL373_5:=n3_;have HL375_5:=n4_;have HB:=n5_;clear n0_ n1_ n2_ n3_ n4_ n5_;clear hg hw hp_))
                     (try simp only [← hl7_3])
                     go_roundg k3
                     case measure=>have:=HK1.out;have:=HJ9.out;have:=HK3.out;omega
                     case rel=>exact ⟨(y379),(wrap64 (x10_3 + 2)),(x355005_3),(u355005),(by first | rfl | (simp;done) | (simp [*];done)),H',⟨by have:=HK1.out;have:=HJ9.out;have:=HK3.out;omega⟩,⟨by (try simp only [hl7_3]);(with_reducible repeat (first | apply Kd.S_alloc | apply Kd.S_drewN | apply Kd.S_drew));exact HO_7.out⟩,⟨by (try simp only [hl7_3]);(with_reducible repeat (first | apply Kd.V_alloc | apply Kd.V_drewN | apply Kd.V_drew));exact Kd.V_mono HO_355005.out (fun _ hk=>⟨hk.1.1,⟨hk.2,hk.1.2.2⟩⟩)⟩,⟨by (try simp only [hl7_3]);(with_reducible repeat (first | refine kN ?_ _ | refine kD ?_ | refine kA ?_ _));exact BK354.out⟩,⟨by repeat (with_reducible first | exact bmv HB.out | refine bwS ?_ GE354.out)⟩⟩
                   · replace c34:=Bool.eq_false_iff.mpr c34
                     subst c34
                     have H1 : (r4Add.l2 k3 x7_3 x8_1 t372 (wrap64 (x10_3 + 2))) = some (r1,r2,r3):=by rw [if_neg (show ¬ (false = true) by decide)] at H;exact H
                     clear H
                     have H:=H1
                     clear H1
                     have H':=Az.mk H
                     clear H
                     have p373 : 0≤(x10_3 : Int):=of_decide_eq_true (by first | (with_reducible assumption) | assumption)
                     have q373 : x10_3 < (x7_3.length : Int):=of_decide_eq_true (by first | (with_reducible assumption) | assumption)
                     obtain ⟨ad373,A373_5,c373_5,e373,hx373_0,hx373_1,hx373_2,hx373_3,hx373_4,hx373_5,hl373_5,hi373_5⟩:=at_T29 (Kd.S_reads' HO_7.out).2.2 x10_3 p373 q373
                     (try rw [← Nbq31.out] at hx373_0)
                     obtain rfl : (⟨go23,0,none⟩ : Addr) = ad373:=(by injection e373)
                     obtain ⟨ce373,hce373,hMe373,hcc373⟩:=Kd.S_get HO_7.out z29 x10_3 p373 (by first | exact q373 | exact of_decide_eq_true (by first | (with_reducible assumption) | assumption) | (have e_:=(Kd.S_reads' HO_7.out).1;omega))
                     obtain ⟨ve373_5,rfl,ge373_5⟩:=k29_openM hMe373
                     have hv373_5:=hcc373 5 _ rfl
                     rw [add_field _ _ 5 (by omega)] at hv373_5
                     replace hv373_5:=Option.some.inj (hv373_5.symm.trans hx373_5)
                     rw [hv373_5] at ge373_5
                     have HL373_5:=Az.mk (show Kd.R (Kd.int .i64) 3 _ _ _ _ ((rd_T29 x7_3 x10_3).f5) from ge373_5)
                     clear hv373_5 ge373_5
                     clear hcc373 hce373
                     (first | simp only [add_plain] at hx373_0 | simp only [add_at] at hx373_0 | simp only [Addr.add,Nat.zero_add] at hx373_0 | skip)
                     (first | simp only [add_plain] at hx373_1 | simp only [add_at] at hx373_1 | simp only [Addr.add,Nat.zero_add] at hx373_1 | skip)
                     (first | simp only [add_plain] at hx373_2 | simp only [add_at] at hx373_2 | simp only [Addr.add,Nat.zero_add] at hx373_2 | skip)
                     (first | simp only [add_plain] at hx373_3 | simp only [add_at] at hx373_3 | simp only [Addr.add,Nat.zero_add] at hx373_3 | skip)
                     (first | simp only [add_plain] at hx373_4 | simp only [add_at] at hx373_4 | simp only [Addr.add,Nat.zero_add] at hx373_4 | skip)
                     (first | simp only [add_plain] at hx373_5 | simp only [add_at] at hx373_5 | simp only [Addr.add,Nat.zero_add] at hx373_5 | skip)
                     have HR373_5:=Az.mk hi373_5
                     have HC373_5:=Az.mk hl373_5
                     clear hi373_5 hl373_5
                     replace p373:=eq_true p373
                     replace q373:=eq_true q373
                     go_wp2_with (first | (go_at_call 26;(with_reducible refine (r3Under.calls k3 ji20 x10_3 t372 false _ (by rw [← hji20];exact A33.out)).mono ?_);rintro e w' ⟨rfl,⟨nd,rfl⟩⟩))
                     (try simp only [← hl7_3])
                     go_roundg k3
                     case measure=>have:=HK1.out;have:=HJ9.out;have:=HK3.out;omega
                     case rel=>exact ⟨(x7_3),(wrap64 (x10_3 + 2)),(x355005_3),(u355005),(by first | rfl | (simp;done) | (simp [*];done)),H',⟨by have:=HK1.out;have:=HJ9.out;have:=HK3.out;omega⟩,⟨by (try simp only [hl7_3]);(with_reducible repeat (first | apply Kd.S_alloc | apply Kd.S_drewN | apply Kd.S_drew));exact HO_7.out⟩,⟨by (try simp only [hl7_3]);(with_reducible repeat (first | apply Kd.V_alloc | apply Kd.V_drewN | apply Kd.V_drew));exact HO_355005.out⟩,⟨by (try simp only [hl7_3]);(with_reducible repeat (first | refine kN ?_ _ | refine kD ?_ | refine kA ?_ _));exact BK354.out⟩,⟨by repeat (with_reducible first | exact bmv HB.out | refine bwS ?_ GE354.out)⟩⟩
                 · replace c32:=Bool.eq_false_iff.mpr c32
                   subst c32
                   have H1 : (r4Add.l2 k3 x7_3 x8_1 t372 (wrap64 (x10_3 + 2))) = some (r1,r2,r3):=by rw [if_neg (show ¬ (false = true) by decide)] at H;exact H
                   clear H
                   have H:=H1
                   clear H1
                   have H':=Az.mk H
                   clear H
                   have p373 : 0≤(x10_3 : Int):=of_decide_eq_true (by first | (with_reducible assumption) | assumption)
                   have q373 : x10_3 < (x7_3.length : Int):=of_decide_eq_true (by first | (with_reducible assumption) | assumption)
                   obtain ⟨ad373,A373_5,c373_5,e373,hx373_0,hx373_1,hx373_2,hx373_3,hx373_4,hx373_5,hl373_5,hi373_5⟩:=at_T29 (Kd.S_reads' HO_7.out).2.2 x10_3 p373 q373
                   (try rw [← Nbq31.out] at hx373_0)
                   obtain rfl : (⟨go23,0,none⟩ : Addr) = ad373:=(by injection e373)
                   obtain ⟨ce373,hce373,hMe373,hcc373⟩:=Kd.S_get HO_7.out z29 x10_3 p373 (by first | exact q373 | exact of_decide_eq_true (by first | (with_reducible assumption) | assumption) | (have e_:=(Kd.S_reads' HO_7.out).1;omega))
                   obtain ⟨ve373_5,rfl,ge373_5⟩:=k29_openM hMe373
                   have hv373_5:=hcc373 5 _ rfl
                   rw [add_field _ _ 5 (by omega)] at hv373_5
                   replace hv373_5:=Option.some.inj (hv373_5.symm.trans hx373_5)
                   rw [hv373_5] at ge373_5
                   have HL373_5:=Az.mk (show Kd.R (Kd.int .i64) 3 _ _ _ _ ((rd_T29 x7_3 x10_3).f5) from ge373_5)
                   clear hv373_5 ge373_5
                   clear hcc373 hce373
                   (first | simp only [add_plain] at hx373_0 | simp only [add_at] at hx373_0 | simp only [Addr.add,Nat.zero_add] at hx373_0 | skip)
                   (first | simp only [add_plain] at hx373_1 | simp only [add_at] at hx373_1 | simp only [Addr.add,Nat.zero_add] at hx373_1 | skip)
                   (first | simp only [add_plain] at hx373_2 | simp only [add_at] at hx373_2 | simp only [Addr.add,Nat.zero_add] at hx373_2 | skip)
                   (first | simp only [add_plain] at hx373_3 | simp only [add_at] at hx373_3 | simp only [Addr.add,Nat.zero_add] at hx373_3 | skip)
                   (first | simp only [add_plain] at hx373_4 | simp only [add_at] at hx373_4 | simp only [Addr.add,Nat.zero_add] at hx373_4 | skip)
                   (first | simp only [add_plain] at hx373_5 | simp only [add_at] at hx373_5 | simp only [Addr.add,Nat.zero_add] at hx373_5 | skip)
                   have HR373_5:=Az.mk hi373_5
                   have HC373_5:=Az.mk hl373_5
                   clear hi373_5 hl373_5
                   replace p373:=eq_true p373
                   replace q373:=eq_true q373
                   go_wp2
                   (try simp only [← hl7_3])
                   go_roundg k3
                   case measure=>have:=HK1.out;have:=HJ9.out;have:=HK3.out;omega
                   case rel=>exact ⟨(x7_3),(wrap64 (x10_3 + 2)),(x355005_3),(u355005),(by first | rfl | (simp;done) | (simp [*];done)),H',⟨by have:=HK1.out;have:=HJ9.out;have:=HK3.out;omega⟩,⟨by (try simp only [hl7_3]);(with_reducible repeat (first | apply Kd.S_alloc | apply Kd.S_drewN | apply Kd.S_drew));exact HO_7.out⟩,⟨by (try simp only [hl7_3]);(with_reducible repeat (first | apply Kd.V_alloc | apply Kd.V_drewN | apply Kd.V_drew));exact HO_355005.out⟩,⟨by (try simp only [hl7_3]);(with_reducible repeat (first | refine kN ?_ _ | refine kD ?_ | refine kA ?_ _));exact BK354.out⟩,⟨by repeat (with_reducible first | exact bmv HB.out | refine bwS ?_ GE354.out)⟩⟩
               · rw [if_neg c30] at H
                 exact absurd H (by simp)
             · rw [if_neg c29] at H
               have c29b0 : decide (x10_3 < (x7_3.length : Int)) = false:=decide_eq_false c29
               clear c29
               simp only [Option.some.injEq,Prod.mk.injEq] at H
               obtain ⟨rfl,rfl,rfl⟩:=H
               go_wp2
               go_ret3
               exact ⟨_,by first | rfl | (simp [errW_none,errW_some] <;> rfl) | (simp only [← hji20];first | rfl | (simp [errW_none,errW_some] <;> rfl)) | (simp [*,errW_none,errW_some] <;> rfl),S_mv (Kd.S_mono HO_7.out (fun _ hk=>hk.1)),by repeat (with_reducible first | exact bmv HB.out | refine bwS ?_ GE354.out)⟩
         · rw [if_neg c22] at H
           exact absurd H (by simp)
       · rw [if_neg c21] at H
         exact absurd H (by simp)
end Go.Proofs.YtbblomnhobodkaaDoor.PTw
namespace Go.Proofs.YtbblomnhobodkaaDoor.PTw
open Go.RowKit Go.Proofs.YtbblomnhobodkaaDoorW.PW Go.Proofs.YtbblomnhobodkaaDoorW.PL Go.Proofs.YtbblomnhobodkaaDoorW.PM
attribute [local go_sem] max2_int min2_int max_two min_two max_three min_three max_four min_four   -- for this text's walks alone
set_option linter.unusedVariables false
set_option linter.unusedSimpArgs false
def w4grown.l0 : Nat→List (S29)→List (S32)→Int→Int→Option ((List (S29)))
 | 0,_,_,_,_=>none
 | k + 1,x5,x13,x14,x15=>if x15 < x14 then (if 0≤x15 then (if x15 < (x13.length : Int) then (if x15≥300 then (some x5) else (if ((rd_T32 x13 x15).f0) = 1 then ((r4Add.f k x5 ((rd_T32 x13 x15).f2.f0) ((rd_T32 x13 x15).f2.f1) ((rd_T32 x13 x15).f2.f2) ((rd_T32 x13 x15).f2.f3) ((rd_T32 x13 x15).f2.f4) ((rd_T32 x13 x15).f2.f5)).bind fun bt525=>(if (bt525.1.length : Int) > 0 then (w4grown.l0 k bt525.1 x13 x14 (wrap64 (x15 + 1))) else (w4grown.l0 k x5 x13 x14 (wrap64 (x15 + 1))))) else (if ((rd_T32 x13 x15).f0) = 2 then ((r4Update.f k x5 ((rd_T32 x13 x15).f1) ((rd_T32 x13 x15).f2.f0) ((rd_T32 x13 x15).f2.f1) ((rd_T32 x13 x15).f2.f2) ((rd_T32 x13 x15).f2.f3) ((rd_T32 x13 x15).f2.f4) ((rd_T32 x13 x15).f2.f5)).bind fun bt530=>(if (bt530.1.length : Int) > 0 then (w4grown.l0 k bt530.1 x13 x14 (wrap64 (x15 + 1))) else (w4grown.l0 k x5 x13 x14 (wrap64 (x15 + 1))))) else (if ((rd_T32 x13 x15).f0) = 3 then ((r4Remove.f k x5 ((rd_T32 x13 x15).f1)).bind fun bt534=>(if (bt534.1.length : Int) > 0 then (w4grown.l0 k bt534.1 x13 x14 (wrap64 (x15 + 1))) else (w4grown.l0 k x5 x13 x14 (wrap64 (x15 + 1))))) else (if ((rd_T32 x13 x15).f0) = 4 then ((w4keys.f k x5 ((rd_T32 x13 x15).f0) ((rd_T32 x13 x15).f1) ((rd_T32 x13 x15).f2.f0) ((rd_T32 x13 x15).f2.f1) ((rd_T32 x13 x15).f2.f2) ((rd_T32 x13 x15).f2.f3) ((rd_T32 x13 x15).f2.f4) ((rd_T32 x13 x15).f2.f5) 0).bind fun t538=>((r4Merge.f k x5 ((rd_T32 x13 x15).f1) ((rd_T32 x13 x15).f2.f0) ((rd_T32 x13 x15).f2.f1) ((rd_T32 x13 x15).f2.f2) ((rd_T32 x13 x15).f2.f3) ((rd_T32 x13 x15).f2.f4) ((rd_T32 x13 x15).f2.f5) t538 t538).bind fun bt541=>(if (bt541.1.length : Int) > 0 then (w4grown.l0 k bt541.1 x13 x14 (wrap64 (x15 + 1))) else (w4grown.l0 k x5 x13 x14 (wrap64 (x15 + 1)))))) else (if (([] : List (S29)).length : Int) > 0 then (w4grown.l0 k ([] : List (S29)) x13 x14 (wrap64 (x15 + 1))) else (w4grown.l0 k x5 x13 x14 (wrap64 (x15 + 1))))))))) else (none)) else (none)) else (some x5)
def w4grown.f (k : Nat) (a0_0 : Bool) (a0_1 : Int) (a0_2 : Int) (a0_3 : Int) (a0_4 : Int) (l0_5 : List Int) (l1 : List (S32)) : Option ((List (S29))):=(r4Leaf.f a0_0 a0_1 a0_2 a0_3 a0_4 l0_5).bind fun bt512=>(w4grown.l0 k (([(⟨bt512.1,bt512.2.1,bt512.2.2.1,bt512.2.2.2.1,bt512.2.2.2.2.1,bt512.2.2.2.2.2⟩ : S29)] : List (S29))) l1 (l1.length : Int) 0)
theorem w4grown.mono_l : ∀ k,(∀ y0 y1 y2 y3,LeO (w4grown.l0 k y0 y1 y2 y3) (w4grown.l0 (k + 1) y0 y1 y2 y3))
 | 0=>fun _ _ _ _ r h=>by simp [w4grown.l0] at h
 | k + 1=>by
  have ih0:=w4grown.mono_l k
  · intro y0 y1 y2 y3
    unfold w4grown.l0
    repeat' first
    | (with_reducible exact ih0 _ _ _ _)
    | (with_reducible exact w4keys.mono _ _ _ _ _ _ _ _ _ _ _)
    | (with_reducible exact r4Add.mono _ _ _ _ _ _ _ _)
    | (with_reducible exact r4Merge.mono _ _ _ _ _ _ _ _ _ _ _)
    | (with_reducible exact r4Remove.mono _ _ _)
    | (with_reducible exact r4Update.mono _ _ _ _ _ _ _ _ _)
    | (with_reducible exact LeO.refl _)
    | (with_reducible exact LeO.none _)
    | (with_reducible refine LeO.ite ?_ ?_)
    | (with_reducible refine LeO.bind ?_ (fun _=>?_))
    | exact ih0 _ _ _ _
    | exact w4keys.mono _ _ _ _ _ _ _ _ _ _ _
    | exact r4Add.mono _ _ _ _ _ _ _ _
    | exact r4Merge.mono _ _ _ _ _ _ _ _ _ _ _
    | exact r4Remove.mono _ _ _
    | exact r4Update.mono _ _ _ _ _ _ _ _ _
    | exact LeO.none _
    | refine LeO.ite ?_ ?_
    | refine LeO.bind ?_ (fun _=>?_)
theorem w4grown.mono : ∀ a0 a1 a2 a3 a4 a5 a6 k,LeO (w4grown.f k a0 a1 a2 a3 a4 a5 a6) (w4grown.f (k + 1) a0 a1 a2 a3 a4 a5 a6):=by
 intro a0 a1 a2 a3 a4 a5 a6 k
 have ih0:=w4grown.mono_l k
 unfold w4grown.f
 repeat' first
  | (with_reducible exact ih0 _ _ _ _)
  | (with_reducible exact w4keys.mono _ _ _ _ _ _ _ _ _ _ _)
  | (with_reducible exact r4Add.mono _ _ _ _ _ _ _ _)
  | (with_reducible exact r4Merge.mono _ _ _ _ _ _ _ _ _ _ _)
  | (with_reducible exact r4Remove.mono _ _ _)
  | (with_reducible exact r4Update.mono _ _ _ _ _ _ _ _ _)
  | (with_reducible exact LeO.refl _)
  | (with_reducible exact LeO.none _)
  | (with_reducible refine LeO.ite ?_ ?_)
  | (with_reducible refine LeO.bind ?_ (fun _=>?_))
  | exact ih0 _ _ _ _
  | exact w4keys.mono _ _ _ _ _ _ _ _ _ _ _
  | exact r4Add.mono _ _ _ _ _ _ _ _
  | exact r4Merge.mono _ _ _ _ _ _ _ _ _ _ _
  | exact r4Remove.mono _ _ _
  | exact r4Update.mono _ _ _ _ _ _ _ _ _
  | exact LeO.none _
  | refine LeO.ite ?_ ?_
  | refine LeO.bind ?_ (fun _=>?_)
end Go.Proofs.YtbblomnhobodkaaDoor.PTw
namespace Go.Proofs.YtbblomnhobodkaaDoor.PTw
open Go.RowKit Go.Proofs.YtbblomnhobodkaaDoorW.PW Go.Proofs.YtbblomnhobodkaaDoorW.PL Go.Proofs.YtbblomnhobodkaaDoorW.PM
attribute [local go_sem] max2_int min2_int max_two min_two max_three min_three max_four min_four   -- for this text's walks alone
set_option linter.unusedVariables false
set_option linter.unusedSimpArgs false
theorem grown_box {w2 w3 : World} {g t : Nat} {z0 z1 z2 z3 z4 z5 z6 z7 z8 v0 v1 v2 v3 v4 v5 v6 v7 v8 : Value} (hw : w3 = (((((((((w2.setCell ⟨g,0,none⟩ v0).setCell ⟨g,1,none⟩ v1).setCell ⟨g,2,none⟩ v2).setCell ⟨g,3,none⟩ v3).setCell ⟨g,4,none⟩ v4).setCell ⟨g,5,none⟩ v5).setCell ⟨g,6,none⟩ v6).setCell ⟨g,7,none⟩ v7).setCell ⟨g,8,none⟩ v8)) (h : w2.heap[g]? = some (.cells #[z0,z1,z2,z3,z4,z5,z6,z7,z8] t (0,0))) : w3.heap[g]? = some (.cells #[v0,v1,v2,v3,v4,v5,v6,v7,v8] t (0,0)):=by
 subst hw
 have h0:=blk_put h 0 v0 (cs':=#[v0,z1,z2,z3,z4,z5,z6,z7,z8]) rfl
 have h1:=blk_put h0 1 v1 (cs':=#[v0,v1,z2,z3,z4,z5,z6,z7,z8]) rfl
 have h2:=blk_put h1 2 v2 (cs':=#[v0,v1,v2,z3,z4,z5,z6,z7,z8]) rfl
 have h3:=blk_put h2 3 v3 (cs':=#[v0,v1,v2,v3,z4,z5,z6,z7,z8]) rfl
 have h4:=blk_put h3 4 v4 (cs':=#[v0,v1,v2,v3,v4,z5,z6,z7,z8]) rfl
 have h5:=blk_put h4 5 v5 (cs':=#[v0,v1,v2,v3,v4,v5,z6,z7,z8]) rfl
 have h6:=blk_put h5 6 v6 (cs':=#[v0,v1,v2,v3,v4,v5,v6,z7,z8]) rfl
 have h7:=blk_put h6 7 v7 (cs':=#[v0,v1,v2,v3,v4,v5,v6,v7,z8]) rfl
 have h8:=blk_put h7 8 v8 (cs':=#[v0,v1,v2,v3,v4,v5,v6,v7,v8]) rfl
 exact h8
theorem grown_below {w w2 w3 : World} {g : Nat} {v0 v1 v2 v3 v4 v5 v6 v7 v8 : Value} (hw : w3 = (((((((((w2.setCell ⟨g,0,none⟩ v0).setCell ⟨g,1,none⟩ v1).setCell ⟨g,2,none⟩ v2).setCell ⟨g,3,none⟩ v3).setCell ⟨g,4,none⟩ v4).setCell ⟨g,5,none⟩ v5).setCell ⟨g,6,none⟩ v6).setCell ⟨g,7,none⟩ v7).setCell ⟨g,8,none⟩ v8)) (hb : Below w.heap.size w w2) (hg : w.heap.size≤g) : Below w.heap.size w w3:=by
 subst hw
 exact (bwS (bwS (bwS (bwS (bwS (bwS (bwS (bwS (bwS hb hg) hg) hg) hg) hg) hg) hg) hg) hg)
theorem V_int {w : World} {A : Option Addr} {l : List Int} {c base : Nat} (hl : l.length≤c) (h : (Kd.int .i64).C w A l.length l) : Kd.V (Kd.int .i64) 3 w base (fun _=>True) (.slice A l.length c) l:=Kd.V_mk hl (fun W' hW=>Kd.Heap.C (Kd.heap_int .i64) (fun k_ hk=>hW k_ trivial hk) h)
end Go.Proofs.YtbblomnhobodkaaDoor.PTw
namespace Go.Proofs.YtbblomnhobodkaaDoor.PTw
open Go.RowKit Go.Proofs.YtbblomnhobodkaaDoorW.PW Go.Proofs.YtbblomnhobodkaaDoorW.PL Go.Proofs.YtbblomnhobodkaaDoorW.PM
attribute [local go_sem] max2_int min2_int max_two min_two max_three min_three max_four min_four   -- for this text's walks alone
set_option linter.unusedVariables false
set_option linter.unusedSimpArgs false
set_option maxHeartbeats 8000000 in
set_option maxRecDepth 100000 in
theorem w4grown.calls (k : Nat) (a0_0 : Bool) (a0_1 : Int) (a0_2 : Int) (a0_3 : Int) (a0_4 : Int) (A0_5 : Option Addr) (c0_5 : Nat) (l0_5 : List Int) (P1_ : Nat→Prop) (A1 : Option Addr) (c1 : Nat) (l1 : List (S32)) (r : List (S29)) (w : World) (hr0_5 : Kd.C (Kd.int .i64) w A0_5 l0_5.length l0_5) (hc0_5 : l0_5.length≤c0_5) (hs1 : Kd.V k32 32 w w.heap.size (fun k_=>P1_ k_) (.slice A1 l1.length c1) l1) (h : w4grown.f k a0_0 a0_1 a0_2 a0_3 a0_4 l0_5 l1 = some r) :
 Calls Tryd.prog 18 #[.agg #[.bool a0_0,.int .i64 a0_1,.int .i64 a0_2,.int .i64 a0_3,.int .i64 a0_4,.slice A0_5 l0_5.length c0_5],.slice A1 l1.length c1] w fun e w'=>∃ v0_ : Value,e = .returned (v0_)∧Kd.N k29 29 w' w.heap.size (fun k_=>(P1_ k_∨w.heap.size≤k_)) v0_ r∧Below w.heap.size w w':=by
 have hu29:=Tryd.underlying29
 have hu32:=Tryd.underlying32
 have HR0_5:=Az.mk hr0_5
 have HC0_5:=Az.mk hc0_5
 clear hr0_5 hc0_5
 have HO1:=Az.mk (show Kd.V k32 32 w w.heap.size (fun k_=>(P1_ k_∨w.heap.size≤k_)) (.slice A1 l1.length c1) l1 from Kd.V_mono hs1 (fun k_ hk=>.inl hk))
 have HB:=Az.mk (Below.refl w.heap.size w)
 have H : ((r4Leaf.f a0_0 a0_1 a0_2 a0_3 a0_4 l0_5).bind fun bt512=>(w4grown.l0 k (([(⟨bt512.1,bt512.2.1,bt512.2.2.1,bt512.2.2.2.1,bt512.2.2.2.2.1,bt512.2.2.2.2.2⟩ : S29)] : List (S29))) l1 (l1.length : Int) 0)) = some r:=h
 clear h
 replace H:=Option.bind_eq_some_iff.mp H
 obtain ⟨⟨t512,t513,t514,t515,t516,t517⟩,A30,H⟩:=H
 replace H : (w4grown.l0 k (([(⟨t512,t513,t514,t515,t516,t517⟩ : S29)] : List (S29))) l1 (l1.length : Int) 0) = some r:=H
 have A3:=Az.mk A30
 clear A30
 obtain ⟨y520,hy520⟩ : ∃ y_ : List (S29),y_ = (([(⟨t512,t513,t514,t515,t516,t517⟩ : S29)] : List (S29))):=⟨_,rfl⟩
 replace H : (w4grown.l0 k y520 l1 (l1.length : Int) 0) = some r:=by first | (rw [hy520];with_reducible exact H) | (have H2_:=(Option.bind_some _ _).symm.trans H;rw [hy520];with_reducible exact H2_) | (have H2_:=(Option.bind_some _ _).symm.trans H;with_reducible exact H2_) | with_reducible exact H | (rw [hy520];exact H) | exact H
 have Ny520:=Az.mk hy520
 clear hy520
 have H':=Az.mk H
 clear H
 go_enter Tryd.func18,Tryd.ntmps18
 go_wp2_with (first | ((with_reducible refine gate_dst (N:=2) rfl ?_);refine box_event ?hg (N:=2) ?hd (cs:=#[.bool a0_0,.int .i64 a0_1,.int .i64 a0_2,.int .i64 a0_3,.int .i64 a0_4,.slice A0_5 l0_5.length c0_5]) (t:=29) ?hr ?_;(case hd=>rfl);(case hg=>rfl);(case hr=>first | (go_simp;done) | (go_simp;rfl));intro gb511 hg w4 hbox hb;have n0_:=Az.mk (Kd.V_below (Kd.V_elderB (by (with_reducible repeat (first | apply Kd.V_alloc | apply Kd.V_drewN | apply Kd.V_drew));exact HO1.out) gb511 (Nat.le_of_eq hg.symm)) hb);have n1_:=Az.mk (bwT (by repeat (first | (with_reducible first | exact HB.out | apply bwA | apply bwN | apply bw1) | exact HB.out)) hb);have n2_:=Az.mk (hbox);have n3_:=Az.mk ((by rw [hg];exact (bwZ (by repeat (first | (with_reducible first | exact HB.out | apply bwA | apply bwN | apply bw1) | exact HB.out))) : w.heap.size≤gb511));have n4_:=Az.mk ((by rw [hg];exact (bwZ (by repeat (first | (with_reducible first | exact HB.out | apply bwA | apply bwN | apply bw1) | exact HB.out))) : w.heap.size≤gb511));clear HO1;clear HB;have HO1:=n0_;have HB:=n1_;have BK511:=n2_;have GW511:=n3_;have GE511:=n4_;clear n0_ n1_ n2_ n3_ n4_;clear hb hbox hg;have hcz5_0 : w4.cell? ⟨gb511,0,none⟩ = some (.bool a0_0):=(kC BK511.out 0).trans rfl;have hcz5_1 : w4.cell? ⟨gb511,1,none⟩ = some (.int .i64 a0_1):=(kC BK511.out 1).trans rfl;have hcz5_2 : w4.cell? ⟨gb511,2,none⟩ = some (.int .i64 a0_2):=(kC BK511.out 2).trans rfl;have hcz5_3 : w4.cell? ⟨gb511,3,none⟩ = some (.int .i64 a0_3):=(kC BK511.out 3).trans rfl;have hcz5_4 : w4.cell? ⟨gb511,4,none⟩ = some (.int .i64 a0_4):=(kC BK511.out 4).trans rfl;have hcz5_5 : w4.cell? ⟨gb511,5,none⟩ = some (.slice A0_5 l0_5.length c0_5):=(kC BK511.out 5).trans rfl;have hfz5_0:=kF BK511.out 0;have hfz5_1:=kF BK511.out 1;have hfz5_2:=kF BK511.out 2;have hfz5_3:=kF BK511.out 3;have hfz5_4:=kF BK511.out 4;have hfz5_5:=kF BK511.out 5) | ((with_reducible refine gate_callee (f:=35) rfl ?_);refine goesL_ (some 11) rfl rfl Tryd.func35 (by kernel_rfl) rfl #[.agg #[.bool a0_0,.int .i64 a0_1,.int .i64 a0_2,.int .i64 a0_3,.int .i64 a0_4,.slice A0_5 l0_5.length c0_5]] rfl (by (try simp only [List.map_toArray,List.map_cons,List.map_nil]);first | done | rfl | (simp only [List.length_drop,List.length_take];rfl)) ?_;(with_reducible refine (r4Leaf.calls a0_0 a0_1 a0_2 a0_3 a0_4 _ _ l0_5 t512 t513 t514 t515 t516 t517 _ ?side1 ?side2 A3.out).mono ?_);(case side1=>repeat (first | exact (Kd.C_below HR0_5.out HB.out) | (with_reducible refine Kd.C_alloc ?_ _) | (with_reducible refine Kd.C_drewN ?_ _) | (with_reducible refine Kd.C_drew ?_)));(case side2=>exact HC0_5.out);rintro e w6 ⟨v518,rfl,ho0,hb⟩;refine ⟨_,rfl,?_⟩;obtain ⟨Av_,cv_,hv_⟩:=Kd.R_slice ho0;have HV518:=Az.mk hv_;clear hv_;have n0_:=Az.mk (Kd.V_elder' (by (with_reducible repeat (first | apply Kd.V_alloc | apply Kd.V_drewN | apply Kd.V_drew));exact HO1.out) (Kd.R_base ho0) hb);have n1_:=Az.mk (Kd.R_lower (Kd.R_newM (M:=fun k_=>(w.heap.size≤k_)) ho0 (bwZ (by repeat (first | (with_reducible first | exact HB.out | apply bwA | apply bwN | apply bw1 | refine bwS ?_ GE511.out) | exact HB.out))) (fun k_ h_=>h_)) (bwZ (by repeat (first | (with_reducible first | exact HB.out | apply bwA | apply bwN | apply bw1 | refine bwS ?_ GE511.out) | exact HB.out))));have n2_:=Az.mk (kB (g:=gb511) (o:=.cells #[.bool a0_0,.int .i64 a0_1,.int .i64 a0_2,.int .i64 a0_3,.int .i64 a0_4,.slice A0_5 l0_5.length c0_5] 29 (0,0)) (by (with_reducible repeat (first | refine kN ?_ _ | refine kD ?_ | refine kA ?_ _));exact BK511.out) hb);have n3_:=Az.mk (bwT (by repeat (first | (with_reducible first | exact HB.out | apply bwA | apply bwN | apply bw1 | refine bwS ?_ GE511.out) | exact HB.out)) hb);clear HO1;clear BK511;clear HB;have HO1:=n0_;have HO519:=n1_;have BK511:=n2_;have HB:=n3_;clear n0_ n1_ n2_ n3_;(try clear hb);(try clear hb2);(try clear hk);(try clear hi);(try clear ho0);obtain ⟨Ao7,co7,eo7⟩:=Kd.R_slice HO519.out;subst eo7) | ((with_reducible refine gate_dst (N:=12) rfl ?_);refine Kd.N_lit k29 _ 29 ?hg (N':=12) ?hd (xs:=([(⟨t512,t513,t514,t515,t516,t517⟩ : S29)] : List (S29))) (inner:=[.bool t512,.int .i64 t513,.int .i64 t514,.int .i64 t515,.int .i64 t516,.slice Ao7 t517.length co7]) (ok:=(fun k_=>(P1_ k_∨w.heap.size≤k_)∧k_≠gb511)) (okp:=(fun k_=>(P1_ k_∨w.heap.size≤k_)∧k_≠gb511)) ?hr ?hp (fun _ hk=>hk) ((show ∀ k_,w6.heap.size≤k_→(fun k_=>(P1_ k_∨w.heap.size≤k_)∧k_≠gb511) k_ from fun k_ hk=>⟨(.inr (Nat.le_trans (bwZ (by repeat (first | (with_reducible first | exact HB.out | apply bwA | apply bwN | apply bw1 | refine bwS ?_ GE511.out) | exact HB.out))) hk)),Kd.freshB (g:=gb511) (o:=.cells #[.bool a0_0,.int .i64 a0_1,.int .i64 a0_2,.int .i64 a0_3,.int .i64 a0_4,.slice A0_5 l0_5.length c0_5] 29 (0,0)) (by (with_reducible repeat (first | refine kN ?_ _ | refine kD ?_ | refine kA ?_ _));exact BK511.out) k_ hk⟩) _ (Nat.le_refl _)) (Below.refl _ _) (Nat.le_refl _) (by simp) ?_;(case hd=>rfl);(case hg=>rfl);(case hr=>first | (go_simp;done) | (go_simp;rfl));(case hp=>exact (Reps.c6 (show Kd.FK k29 _ _ (⟨t512,t513,t514,t515,t516,t517⟩ : S29) [.bool t512,.int .i64 t513,.int .i64 t514,.int .i64 t515,.int .i64 t516,.slice Ao7 t517.length co7] from (k29_mkF _ _ (⟨t512,t513,t514,t515,t516,t517⟩ : S29) (Kd.R_reads' (Kd.R_mono (ok':=(fun k_=>(P1_ k_∨w.heap.size≤k_)∧k_≠gb511)) (Kd.R_types (HO519.out) BK511.out (by decide)) (fun k_ hk=>⟨(.inr (hk.1.1)),hk.2⟩))).2.1 (Kd.R_F (Kd.R_mono (ok':=(fun k_=>(P1_ k_∨w.heap.size≤k_)∧k_≠gb511)) (Kd.R_types (HO519.out) BK511.out (by decide)) (fun k_ hk=>⟨(.inr (hk.1.1)),hk.2⟩))))) (Reps.none _ _)));intro v521 w8 ho9 hb hg_ hnew_;clear hg_ hnew_;(first | rw [← Ny520.out] at ho9 | (simp only [Int.reduceToNat] at ho9;rw [← Ny520.out] at ho9));have n0_:=Az.mk (Kd.V_elder' (by (with_reducible repeat (first | apply Kd.V_alloc | apply Kd.V_drewN | apply Kd.V_drew));exact HO1.out) (Kd.N_base ho9) hb);have n1_:=Az.mk (Kd.N_lower ho9 (bwZ (by repeat (first | (with_reducible first | exact HB.out | apply bwA | apply bwN | apply bw1 | refine bwS ?_ GE511.out) | exact HB.out))));have n2_:=Az.mk (kB (g:=gb511) (o:=.cells #[.bool a0_0,.int .i64 a0_1,.int .i64 a0_2,.int .i64 a0_3,.int .i64 a0_4,.slice A0_5 l0_5.length c0_5] 29 (0,0)) (by (with_reducible repeat (first | refine kN ?_ _ | refine kD ?_ | refine kA ?_ _));exact BK511.out) hb);have n3_:=Az.mk (bwT (by repeat (first | (with_reducible first | exact HB.out | apply bwA | apply bwN | apply bw1 | refine bwS ?_ GE511.out) | exact HB.out)) hb);clear HO1;clear BK511;clear HB;clear HO519;have HO1:=n0_;have HO522:=n1_;have BK511:=n2_;have HB:=n3_;clear n0_ n1_ n2_ n3_;clear hb ho9))
 go_loopg [5,15] k (fun kq v5 v15 w'=>∃ (x5_1 : List (S29)) (x15_1 : Int),v15 = .int .i64 x15_1∧Az (w4grown.l0 kq x5_1 l1 (l1.length : Int) x15_1 = some r)∧Az (kq≤k)∧Az (Kd.N k29 29 w' w.heap.size (fun k_=>(P1_ k_∨w.heap.size≤k_)) v5 x5_1)∧Az (Kd.C k32 w' A1 l1.length l1)∧Az (Below w.heap.size w w'))
 case atStart=>exact ⟨y520,0,rfl,H',⟨Nat.le_refl _⟩,⟨by (with_reducible repeat (first | apply Kd.N_alloc | apply Kd.N_drewN | apply Kd.N_drew));exact Kd.N_mono HO522.out (fun _ h_=>h_.1)⟩,⟨by (with_reducible repeat (first | refine Kd.C_alloc ?_ _ | refine Kd.C_drewN ?_ _ | refine Kd.C_drew ?_));exact (Kd.V_reads' HO1.out).2.2⟩,⟨by repeat (first | (with_reducible first | exact HB.out | apply bwA | apply bwN | apply bw1))⟩⟩
 case round=>
  clear H' HO1 HO522 BK511 HB
  obtain ⟨x5,x15,rfl,HA,HK1,HN,HCS,HB⟩:=hrel
  cases gk with
  | zero=>exact absurd HA.out (by simp [w4grown.l0])
  | succ k1=>
   have H:=HA.out
   clear HA
   simp only [w4grown.l0] at H
   obtain ⟨A5,c5,rfl⟩:=Kd.N_slice HN.out
   have HX5:=Az.mk (Kd.N_reads' HN.out).2.2
   have HL5:=Az.mk (Kd.N_reads' HN.out).2.1
   by_cases c1 : x15 < (l1.length : Int)
   case neg=>
    rw [if_neg c1] at H
    have c1b : decide (x15 < (l1.length : Int)) = false:=decide_eq_false c1
    obtain rfl:=Option.some.inj H
    clear c1 H
    go_wp2
    go_ret
    exact ⟨_,rfl,by (with_reducible repeat (first | apply Kd.N_alloc | apply Kd.N_drewN | apply Kd.N_drew));exact HN.out,by repeat (first | (with_reducible first | exact HB.out | apply bwA | apply bwN | apply bw1))⟩
   rw [if_pos c1] at H
   by_cases c2 : 0≤x15
   case neg=>rw [if_neg c2] at H;cases H
   rw [if_pos c2,if_pos c1] at H
   have H':=Az.mk H
   clear H
   have c1b : decide (x15 < (l1.length : Int)) = true:=decide_eq_true c1
   obtain ⟨ad,A7,c7,e0,hx0,hx1,hx2,hx3,hx4,hx5,hx6,hx7,hx8,hl7,hi7⟩:=at_T32 HCS.out x15 c2 c1
   cases e0
   have p1:=eq_true c1
   have p2:=eq_true c2
   have HL7:=Az.mk hl7
   have HI7:=Az.mk hi7
   clear hl7 hi7 c1 c2
   generalize hq : rd_T32 l1 x15 = q at *
   clear hq
   go_upto_region 5 with (first
    | ((with_reducible refine gate_dst (N:=7) rfl ?_);refine box_event ?hg (N:=7) ?hd (cs:=#[.int .i64 0,.int .i64 0,.bool false,.int .i64 0,.int .i64 0,.int .i64 0,.int .i64 0,.slice none 0 0,.int .i64 0]) (t:=32) ?hr ?_;(case hd=>rfl);(case hg=>rfl);(case hr=>first | (go_simp;done) | (go_simp;rfl));intro g hg w2 hbox hb;have BK:=Az.mk hbox;have HB2:=Az.mk (show Below wr.heap.size wr w2 from hb);have GE:=Az.mk (show wr.heap.size≤g from Nat.le_of_eq hg.symm);clear hb hbox hg;have hcz0 : w2.cell? ⟨g,0,none⟩ = some (.int .i64 0):=(kC BK.out 0).trans rfl;have hcz1 : w2.cell? ⟨g,1,none⟩ = some (.int .i64 0):=(kC BK.out 1).trans rfl;have hcz2 : w2.cell? ⟨g,2,none⟩ = some (.bool false):=(kC BK.out 2).trans rfl;have hcz3 : w2.cell? ⟨g,3,none⟩ = some (.int .i64 0):=(kC BK.out 3).trans rfl;have hcz4 : w2.cell? ⟨g,4,none⟩ = some (.int .i64 0):=(kC BK.out 4).trans rfl;have hcz5 : w2.cell? ⟨g,5,none⟩ = some (.int .i64 0):=(kC BK.out 5).trans rfl;have hcz6 : w2.cell? ⟨g,6,none⟩ = some (.int .i64 0):=(kC BK.out 6).trans rfl;have hcz7 : w2.cell? ⟨g,7,none⟩ = some (.slice none 0 0):=(kC BK.out 7).trans rfl;have hcz8 : w2.cell? ⟨g,8,none⟩ = some (.int .i64 0):=(kC BK.out 8).trans rfl;have hfz0:=kF BK.out 0;have hfz1:=kF BK.out 1;have hfz2:=kF BK.out 2;have hfz3:=kF BK.out 3;have hfz4:=kF BK.out 4;have hfz5:=kF BK.out 5;have hfz6:=kF BK.out 6;have hfz7:=kF BK.out 7;have hfz8:=kF BK.out 8)
    | ((with_reducible refine gate_store (t:=32) (p:=7) rfl ?_);refine store_event (t:=32) (p:=7) (v:=?vo_w23) (w1:=(((((((((w2.setCell ⟨g,0,none⟩ (.int .i64 q.f0)).setCell ⟨g,1,none⟩ (.int .i64 q.f1)).setCell ⟨g,2,none⟩ (.bool q.f2.f0)).setCell ⟨g,3,none⟩ (.int .i64 q.f2.f1)).setCell ⟨g,4,none⟩ (.int .i64 q.f2.f2)).setCell ⟨g,5,none⟩ (.int .i64 q.f2.f3)).setCell ⟨g,6,none⟩ (.int .i64 q.f2.f4)).setCell ⟨g,7,none⟩ (.slice A7 q.f2.f5.length c7)).setCell ⟨g,8,none⟩ (.int .i64 q.f3))) ?hg ?ho ?hn ?hr ?_;(case ho=>rfl);(case hg=>rfl);(case hn=>rfl);(case hr=>first | (go_simp;done) | (go_simp;rfl));intro w3 hw;have BK3:=Az.mk (grown_box hw BK.out);have HB3:=Az.mk (grown_below hw HB2.out GE.out);clear hw hcz0 hcz1 hcz2 hcz3 hcz4 hcz5 hcz6 hcz7 hcz8 hfz0 hfz1 hfz2 hfz3 hfz4 hfz5 hfz6 hfz7 hfz8 BK HB2))
   clear hx0 hx1 hx2 hx3 hx4 hx5 hx6 hx7 hx8 hs1 HR0_5 HC0_5 A3 Ny520 HV518 GW511 GE511
   clear hcz5_0 hcz5_1 hcz5_2 hcz5_3 hcz5_4 hcz5_5 hfz5_0 hfz5_1 hfz5_2 hfz5_3 hfz5_4 hfz5_5 p1 p2
   have HX3:=Az.mk (Kd.C_below HX5.out HB3.out)
   have HI3:=Az.mk (Kd.C_below HI7.out HB3.out)
   have HS3:=Az.mk (Kd.C_below HCS.out HB3.out)
   have HX6:=HX5
   have HI6:=HI7
   clear HX5 HI7
   have H:=H'.out
   clear H'
   by_cases c3 : x15≥300
   case pos=>
    rw [if_pos c3] at H
    obtain rfl:=Option.some.inj H
    have c3b : decide (300≤x15) = true:=decide_eq_true c3
    clear c3 H
    go_wp2
    go_ret
    exact ⟨_,rfl,by (with_reducible repeat (first | apply Kd.N_alloc | apply Kd.N_drewN | apply Kd.N_drew));exact Kd.N_below HN.out HB3.out,by repeat (first | (with_reducible first | exact (bwT HB.out HB3.out) | apply bwA | apply bwN | apply bw1))⟩
   rw [if_neg c3] at H
   have c3b : decide (300≤x15) = false:=decide_eq_false c3
   have HH:=Az.mk H
   clear c3 H
   have hy0 : w3.cell? ⟨g,0,none⟩ = some (.int .i64 q.f0):=(kC BK3.out 0).trans rfl
   have hy1 : w3.cell? ⟨g,1,none⟩ = some (.int .i64 q.f1):=(kC BK3.out 1).trans rfl
   have hy2 : w3.cell? ⟨g,2,none⟩ = some (.bool q.f2.f0):=(kC BK3.out 2).trans rfl
   have hy3 : w3.cell? ⟨g,3,none⟩ = some (.int .i64 q.f2.f1):=(kC BK3.out 3).trans rfl
   have hy4 : w3.cell? ⟨g,4,none⟩ = some (.int .i64 q.f2.f2):=(kC BK3.out 4).trans rfl
   have hy5 : w3.cell? ⟨g,5,none⟩ = some (.int .i64 q.f2.f3):=(kC BK3.out 5).trans rfl
   have hy6 : w3.cell? ⟨g,6,none⟩ = some (.int .i64 q.f2.f4):=(kC BK3.out 6).trans rfl
   have hy7 : w3.cell? ⟨g,7,none⟩ = some (.slice A7 q.f2.f5.length c7):=(kC BK3.out 7).trans rfl
   have hy8 : w3.cell? ⟨g,8,none⟩ = some (.int .i64 q.f3):=(kC BK3.out 8).trans rfl
   have hfy8:=kF BK3.out 8
   go_upto_block 2 with fail
   go_cut [8] (fun v8 wx=>∃ x8 : List S29,Az (Kd.N k29 29 wx wr.heap.size (fun k_=>wr.heap.size≤k_) v8 x8)∧Az (Below wr.heap.size wr wx)∧Az ((if (x8.length : Int) > 0 then w4grown.l0 k1 x8 l1 (l1.length : Int) (wrap64 (x15 + 1)) else w4grown.l0 k1 x5 l1 (l1.length : Int) (wrap64 (x15 + 1))) = some r))
   case first=>as_aux_lemma=>
    have H:=HH.out
    clear HH
    by_cases q1 : q.f0 = 1
    case pos=>
     rw [if_pos q1] at H
     obtain ⟨⟨t,t2,t3⟩,A90,H⟩:=Option.bind_eq_some_iff.mp H
     have A9:=Az.mk A90
     have HH:=Az.mk H
     have q1b : (q.f0 == 1) = true:=beq_iff_eq.mpr q1
     clear A90 H q1
     go_wp2_with (go_at_call 20;(with_reducible refine (r4Add.calls k1 A5 c5 x5 q.f2.f0 q.f2.f1 q.f2.f2 q.f2.f3 q.f2.f4 (fun _=>True) A7 c7 q.f2.f5 t t2 t3 _ (by repeat (first | (with_reducible exact HX3.out) | (with_reducible refine Kd.C_alloc ?_ _) | (with_reducible refine Kd.C_drewN ?_ _) | (with_reducible refine Kd.C_drew ?_))) HL5.out (V_int HL7.out (by repeat (first | (with_reducible exact HI3.out) | (with_reducible refine Kd.C_alloc ?_ _) | (with_reducible refine Kd.C_drewN ?_ _) | (with_reducible refine Kd.C_drew ?_)))) A9.out).mono ?_);rintro e w4 ⟨v8,rfl,hS,hb⟩;have HS4:=Az.mk hS;have HB4:=Az.mk (bwT (by repeat (first | (with_reducible first | exact HB3.out | apply bwA | apply bwN | apply bw1))) hb);have HZ:=Az.mk (bwZ (by repeat (first | (with_reducible first | exact HB3.out | apply bwA | apply bwN | apply bw1))));clear hS hb)
     go_meet
     exact ⟨t,⟨Kd.N_mono (Kd.N_lower (Kd.S_N HS4.out) HZ.out) (fun k_ hk=>Nat.le_trans HZ.out hk)⟩,HB4,HH⟩
    rw [if_neg q1] at H
    have q1b : (q.f0 == 1) = false:=beq_eq_false_iff_ne.mpr q1
    clear q1
    by_cases q2 : q.f0 = 2
    case pos=>
     rw [if_pos q2] at H
     obtain ⟨⟨t,t2⟩,A90,H⟩:=Option.bind_eq_some_iff.mp H
     have A9:=Az.mk A90
     have HH:=Az.mk H
     have q2b : (q.f0 == 2) = true:=beq_iff_eq.mpr q2
     clear A90 H q2
     go_wp2_with (go_at_call 47;(with_reducible refine (r4Update.calls k1 A5 c5 x5 q.f1 q.f2.f0 q.f2.f1 q.f2.f2 q.f2.f3 q.f2.f4 A7 c7 q.f2.f5 t t2 _ (by repeat (first | (with_reducible exact HX3.out) | (with_reducible refine Kd.C_alloc ?_ _) | (with_reducible refine Kd.C_drewN ?_ _) | (with_reducible refine Kd.C_drew ?_))) HL5.out (by repeat (first | (with_reducible exact HI3.out) | (with_reducible refine Kd.C_alloc ?_ _) | (with_reducible refine Kd.C_drewN ?_ _) | (with_reducible refine Kd.C_drew ?_))) HL7.out A9.out).mono ?_);rintro e w4 ⟨v8,rfl,hS,hb⟩;have HS4:=Az.mk hS;have HB4:=Az.mk (bwT (by repeat (first | (with_reducible first | exact HB3.out | apply bwA | apply bwN | apply bw1))) hb);have HZ:=Az.mk (bwZ (by repeat (first | (with_reducible first | exact HB3.out | apply bwA | apply bwN | apply bw1))));clear hS hb)
     go_meet
     exact ⟨t,⟨Kd.N_mono (Kd.N_lower (Kd.S_N (Kd.S_bound HS4.out)) HZ.out) (fun k_ hk=>Nat.le_trans HZ.out hk.2.1)⟩,HB4,HH⟩
    rw [if_neg q2] at H
    have q2b : (q.f0 == 2) = false:=beq_eq_false_iff_ne.mpr q2
    clear q2
    by_cases q3 : q.f0 = 3
    case pos=>
     rw [if_pos q3] at H
     obtain ⟨⟨t,t2⟩,A90,H⟩:=Option.bind_eq_some_iff.mp H
     have A9:=Az.mk A90
     have HH:=Az.mk H
     have q3b : (q.f0 == 3) = true:=beq_iff_eq.mpr q3
     clear A90 H q3
     go_wp2_with (go_at_call 48;(with_reducible refine (r4Remove.calls k1 A5 c5 x5 q.f1 t t2 _ (by repeat (first | (with_reducible exact HX3.out) | (with_reducible refine Kd.C_alloc ?_ _) | (with_reducible refine Kd.C_drewN ?_ _) | (with_reducible refine Kd.C_drew ?_))) HL5.out A9.out).mono ?_);rintro e w4 ⟨v8,rfl,hS,hb⟩;have HS4:=Az.mk hS;have HB4:=Az.mk (bwT (by repeat (first | (with_reducible first | exact HB3.out | apply bwA | apply bwN | apply bw1))) hb);have HZ:=Az.mk (bwZ (by repeat (first | (with_reducible first | exact HB3.out | apply bwA | apply bwN | apply bw1))));clear hS hb)
     go_meet
     exact ⟨t,⟨Kd.N_mono (Kd.N_lower (Kd.S_N (Kd.S_bound HS4.out)) HZ.out) (fun k_ hk=>Nat.le_trans HZ.out hk.2.1)⟩,HB4,HH⟩
    rw [if_neg q3] at H
    have q3b : (q.f0 == 3) = false:=beq_eq_false_iff_ne.mpr q3
    clear q3
    by_cases q4 : q.f0 = 4
    case neg=>
     rw [if_neg q4] at H
     have q4b : (q.f0 == 4) = false:=beq_eq_false_iff_ne.mpr q4
     have HH:=Az.mk H
     clear H q4
     go_wp2
     go_meet
     exact ⟨[],⟨Kd.N_nil _ _ _ _ _⟩,⟨(by repeat (first | (with_reducible first | exact HB3.out | apply bwA | apply bwN | apply bw1)))⟩,HH⟩
    rw [if_pos q4] at H
    obtain ⟨ks,A80,H⟩:=Option.bind_eq_some_iff.mp H
    obtain ⟨⟨t,t2⟩,A90,H⟩:=Option.bind_eq_some_iff.mp H
    have A8:=Az.mk A80
    have A9:=Az.mk A90
    have HH:=Az.mk H
    have q4b : (q.f0 == 4) = true:=beq_iff_eq.mpr q4
    clear A80 A90 H q4
    go_upto_region 16 with ((with_reducible refine gate_store (t:=3) (p:=56) rfl ?_);refine store_event (t:=3) (p:=56) (v:=?vo_w24) (w1:=(w3.setCell ⟨g,8,none⟩ (.int .i64 0))) ?hg ?ho ?hn ?hr ?_;(case ho=>rfl);(case hg=>rfl);(case hn=>rfl);(case hr=>first | (go_simp;done) | (go_simp;rfl));intro w5 hw;have BK5:=Az.mk (show w5.heap[g]? = some (.cells #[.int .i64 q.f0,.int .i64 q.f1,.bool q.f2.f0,.int .i64 q.f2.f1,.int .i64 q.f2.f2,.int .i64 q.f2.f3,.int .i64 q.f2.f4,.slice A7 q.f2.f5.length c7,.int .i64 0] 32 (0,0)) from by rw [hw];exact blk_put BK3.out 8 _ rfl);have HB5:=Az.mk (show Below wr.heap.size wr w5 from by rw [hw];exact bwS HB3.out GE.out);clear hw)
    clear hy0 hy1 hy2 hy3 hy4 hy5 hy6 hy7 hy8 hfy8 HX3 HI3 HS3 BK3 HB3
    have HX3:=Az.mk (Kd.C_below HX6.out HB5.out)
    have HI3:=Az.mk (Kd.C_below HI6.out HB5.out)
    have HB3:=HB5
    have hz0 : w5.cell? ⟨g,0,none⟩ = some (.int .i64 q.f0):=(kC BK5.out 0).trans rfl
    have hz1 : w5.cell? ⟨g,1,none⟩ = some (.int .i64 q.f1):=(kC BK5.out 1).trans rfl
    have hz2 : w5.cell? ⟨g,2,none⟩ = some (.bool q.f2.f0):=(kC BK5.out 2).trans rfl
    have hz3 : w5.cell? ⟨g,3,none⟩ = some (.int .i64 q.f2.f1):=(kC BK5.out 3).trans rfl
    have hz4 : w5.cell? ⟨g,4,none⟩ = some (.int .i64 q.f2.f2):=(kC BK5.out 4).trans rfl
    have hz5 : w5.cell? ⟨g,5,none⟩ = some (.int .i64 q.f2.f3):=(kC BK5.out 5).trans rfl
    have hz6 : w5.cell? ⟨g,6,none⟩ = some (.int .i64 q.f2.f4):=(kC BK5.out 6).trans rfl
    have hz7 : w5.cell? ⟨g,7,none⟩ = some (.slice A7 q.f2.f5.length c7):=(kC BK5.out 7).trans rfl
    have hz8 : w5.cell? ⟨g,8,none⟩ = some (.int .i64 0):=(kC BK5.out 8).trans rfl
    go_upto_region 17 with (go_at_call 39;(with_reducible refine (w4keys.calls k1 A5 c5 x5 q.f0 q.f1 q.f2.f0 q.f2.f1 q.f2.f2 q.f2.f3 q.f2.f4 A7 c7 q.f2.f5 0 ks _ (by repeat (first | (with_reducible exact HX3.out) | (with_reducible refine Kd.C_alloc ?_ _) | (with_reducible refine Kd.C_drewN ?_ _) | (with_reducible refine Kd.C_drew ?_))) HL5.out (by repeat (first | (with_reducible exact HI3.out) | (with_reducible refine Kd.C_alloc ?_ _) | (with_reducible refine Kd.C_drewN ?_ _) | (with_reducible refine Kd.C_drew ?_))) HL7.out A8.out).mono ?_);rintro e w6 ⟨v9,rfl,hR,hb⟩;have HR6:=Az.mk hR;have BK6:=Az.mk (kB BK5.out hb);have HB6:=Az.mk (bwT (by repeat (first | (with_reducible first | exact HB3.out | apply bwA | apply bwN | apply bw1))) hb);clear hR hb)
    clear hz0 hz1 hz2 hz3 hz4 hz5 hz6 hz7 hz8 HX3 HI3 HB3 HB5 BK5
    have HX3:=Az.mk (Kd.C_below HX6.out HB6.out)
    have HI3:=Az.mk (Kd.C_below HI6.out HB6.out)
    have HB3:=HB6
    obtain ⟨Ak,ck,rfl⟩:=Kd.R_slice HR6.out
    have HK6:=Az.mk (Kd.R_reads' HR6.out).2.2
    have HKL:=Az.mk (Kd.R_reads' HR6.out).2.1
    have hu0 : w6.cell? ⟨g,0,none⟩ = some (.int .i64 q.f0):=(kC BK6.out 0).trans rfl
    have hu1 : w6.cell? ⟨g,1,none⟩ = some (.int .i64 q.f1):=(kC BK6.out 1).trans rfl
    have hu2 : w6.cell? ⟨g,2,none⟩ = some (.bool q.f2.f0):=(kC BK6.out 2).trans rfl
    have hu3 : w6.cell? ⟨g,3,none⟩ = some (.int .i64 q.f2.f1):=(kC BK6.out 3).trans rfl
    have hu4 : w6.cell? ⟨g,4,none⟩ = some (.int .i64 q.f2.f2):=(kC BK6.out 4).trans rfl
    have hu5 : w6.cell? ⟨g,5,none⟩ = some (.int .i64 q.f2.f3):=(kC BK6.out 5).trans rfl
    have hu6 : w6.cell? ⟨g,6,none⟩ = some (.int .i64 q.f2.f4):=(kC BK6.out 6).trans rfl
    have hu7 : w6.cell? ⟨g,7,none⟩ = some (.slice A7 q.f2.f5.length c7):=(kC BK6.out 7).trans rfl
    have hu8 : w6.cell? ⟨g,8,none⟩ = some (.int .i64 0):=(kC BK6.out 8).trans rfl
    go_wp2_with (go_at_call 49;(with_reducible refine (r4Merge.calls k1 A5 c5 x5 q.f1 q.f2.f0 q.f2.f1 q.f2.f2 q.f2.f3 q.f2.f4 (fun _=>True) A7 c7 q.f2.f5 Ak ck ks Ak ck ks t t2 _ (by repeat (first | (with_reducible exact HX3.out) | (with_reducible refine Kd.C_alloc ?_ _) | (with_reducible refine Kd.C_drewN ?_ _) | (with_reducible refine Kd.C_drew ?_))) HL5.out (V_int HL7.out (by repeat (first | (with_reducible exact HI3.out) | (with_reducible refine Kd.C_alloc ?_ _) | (with_reducible refine Kd.C_drewN ?_ _) | (with_reducible refine Kd.C_drew ?_)))) (by repeat (first | (with_reducible exact HK6.out) | (with_reducible refine Kd.C_alloc ?_ _) | (with_reducible refine Kd.C_drewN ?_ _) | (with_reducible refine Kd.C_drew ?_))) HKL.out (by repeat (first | (with_reducible exact HK6.out) | (with_reducible refine Kd.C_alloc ?_ _) | (with_reducible refine Kd.C_drewN ?_ _) | (with_reducible refine Kd.C_drew ?_))) HKL.out A9.out).mono ?_);rintro e w4 ⟨v8,rfl,hS,hb⟩;have HS4:=Az.mk hS;have HB4:=Az.mk (bwT (by repeat (first | (with_reducible first | exact HB3.out | apply bwA | apply bwN | apply bw1))) hb);have HZ:=Az.mk (bwZ (by repeat (first | (with_reducible first | exact HB3.out | apply bwA | apply bwN | apply bw1))));clear hS hb)
    go_meet
    exact ⟨t,⟨Kd.N_mono (Kd.N_lower (Kd.S_N HS4.out) HZ.out) (fun k_ hk=>Nat.le_trans HZ.out hk)⟩,HB4,HH⟩
   case rest=>
   obtain ⟨x8,HN8,HB8,HH⟩:=hcut
   clear hy0 hy1 hy2 hy3 hy4 hy5 hy6 hy7 hy8 hfy8 HX3 HI3 HS3 BK3 HB3
   have H:=HH.out
   clear HH
   obtain ⟨A8,c8,rfl⟩:=Kd.N_slice HN8.out
   by_cases c9 : (x8.length : Int) > 0
   · rw [if_pos c9] at H
     have HH:=Az.mk H
     have c9b : decide (0 < (x8.length : Int)) = true:=decide_eq_true c9
     have c9n : decide (0 < x8.length) = true:=decide_eq_true (by omega)
     clear c9 H
     go_wp2
     go_roundg k1
     case measure=>have:=HK1.out;omega
     case rel=>exact ⟨x8,wrap64 (x15 + 1),(by first | rfl | (simp;done) | (simp [*];done)),HH,⟨by have:=HK1.out;omega⟩,⟨by (with_reducible repeat (first | apply Kd.N_alloc | apply Kd.N_drewN | apply Kd.N_drew));exact Kd.N_mono (Kd.N_lower HN8.out (bwZ HB.out)) (fun k_ hk=>.inr (Nat.le_trans (bwZ HB.out) hk))⟩,⟨by (with_reducible repeat (first | refine Kd.C_alloc ?_ _ | refine Kd.C_drewN ?_ _ | refine Kd.C_drew ?_));exact Kd.C_below HCS.out HB8.out⟩,⟨by repeat (first | (with_reducible first | exact (bwT HB.out HB8.out) | apply bwA | apply bwN | apply bw1))⟩⟩
   · rw [if_neg c9] at H
     have HH:=Az.mk H
     have c9b : decide (0 < (x8.length : Int)) = false:=decide_eq_false c9
     have c9n : decide (0 < x8.length) = false:=decide_eq_false (by omega)
     clear c9 H
     go_wp2
     go_roundg k1
     case measure=>have:=HK1.out;omega
     case rel=>exact ⟨x5,wrap64 (x15 + 1),(by first | rfl | (simp;done) | (simp [*];done)),HH,⟨by have:=HK1.out;omega⟩,⟨by (with_reducible repeat (first | apply Kd.N_alloc | apply Kd.N_drewN | apply Kd.N_drew));exact Kd.N_below HN.out HB8.out⟩,⟨by (with_reducible repeat (first | refine Kd.C_alloc ?_ _ | refine Kd.C_drewN ?_ _ | refine Kd.C_drew ?_));exact Kd.C_below HCS.out HB8.out⟩,⟨by repeat (first | (with_reducible first | exact (bwT HB.out HB8.out) | apply bwA | apply bwN | apply bw1))⟩⟩
end Go.Proofs.YtbblomnhobodkaaDoor.PTw
namespace Go.Proofs.YtbblomnhobodkaaDoor.PTw
open Go.RowKit Go.Proofs.YtbblomnhobodkaaDoorW.PW Go.Proofs.YtbblomnhobodkaaDoorW.PL Go.Proofs.YtbblomnhobodkaaDoorW.PM
attribute [local go_sem] max2_int min2_int max_two min_two max_three min_three max_four min_four   -- for this text's walks alone
set_option linter.unusedVariables false
set_option linter.unusedSimpArgs false
end Go.Proofs.YtbblomnhobodkaaDoor.PTw
namespace Go.Proofs.YtbblomnhobodkaaDoor.PTw
open Go.RowKit Go.Proofs.YtbblomnhobodkaaDoorW.PW Go.Proofs.YtbblomnhobodkaaDoorW.PL Go.Proofs.YtbblomnhobodkaaDoorW.PM
attribute [local go_sem] max2_int min2_int max_two min_two max_three min_three max_four min_four   -- for this text's walks alone
set_option linter.unusedVariables false
set_option linter.unusedSimpArgs false
end Go.Proofs.YtbblomnhobodkaaDoor.PTw
