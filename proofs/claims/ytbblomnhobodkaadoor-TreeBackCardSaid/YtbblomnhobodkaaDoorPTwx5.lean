/- What this claim reaches of longer texts of this session. -/
import Derived.Test.YtbblomnhobodkaaDoorPTwx0
import Derived.Test.YtbblomnhobodkaaDoorPTwx1
import Derived.Test.YtbblomnhobodkaaDoorPTwx4
namespace Go.Proofs.YtbblomnhobodkaaDoor.PTw
open Go.RowKit Go.Proofs.YtbblomnhobodkaaDoorW.PW Go.Proofs.YtbblomnhobodkaaDoorW.PL Go.Proofs.YtbblomnhobodkaaDoorW.PM
attribute [local go_sem] max2_int min2_int max_two min_two max_three min_three max_four min_four   -- for this text's walks alone
set_option linter.unusedVariables false
set_option linter.unusedSimpArgs false
mutual
def tree_Add.j1 : Nat→List (S29)→Int→Int→Bool→Int→Int→Int→Int→List Int→Option ((List (S29)) × Int × Int)
 | 0,_,_,_,_,_,_,_,_,_=>none
 | k + 1,x0,x7,x8,x168000,x168001,x168002,x168003,x168004,x168005=>if x8 = x7 then (tree_Add.j2 k x0 x7 x8 (decide (x7≥32)) x168000 x168001 x168002 x168003 x168004 x168005) else (tree_Add.j2 k x0 x7 x8 false x168000 x168001 x168002 x168003 x168004 x168005)
def tree_Add.j2 : Nat→List (S29)→Int→Int→Bool→Bool→Int→Int→Int→Int→List Int→Option ((List (S29)) × Int × Int)
 | 0,_,_,_,_,_,_,_,_,_,_=>none
 | k + 1,x0,x7,x8,x37,x168000,x168001,x168002,x168003,x168004,x168005=>if x37 = true then (some (([] : List (S29)),0,41)) else ((tree_copied.f k x0).bind fun t170=>(if x8 = x7 then (if 0≤(wrap64 (2 * x7)) then (if t170.length + (wrap64 (2 * x7) : Int).toNat < 2199023255552 then (tree_Add.j3 k (wrap64 (x7 * 2)) x8 (t170 ++ List.replicate (wrap64 (2 * x7) : Int).toNat z29) x168000 x168001 x168002 x168003 x168004 x168005) else (none)) else (none)) else (tree_Add.j3 k x7 x8 t170 x168000 x168001 x168002 x168003 x168004 x168005)))
def tree_Add.j3 : Nat→Int→Int→List (S29)→Bool→Int→Int→Int→Int→List Int→Option ((List (S29)) × Int × Int)
 | 0,_,_,_,_,_,_,_,_,_=>none
 | k + 1,x7,x8,x9,x168000,x168001,x168002,x168003,x168004,x168005=>(tree_leafOf.f x168000 x168001 x168002 x168003 x168004 x168005).bind fun bt176=>(if 0≤(wrap64 (2 * x8)) then (if (wrap64 (2 * x8)) < (x9.length : Int) then ((heap_Path.f (wrap64 (2 * x8)) x7).bind fun bt185=>(tree_Add.l1 k x8 (x9.set ((wrap64 (2 * x8)) : Int).toNat (⟨bt176.1,bt176.2.1,bt176.2.2.1,bt176.2.2.2.1,bt176.2.2.2.2.1,bt176.2.2.2.2.2⟩ : S29)) bt185.1 (bt185.1.length : Int) 0)) else (none)) else (none))
def tree_Add.l1 : Nat→Int→List (S29)→List Int→Int→Int→Option ((List (S29)) × Int × Int)
 | 0,_,_,_,_,_=>none
 | k + 1,x8,x9,x62,x63,x64=>if x64 < x63 then (if 0≤x64 then (if x64 < (x62.length : Int) then (if 0≤(rd x62 x64) then (if (rd x62 x64) < (x9.length : Int) then (if (rd_T29 x9 (rd x62 x64)).f0 = true then ((sBS.f ((rd_T29 x9 (rd x62 x64)).f5) x8).bind fun bt192=>((sIn.f ((rd_T29 x9 (rd x62 x64)).f5) bt192.1 (([x8] : List Int))).bind fun t198=>(tree_Add.l1 k x8 (x9.set ((rd x62 x64) : Int).toNat (⟨(rd_T29 x9 (rd x62 x64)).f0,(rd_T29 x9 (rd x62 x64)).f1,(rd_T29 x9 (rd x62 x64)).f2,(rd_T29 x9 (rd x62 x64)).f3,(rd_T29 x9 (rd x62 x64)).f4,t198⟩ : S29)) x62 x63 (wrap64 (x64 + 1))))) else (tree_Add.l1 k x8 x9 x62 x63 (wrap64 (x64 + 1)))) else (none)) else (none)) else (none)) else (none)) else (some (x9,x8,0))
def tree_Add.l0 : Nat→List (S29)→Int→Int→Bool→Int→Int→Int→Int→List Int→Option ((List (S29)) × Int × Int)
 | 0,_,_,_,_,_,_,_,_,_=>none
 | k + 1,x0,x7,x8,x168000,x168001,x168002,x168003,x168004,x168005=>if x8 < x7 then (if 0≤(wrap64 (2 * x8)) then (if (wrap64 (2 * x8)) < (x0.length : Int) then (if (rd_T29 x0 (wrap64 (2 * x8))).f0 = true then (tree_Add.l0 k x0 x7 (wrap64 (x8 + 1)) x168000 x168001 x168002 x168003 x168004 x168005) else (tree_Add.j1 k x0 x7 x8 x168000 x168001 x168002 x168003 x168004 x168005)) else (none)) else (none)) else (tree_Add.j1 k x0 x7 x8 x168000 x168001 x168002 x168003 x168004 x168005)
end
def tree_Add.f (k : Nat) (l0 : List (S29)) (a1_0 : Bool) (a1_1 : Int) (a1_2 : Int) (a1_3 : Int) (a1_4 : Int) (l1_5 : List Int) : Option ((List (S29)) × Int × Int):=(tree_Leaves.f l0).bind fun t168=>(tree_Add.l0 k l0 t168 0 a1_0 a1_1 a1_2 a1_3 a1_4 l1_5)
theorem tree_Add.mono_l : ∀ k,(∀ y0 y1 y2 y3 y4 y5 y6 y7 y8,LeO (tree_Add.j1 k y0 y1 y2 y3 y4 y5 y6 y7 y8) (tree_Add.j1 (k + 1) y0 y1 y2 y3 y4 y5 y6 y7 y8))∧(∀ y0 y1 y2 y3 y4 y5 y6 y7 y8 y9,LeO (tree_Add.j2 k y0 y1 y2 y3 y4 y5 y6 y7 y8 y9) (tree_Add.j2 (k + 1) y0 y1 y2 y3 y4 y5 y6 y7 y8 y9))∧(∀ y0 y1 y2 y3 y4 y5 y6 y7 y8,LeO (tree_Add.j3 k y0 y1 y2 y3 y4 y5 y6 y7 y8) (tree_Add.j3 (k + 1) y0 y1 y2 y3 y4 y5 y6 y7 y8))∧(∀ y0 y1 y2 y3 y4,LeO (tree_Add.l1 k y0 y1 y2 y3 y4) (tree_Add.l1 (k + 1) y0 y1 y2 y3 y4))∧(∀ y0 y1 y2 y3 y4 y5 y6 y7 y8,LeO (tree_Add.l0 k y0 y1 y2 y3 y4 y5 y6 y7 y8) (tree_Add.l0 (k + 1) y0 y1 y2 y3 y4 y5 y6 y7 y8))
 | 0=>⟨fun _ _ _ _ _ _ _ _ _ r h=>by simp [tree_Add.j1] at h,fun _ _ _ _ _ _ _ _ _ _ r h=>by simp [tree_Add.j2] at h,fun _ _ _ _ _ _ _ _ _ r h=>by simp [tree_Add.j3] at h,fun _ _ _ _ _ r h=>by simp [tree_Add.l1] at h,fun _ _ _ _ _ _ _ _ _ r h=>by simp [tree_Add.l0] at h⟩
 | k + 1=>by
  obtain ⟨ih0,ih1,ih2,ih3,ih4⟩:=tree_Add.mono_l k
  refine ⟨?_,?_,?_,?_,?_⟩
  · intro y0 y1 y2 y3 y4 y5 y6 y7 y8
    unfold tree_Add.j1
    repeat' first
    | (with_reducible exact ih0 _ _ _ _ _ _ _ _ _)
    | (with_reducible exact ih1 _ _ _ _ _ _ _ _ _ _)
    | (with_reducible exact ih2 _ _ _ _ _ _ _ _ _)
    | (with_reducible exact ih3 _ _ _ _ _)
    | (with_reducible exact ih4 _ _ _ _ _ _ _ _ _)
    | (with_reducible exact tree_copied.mono _ _)
    | (with_reducible exact LeO.refl _)
    | (with_reducible exact LeO.none _)
    | (with_reducible refine LeO.ite ?_ ?_)
    | (with_reducible refine LeO.bind ?_ (fun _=>?_))
    | exact ih0 _ _ _ _ _ _ _ _ _
    | exact ih1 _ _ _ _ _ _ _ _ _ _
    | exact ih2 _ _ _ _ _ _ _ _ _
    | exact ih3 _ _ _ _ _
    | exact ih4 _ _ _ _ _ _ _ _ _
    | exact tree_copied.mono _ _
    | exact LeO.none _
    | refine LeO.ite ?_ ?_
    | refine LeO.bind ?_ (fun _=>?_)
  · intro y0 y1 y2 y3 y4 y5 y6 y7 y8 y9
    unfold tree_Add.j2
    repeat' first
    | (with_reducible exact ih0 _ _ _ _ _ _ _ _ _)
    | (with_reducible exact ih1 _ _ _ _ _ _ _ _ _ _)
    | (with_reducible exact ih2 _ _ _ _ _ _ _ _ _)
    | (with_reducible exact ih3 _ _ _ _ _)
    | (with_reducible exact ih4 _ _ _ _ _ _ _ _ _)
    | (with_reducible exact tree_copied.mono _ _)
    | (with_reducible exact LeO.refl _)
    | (with_reducible exact LeO.none _)
    | (with_reducible refine LeO.ite ?_ ?_)
    | (with_reducible refine LeO.bind ?_ (fun _=>?_))
    | exact ih0 _ _ _ _ _ _ _ _ _
    | exact ih1 _ _ _ _ _ _ _ _ _ _
    | exact ih2 _ _ _ _ _ _ _ _ _
    | exact ih3 _ _ _ _ _
    | exact ih4 _ _ _ _ _ _ _ _ _
    | exact tree_copied.mono _ _
    | exact LeO.none _
    | refine LeO.ite ?_ ?_
    | refine LeO.bind ?_ (fun _=>?_)
  · intro y0 y1 y2 y3 y4 y5 y6 y7 y8
    unfold tree_Add.j3
    repeat' first
    | (with_reducible exact ih0 _ _ _ _ _ _ _ _ _)
    | (with_reducible exact ih1 _ _ _ _ _ _ _ _ _ _)
    | (with_reducible exact ih2 _ _ _ _ _ _ _ _ _)
    | (with_reducible exact ih3 _ _ _ _ _)
    | (with_reducible exact ih4 _ _ _ _ _ _ _ _ _)
    | (with_reducible exact tree_copied.mono _ _)
    | (with_reducible exact LeO.refl _)
    | (with_reducible exact LeO.none _)
    | (with_reducible refine LeO.ite ?_ ?_)
    | (with_reducible refine LeO.bind ?_ (fun _=>?_))
    | exact ih0 _ _ _ _ _ _ _ _ _
    | exact ih1 _ _ _ _ _ _ _ _ _ _
    | exact ih2 _ _ _ _ _ _ _ _ _
    | exact ih3 _ _ _ _ _
    | exact ih4 _ _ _ _ _ _ _ _ _
    | exact tree_copied.mono _ _
    | exact LeO.none _
    | refine LeO.ite ?_ ?_
    | refine LeO.bind ?_ (fun _=>?_)
  · intro y0 y1 y2 y3 y4
    unfold tree_Add.l1
    repeat' first
    | (with_reducible exact ih0 _ _ _ _ _ _ _ _ _)
    | (with_reducible exact ih1 _ _ _ _ _ _ _ _ _ _)
    | (with_reducible exact ih2 _ _ _ _ _ _ _ _ _)
    | (with_reducible exact ih3 _ _ _ _ _)
    | (with_reducible exact ih4 _ _ _ _ _ _ _ _ _)
    | (with_reducible exact tree_copied.mono _ _)
    | (with_reducible exact LeO.refl _)
    | (with_reducible exact LeO.none _)
    | (with_reducible refine LeO.ite ?_ ?_)
    | (with_reducible refine LeO.bind ?_ (fun _=>?_))
    | exact ih0 _ _ _ _ _ _ _ _ _
    | exact ih1 _ _ _ _ _ _ _ _ _ _
    | exact ih2 _ _ _ _ _ _ _ _ _
    | exact ih3 _ _ _ _ _
    | exact ih4 _ _ _ _ _ _ _ _ _
    | exact tree_copied.mono _ _
    | exact LeO.none _
    | refine LeO.ite ?_ ?_
    | refine LeO.bind ?_ (fun _=>?_)
  · intro y0 y1 y2 y3 y4 y5 y6 y7 y8
    unfold tree_Add.l0
    repeat' first
    | (with_reducible exact ih0 _ _ _ _ _ _ _ _ _)
    | (with_reducible exact ih1 _ _ _ _ _ _ _ _ _ _)
    | (with_reducible exact ih2 _ _ _ _ _ _ _ _ _)
    | (with_reducible exact ih3 _ _ _ _ _)
    | (with_reducible exact ih4 _ _ _ _ _ _ _ _ _)
    | (with_reducible exact tree_copied.mono _ _)
    | (with_reducible exact LeO.refl _)
    | (with_reducible exact LeO.none _)
    | (with_reducible refine LeO.ite ?_ ?_)
    | (with_reducible refine LeO.bind ?_ (fun _=>?_))
    | exact ih0 _ _ _ _ _ _ _ _ _
    | exact ih1 _ _ _ _ _ _ _ _ _ _
    | exact ih2 _ _ _ _ _ _ _ _ _
    | exact ih3 _ _ _ _ _
    | exact ih4 _ _ _ _ _ _ _ _ _
    | exact tree_copied.mono _ _
    | exact LeO.none _
    | refine LeO.ite ?_ ?_
    | refine LeO.bind ?_ (fun _=>?_)
theorem tree_Add.mono : ∀ a0 a1 a2 a3 a4 a5 a6 k,LeO (tree_Add.f k a0 a1 a2 a3 a4 a5 a6) (tree_Add.f (k + 1) a0 a1 a2 a3 a4 a5 a6):=by
 intro a0 a1 a2 a3 a4 a5 a6 k
 obtain ⟨ih0,ih1,ih2,ih3,ih4⟩:=tree_Add.mono_l k
 unfold tree_Add.f
 repeat' first
  | (with_reducible exact ih0 _ _ _ _ _ _ _ _ _)
  | (with_reducible exact ih1 _ _ _ _ _ _ _ _ _ _)
  | (with_reducible exact ih2 _ _ _ _ _ _ _ _ _)
  | (with_reducible exact ih3 _ _ _ _ _)
  | (with_reducible exact ih4 _ _ _ _ _ _ _ _ _)
  | (with_reducible exact tree_copied.mono _ _)
  | (with_reducible exact LeO.refl _)
  | (with_reducible exact LeO.none _)
  | (with_reducible refine LeO.ite ?_ ?_)
  | (with_reducible refine LeO.bind ?_ (fun _=>?_))
  | exact ih0 _ _ _ _ _ _ _ _ _
  | exact ih1 _ _ _ _ _ _ _ _ _ _
  | exact ih2 _ _ _ _ _ _ _ _ _
  | exact ih3 _ _ _ _ _
  | exact ih4 _ _ _ _ _ _ _ _ _
  | exact tree_copied.mono _ _
  | exact LeO.none _
  | refine LeO.ite ?_ ?_
  | refine LeO.bind ?_ (fun _=>?_)
set_option maxHeartbeats 8000000 in
set_option maxRecDepth 100000 in
theorem tree_Add.calls (k : Nat) (A0 : Option Addr) (c0 : Nat) (l0 : List (S29)) (a1_0 : Bool) (a1_1 : Int) (a1_2 : Int) (a1_3 : Int) (a1_4 : Int) (P1_5_ : Nat→Prop) (A1_5 : Option Addr) (c1_5 : Nat) (l1_5 : List Int) (r1 : List (S29)) (r2 : Int) (r3 : Int) (w : World) (hrG : TabG w) (hr0 : Kd.C k29 w A0 l0.length l0) (hc0 : l0.length≤c0) (hs1_5 : Kd.V (Kd.int .i64) 3 w w.heap.size (fun k_=>P1_5_ k_) (.slice A1_5 l1_5.length c1_5) l1_5) (h : tree_Add.f k l0 a1_0 a1_1 a1_2 a1_3 a1_4 l1_5 = some (r1,r2,r3)) :
 Calls Tryd.prog 19 #[.slice A0 l0.length c0,.agg #[.bool a1_0,.int .i64 a1_1,.int .i64 a1_2,.int .i64 a1_3,.int .i64 a1_4,.slice A1_5 l1_5.length c1_5]] w fun e w'=>∃ v0_ : Value,e = .returned (.tuple #[v0_,.int .i64 r2,.int .i64 r3])∧Kd.S k29 29 w' w.heap.size (fun k_=>(w.heap.size≤k_)) v0_ r1∧Below w.heap.size w w':=by
 have HRG:=Az.mk hrG
 clear hrG
 have hu29:=Tryd.underlying29
 have HR0:=Az.mk hr0
 have HC0:=Az.mk hc0
 clear hr0 hc0
 have HO1_5:=Az.mk (show Kd.V (Kd.int .i64) 3 w w.heap.size (fun k_=>(P1_5_ k_∨w.heap.size≤k_)) (.slice A1_5 l1_5.length c1_5) l1_5 from Kd.V_mono hs1_5 (fun k_ hk=>.inl hk))
 have HB:=Az.mk (Below.refl w.heap.size w)
 have H : ((tree_Leaves.f l0).bind fun t168=>(tree_Add.l0 k l0 t168 0 a1_0 a1_1 a1_2 a1_3 a1_4 l1_5)) = some (r1,r2,r3):=h
 clear h
 replace H:=Option.bind_eq_some_iff.mp H
 obtain ⟨t168,A30,H⟩:=H
 replace H : (tree_Add.l0 k l0 t168 0 a1_0 a1_1 a1_2 a1_3 a1_4 l1_5) = some (r1,r2,r3):=H
 have A3:=Az.mk A30
 clear A30
 have HC4:=Az.mk H
 clear H
 go_enter Tryd.func19,Tryd.ntmps19
 go_upto_block 0 with (first | ((with_reducible refine gate_dst (N:=3) rfl ?_);refine box_event ?hg (N:=3) ?hd (cs:=#[.bool a1_0,.int .i64 a1_1,.int .i64 a1_2,.int .i64 a1_3,.int .i64 a1_4,.slice A1_5 l1_5.length c1_5]) (t:=29) ?hr ?_;(case hd=>rfl);(case hg=>rfl);(case hr=>first | (go_simp;done) | (go_simp;rfl));intro gb167 hg w5 hbox hb;have n0_:=Az.mk (Kd.V_below (Kd.V_elderB (V_mv HO1_5.out) gb167 (Nat.le_of_eq hg.symm)) hb);have n1_:=Az.mk (bwT (bmv HB.out) hb);have n2_:=Az.mk (hbox);have n3_:=Az.mk ((by rw [hg];exact (bwZ (bmv HB.out)) : w.heap.size≤gb167));have n4_:=Az.mk ((by rw [hg];exact (bwZ (bmv HB.out)) : w.heap.size≤gb167));clear HO1_5;clear HB;have HO1_5:=n0_;have HB:=n1_;have BK167:=n2_;have GW167:=n3_;have GE167:=n4_;clear n0_ n1_ n2_ n3_ n4_;clear hb hbox hg) | ((with_reducible refine gate_callee (f:=29) rfl ?_);refine goesL_ (some 17) rfl rfl Tryd.func29 (by kernel_rfl) rfl #[.slice A0 l0.length c0] rfl (by (try simp only [List.map_toArray,List.map_cons,List.map_nil]);first | done | rfl | (simp only [List.length_drop,List.length_take];rfl)) ?_;(with_reducible refine (tree_Leaves.calls _ _ l0 t168 _ ?side1 ?side2 A3.out).mono ?_);(case side1=>exact C_mv ((Kd.C_below HR0.out HB.out)));(case side2=>exact HC0.out);rintro e w' ⟨rfl,⟨nd,rfl⟩⟩;refine ⟨_,rfl,?_⟩))
 (try simp only [Act.put,List.setIfInBounds_toArray,List.set_cons_zero,List.set_cons_succ])
 go_cut [8] (fun v8 wc=>∃ (kq : Nat) (x8_3 : Int),v8 = .int .i64 x8_3∧Az (tree_Add.j1 kq l0 t168 x8_3 a1_0 a1_1 a1_2 a1_3 a1_4 l1_5 = some (r1,r2,r3))∧Az (kq≤k)∧Az (Kd.V (Kd.int .i64) 3 wc w.heap.size (fun k_=>(P1_5_ k_∨w.heap.size≤k_)∧k_≠gb167) (.slice A1_5 l1_5.length c1_5) l1_5)∧Az (wc.heap[gb167]? = some (.cells #[.bool a1_0,.int .i64 a1_1,.int .i64 a1_2,.int .i64 a1_3,.int .i64 a1_4,(.slice A1_5 l1_5.length c1_5)] 29 (0,0)))∧Az (Below w.heap.size w wc))
 case first=>
  have H:=HC4.out
  clear HC4
  have H':=Az.mk H
  clear H
  go_wp2
  go_loopg [8] k (fun kq v8 w'=>∃ (x8_1 : Int),v8 = .int .i64 x8_1∧Az (tree_Add.l0 kq l0 t168 x8_1 a1_0 a1_1 a1_2 a1_3 a1_4 l1_5 = some (r1,r2,r3))∧Az (kq≤k)∧Az (Kd.V (Kd.int .i64) 3 w' w.heap.size (fun k_=>(P1_5_ k_∨w.heap.size≤k_)∧k_≠gb167) (.slice A1_5 l1_5.length c1_5) l1_5)∧Az (w'.heap[gb167]? = some (.cells #[.bool a1_0,.int .i64 a1_1,.int .i64 a1_2,.int .i64 a1_3,.int .i64 a1_4,(.slice A1_5 l1_5.length c1_5)] 29 (0,0)))∧Az (Below w.heap.size w w'))
  case atStart=>exact ⟨(0),(by first | rfl | (simp;done) | (simp [*];done)),H',⟨Nat.le_refl _⟩,⟨V_mv HO1_5.out⟩,⟨blk_mv BK167.out⟩,⟨by repeat (with_reducible first | exact bmv HB.out | refine bwS ?_ GE167.out)⟩⟩
  case round=>
   clear H'
   obtain ⟨x8_1,rfl,HA,HK1,HO_168005,BK167,HB⟩:=hrel
   cases gk with
   | zero=>exact absurd HA.out (by simp [tree_Add.l0])
   | succ k1=>
    have H:=HA.out
    clear HA
    simp only [tree_Add.l0] at H
    by_cases c6 : x8_1 < t168
    · rw [if_pos c6] at H
      have c6b0 : decide (x8_1 < t168) = true:=decide_eq_true c6
      clear c6
      (first | rw [c6b0] | (simp only [i64_w,i32_w];rw [c6b0]) | skip)
      obtain ⟨ji7,hji7⟩ : ∃ j_ : Int,(wrap64 (2 * x8_1)) = j_:=⟨_,rfl⟩
      replace H : (if 0≤(ji7) then (if (ji7) < (l0.length : Int) then (if (rd_T29 l0 (ji7)).f0 = true then (tree_Add.l0 k1 l0 t168 (wrap64 (x8_1 + 1)) a1_0 a1_1 a1_2 a1_3 a1_4 l1_5) else (tree_Add.j1 k1 l0 t168 x8_1 a1_0 a1_1 a1_2 a1_3 a1_4 l1_5)) else (none)) else (none)) = some (r1,r2,r3):=by first | (rw [hji7] at H;exact H) | (simp only [hji7] at H ⊢;exact H)
      have hji7w : (IntKind.i64.wrap (2 * x8_1)) = ji7:=(i64_w _).trans hji7
      by_cases c8 : 0≤(ji7)
      · rw [if_pos c8] at H
        have c8b0 : decide (0≤(ji7)) = true:=decide_eq_true c8
        clear c8
        by_cases c9 : (ji7) < (l0.length : Int)
        · rw [if_pos c9] at H
          have c9b0 : decide ((ji7) < (l0.length : Int)) = true:=decide_eq_true c9
          clear c9
          obtain ⟨bq10,hbq10⟩ : ∃ b_ : Bool,b_ = ((rd_T29 l0 (ji7)).f0):=⟨_,rfl⟩
          replace H : (if bq10 = true then (tree_Add.l0 k1 l0 t168 (wrap64 (x8_1 + 1)) a1_0 a1_1 a1_2 a1_3 a1_4 l1_5) else (tree_Add.j1 k1 l0 t168 x8_1 a1_0 a1_1 a1_2 a1_3 a1_4 l1_5)) = some (r1,r2,r3):=by rw [← hbq10] at H;exact H
          have Nbq10:=Az.mk hbq10
          clear hbq10
          by_cases c11 : bq10 = true
          · subst c11
            have H1 : (tree_Add.l0 k1 l0 t168 (wrap64 (x8_1 + 1)) a1_0 a1_1 a1_2 a1_3 a1_4 l1_5) = some (r1,r2,r3):=by rw [if_pos rfl] at H;exact H
            clear H
            have H:=H1
            clear H1
            have H':=Az.mk H
            clear H
            have p169 : 0≤((ji7) : Int):=of_decide_eq_true (by first | (with_reducible assumption) | assumption)
            have q169 : (ji7) < (l0.length : Int):=of_decide_eq_true (by first | (with_reducible assumption) | assumption)
            obtain ⟨ad169,A169_5,c169_5,e169,hx169_0,hx169_1,hx169_2,hx169_3,hx169_4,hx169_5,hl169_5,hi169_5⟩:=at_T29 HR0.out (ji7) p169 q169
            (try rw [← Nbq10.out] at hx169_0)
            cases e169
            replace hx169_0:=(HB.out.cell (World.block_lt_of_cell? w _ hx169_0)).trans hx169_0
            replace hx169_1:=(HB.out.cell (World.block_lt_of_cell? w _ hx169_1)).trans hx169_1
            replace hx169_2:=(HB.out.cell (World.block_lt_of_cell? w _ hx169_2)).trans hx169_2
            replace hx169_3:=(HB.out.cell (World.block_lt_of_cell? w _ hx169_3)).trans hx169_3
            replace hx169_4:=(HB.out.cell (World.block_lt_of_cell? w _ hx169_4)).trans hx169_4
            replace hx169_5:=(HB.out.cell (World.block_lt_of_cell? w _ hx169_5)).trans hx169_5
            have HR169_5:=Az.mk hi169_5
            have HC169_5:=Az.mk hl169_5
            clear hi169_5 hl169_5
            replace p169:=eq_true p169
            replace q169:=eq_true q169
            go_wp2
            go_roundg k1
            case measure=>have:=HK1.out;omega
            case rel=>exact ⟨(wrap64 (x8_1 + 1)),(by first | rfl | (simp;done) | (simp [*];done)),H',⟨by have:=HK1.out;omega⟩,⟨V_mv HO_168005.out⟩,⟨blk_mv BK167.out⟩,⟨by repeat (with_reducible first | exact bmv HB.out | refine bwS ?_ GE167.out)⟩⟩
          · replace c11:=Bool.eq_false_iff.mpr c11
            subst c11
            have H1 : (tree_Add.j1 k1 l0 t168 x8_1 a1_0 a1_1 a1_2 a1_3 a1_4 l1_5) = some (r1,r2,r3):=by rw [if_neg (show ¬ (false = true) by decide)] at H;exact H
            clear H
            have H:=H1
            clear H1
            have H':=Az.mk H
            clear H
            have p169 : 0≤((ji7) : Int):=of_decide_eq_true (by first | (with_reducible assumption) | assumption)
            have q169 : (ji7) < (l0.length : Int):=of_decide_eq_true (by first | (with_reducible assumption) | assumption)
            obtain ⟨ad169,A169_5,c169_5,e169,hx169_0,hx169_1,hx169_2,hx169_3,hx169_4,hx169_5,hl169_5,hi169_5⟩:=at_T29 HR0.out (ji7) p169 q169
            (try rw [← Nbq10.out] at hx169_0)
            cases e169
            replace hx169_0:=(HB.out.cell (World.block_lt_of_cell? w _ hx169_0)).trans hx169_0
            replace hx169_1:=(HB.out.cell (World.block_lt_of_cell? w _ hx169_1)).trans hx169_1
            replace hx169_2:=(HB.out.cell (World.block_lt_of_cell? w _ hx169_2)).trans hx169_2
            replace hx169_3:=(HB.out.cell (World.block_lt_of_cell? w _ hx169_3)).trans hx169_3
            replace hx169_4:=(HB.out.cell (World.block_lt_of_cell? w _ hx169_4)).trans hx169_4
            replace hx169_5:=(HB.out.cell (World.block_lt_of_cell? w _ hx169_5)).trans hx169_5
            have HR169_5:=Az.mk hi169_5
            have HC169_5:=Az.mk hl169_5
            clear hi169_5 hl169_5
            replace p169:=eq_true p169
            replace q169:=eq_true q169
            go_wp2
            go_meet
            case rel=>exact ⟨_,(x8_1),(by first | rfl | (simp;done) | (simp [*];done)),H',⟨by have:=HK1.out;first | omega | exact Nat.le_refl _⟩,⟨V_mv HO_168005.out⟩,⟨blk_mv BK167.out⟩,⟨by repeat (with_reducible first | exact bmv HB.out | refine bwS ?_ GE167.out)⟩⟩
        · rw [if_neg c9] at H
          exact absurd H (by simp)
      · rw [if_neg c8] at H
        exact absurd H (by simp)
    · rw [if_neg c6] at H
      have c6b0 : decide (x8_1 < t168) = false:=decide_eq_false c6
      clear c6
      (first | rw [c6b0] | (simp only [i64_w,i32_w];rw [c6b0]) | skip)
      have H':=Az.mk H
      clear H
      go_wp2
      go_meet
      case rel=>exact ⟨_,(x8_1),(by first | rfl | (simp;done) | (simp [*];done)),H',⟨by have:=HK1.out;first | omega | exact Nat.le_refl _⟩,⟨V_mv HO_168005.out⟩,⟨blk_mv BK167.out⟩,⟨by repeat (with_reducible first | exact bmv HB.out | refine bwS ?_ GE167.out)⟩⟩
 case rest=>
  clear HC4
  try clear c6
  try clear c6b0
  try clear c8
  try clear c8b0
  try clear c9
  try clear c9b0
  try clear c11
  try clear hx169_0
  try clear hx169_1
  try clear hx169_2
  try clear hx169_3
  try clear hx169_4
  try clear hx169_5
  try clear p169
  try clear q169
  obtain ⟨kq,x8_3,rfl,HA,HJ3,HO_168005,BK167,HB⟩:=hcut
  cases kq with
  | zero=>exact absurd HA.out (by simp [tree_Add.j1])
  | succ kj3=>
   have H:=HA.out
   clear HA
   simp only [tree_Add.j1] at H
   have HC12:=Az.mk H
   clear H
   go_upto_region 5 with (fail)
   go_cut [37] (fun v37 wc=>∃ (kq : Nat) (x37_11 : Bool),v37 = .bool x37_11∧Az (tree_Add.j2 kq l0 t168 x8_3 x37_11 a1_0 a1_1 a1_2 a1_3 a1_4 l1_5 = some (r1,r2,r3))∧Az (kq≤kj3)∧Az (Kd.V (Kd.int .i64) 3 wc w.heap.size (fun k_=>(P1_5_ k_∨w.heap.size≤k_)∧k_≠gb167) (.slice A1_5 l1_5.length c1_5) l1_5)∧Az (wc.heap[gb167]? = some (.cells #[.bool a1_0,.int .i64 a1_1,.int .i64 a1_2,.int .i64 a1_3,.int .i64 a1_4,(.slice A1_5 l1_5.length c1_5)] 29 (0,0)))∧Az (Below w.heap.size w wc))
   case first=>
    have H:=HC12.out
    clear HC12
    by_cases c13 : x8_3 = t168
    · rw [if_pos c13] at H
      have c13b0 : (x8_3 == t168) = true:=beq_iff_eq.mpr c13
      have c13b1 : (x8_3 != t168) = false:=bne_eq_false_iff_eq.mpr c13
      clear c13
      (first | rw [c13b0] | (simp only [i64_w,i32_w];rw [c13b0]) | skip)
      have H':=Az.mk H
      clear H
      go_wp2
      go_meet
      case rel=>exact ⟨_,(decide (t168≥32)),(by first | rfl | (simp;done) | (simp [*];done)),H',⟨by have:=HJ3.out;first | omega | exact Nat.le_refl _⟩,⟨V_mv HO_168005.out⟩,⟨blk_mv BK167.out⟩,⟨by repeat (with_reducible first | exact bmv HB.out | refine bwS ?_ GE167.out)⟩⟩
    · rw [if_neg c13] at H
      have c13b0 : (x8_3 == t168) = false:=beq_eq_false_iff_ne.mpr c13
      have c13b1 : (x8_3 != t168) = true:=bne_iff_ne.mpr c13
      (first | rw [c13b0] | (simp only [i64_w,i32_w];rw [c13b0]) | skip)
      have H':=Az.mk H
      clear H
      go_wp2
      go_meet
      case rel=>exact ⟨_,(false),(by first | rfl | (simp;done) | (simp [*];done)),H',⟨by have:=HJ3.out;first | omega | exact Nat.le_refl _⟩,⟨V_mv HO_168005.out⟩,⟨blk_mv BK167.out⟩,⟨by repeat (with_reducible first | exact bmv HB.out | refine bwS ?_ GE167.out)⟩⟩
   case rest=>
    clear HC12
    try clear c6
    try clear c6b0
    try clear c8
    try clear c8b0
    try clear c9
    try clear c9b0
    try clear c11
    try clear c13
    try clear c13b0
    try clear c13b1
    try clear hx169_0
    try clear hx169_1
    try clear hx169_2
    try clear hx169_3
    try clear hx169_4
    try clear hx169_5
    try clear p169
    try clear q169
    obtain ⟨kq,x37_11,rfl,HA,HJ11,HO_168005,BK167,HB⟩:=hcut
    cases kq with
    | zero=>exact absurd HA.out (by simp [tree_Add.j2])
    | succ kj11=>
     have H:=HA.out
     clear HA
     simp only [tree_Add.j2] at H
     by_cases c14 : x37_11 = true
     · subst c14
       have H1 : (some (([] : List (S29)),0,41)) = some (r1,r2,r3):=by rw [if_pos rfl] at H;exact H
       clear H
       have H:=H1
       clear H1
       simp only [Option.some.injEq,Prod.mk.injEq] at H
       obtain ⟨rfl,rfl,rfl⟩:=H
       go_wp2
       go_ret3
       exact ⟨_,by first | rfl | (simp [errW_none,errW_some] <;> rfl) | (simp [*,errW_none,errW_some] <;> rfl),by first | exact Kd.S_nil _ _ _ _ _ | exact Kd.N_nil _ _ _ _ _ | exact Kd.V_nil _ _ _ _ _ | exact Kd.Q_nil _ _ _ _ _ | exact Kd.R_nil _ _ _ _ _,by repeat (with_reducible first | exact bmv HB.out | refine bwS ?_ GE167.out)⟩
     · replace c14:=Bool.eq_false_iff.mpr c14
       subst c14
       have H1 : ((tree_copied.f kj11 l0).bind fun t170=>(if x8_3 = t168 then (if 0≤(wrap64 (2 * t168)) then (if t170.length + (wrap64 (2 * t168) : Int).toNat < 2199023255552 then (tree_Add.j3 kj11 (wrap64 (t168 * 2)) x8_3 (t170 ++ List.replicate (wrap64 (2 * t168) : Int).toNat z29) a1_0 a1_1 a1_2 a1_3 a1_4 l1_5) else (none)) else (none)) else (tree_Add.j3 kj11 t168 x8_3 t170 a1_0 a1_1 a1_2 a1_3 a1_4 l1_5))) = some (r1,r2,r3):=by rw [if_neg (show ¬ (false = true) by decide)] at H;exact H
       clear H
       have H:=H1
       clear H1
       replace H:=Option.bind_eq_some_iff.mp H
       obtain ⟨t170,A150,H⟩:=H
       replace H : (if x8_3 = t168 then (if 0≤(wrap64 (2 * t168)) then (if t170.length + (wrap64 (2 * t168) : Int).toNat < 2199023255552 then (tree_Add.j3 kj11 (wrap64 (t168 * 2)) x8_3 (t170 ++ List.replicate (wrap64 (2 * t168) : Int).toNat z29) a1_0 a1_1 a1_2 a1_3 a1_4 l1_5) else (none)) else (none)) else (tree_Add.j3 kj11 t168 x8_3 t170 a1_0 a1_1 a1_2 a1_3 a1_4 l1_5)) = some (r1,r2,r3):=H
       have A15:=Az.mk A150
       clear A150
       have HC16:=Az.mk H
       clear H
       go_upto_if 42 with (first | ((with_reducible refine gate_callee (f:=50) rfl ?_);refine goesL_ (some 39) rfl rfl Tryd.func50 (by kernel_rfl) rfl #[.slice A0 l0.length c0] rfl (by (try simp only [List.map_toArray,List.map_cons,List.map_nil]);first | done | rfl | (simp only [List.length_drop,List.length_take];rfl)) ?_;(with_reducible refine (tree_copied.calls kj11 _ _ l0 t170 _ ?side1 ?side2 A15.out).mono ?_);(case side1=>exact C_mv ((Kd.C_below HR0.out HB.out)));(case side2=>exact HC0.out);rintro e w17 ⟨v171,rfl,ho0,hb⟩;refine ⟨_,rfl,?_⟩;have n0_:=Az.mk (Kd.V_elder' (V_mv HO_168005.out) (Kd.S_base ho0) hb);have n1_:=Az.mk (Kd.S_lower (Kd.S_newB (Kd.S_newM (M:=fun k_=>(w.heap.size≤k_)) ho0 (bwZ (by repeat (with_reducible first | exact bmv HB.out | refine bwS ?_ GE167.out))) (fun k_ h_=>h_)) (g:=gb167) (o:=.cells #[.bool a1_0,.int .i64 a1_1,.int .i64 a1_2,.int .i64 a1_3,.int .i64 a1_4,.slice A1_5 l1_5.length c1_5] 29 (0,0)) (blk_mv BK167.out)) (bwZ (by repeat (with_reducible first | exact bmv HB.out | refine bwS ?_ GE167.out))));have n2_:=Az.mk (kB (g:=gb167) (o:=.cells #[.bool a1_0,.int .i64 a1_1,.int .i64 a1_2,.int .i64 a1_3,.int .i64 a1_4,.slice A1_5 l1_5.length c1_5] 29 (0,0)) (blk_mv BK167.out) hb);have n3_:=Az.mk (bwT (by repeat (with_reducible first | exact bmv HB.out | refine bwS ?_ GE167.out)) hb);clear HO_168005;clear BK167;clear HB;have HO_168005:=n0_;have HO172:=n1_;have BK167:=n2_;have HB:=n3_;clear n0_ n1_ n2_ n3_;(try clear hb);(try clear hb2);(try clear hk);(try clear hi);(try clear ho0)))
       (try simp only [Act.put,List.setIfInBounds_toArray,List.set_cons_zero,List.set_cons_succ])
       go_cut [7,9] (fun v7 v9 wc=>∃ (kq : Nat) (x7_15 : Int) (x9_15 : List (S29)),v7 = .int .i64 x7_15∧Az (tree_Add.j3 kq x7_15 x8_3 x9_15 a1_0 a1_1 a1_2 a1_3 a1_4 l1_5 = some (r1,r2,r3))∧Az (kq≤kj11)∧Az (Kd.S k29 29 wc w.heap.size (fun k_=>(w.heap.size≤k_)∧k_≠gb167) v9 x9_15)∧Az (Kd.V (Kd.int .i64) 3 wc w.heap.size (fun k_=>(P1_5_ k_∨w.heap.size≤k_)∧some k_≠(v9 : Value).ownBlock∧k_≠gb167) (.slice A1_5 l1_5.length c1_5) l1_5)∧Az (wc.heap[gb167]? = some (.cells #[.bool a1_0,.int .i64 a1_1,.int .i64 a1_2,.int .i64 a1_3,.int .i64 a1_4,(.slice A1_5 l1_5.length c1_5)] 29 (0,0)))∧Az (Below w.heap.size w wc))
       case first=>
        have H:=HC16.out
        clear HC16
        by_cases c18 : x8_3 = t168
        · rw [if_pos c18] at H
          have c18b0 : (x8_3 == t168) = true:=beq_iff_eq.mpr c18
          have c18b1 : (x8_3 != t168) = false:=bne_eq_false_iff_eq.mpr c18
          clear c18
          (first | rw [c18b0] | (simp only [i64_w,i32_w];rw [c18b0]) | skip)
          obtain ⟨ji19,hji19⟩ : ∃ j_ : Int,(wrap64 (2 * t168)) = j_:=⟨_,rfl⟩
          replace H : (if 0≤(ji19) then (if t170.length + (ji19 : Int).toNat < 2199023255552 then (tree_Add.j3 kj11 (wrap64 (t168 * 2)) x8_3 (t170 ++ List.replicate (ji19 : Int).toNat z29) a1_0 a1_1 a1_2 a1_3 a1_4 l1_5) else (none)) else (none)) = some (r1,r2,r3):=by first | (rw [hji19] at H;exact H) | (simp only [hji19] at H ⊢;exact H)
          have hji19w : (IntKind.i64.wrap (2 * t168)) = ji19:=(i64_w _).trans hji19
          by_cases c20 : 0≤(ji19)
          · rw [if_pos c20] at H
            have c20b0:=eq_true c20
            have c20b1 : decide (0≤(ji19)) = true:=decide_eq_true c20
            clear c20
            by_cases c21 : t170.length + (ji19 : Int).toNat < 2199023255552
            · rw [if_pos c21] at H
              have LMc21:=Az.mk c21
              clear c21
              obtain ⟨y173,hy173⟩ : ∃ y_ : List (S29),y_ = (t170 ++ List.replicate (ji19 : Int).toNat z29):=⟨_,rfl⟩
              replace H : (tree_Add.j3 kj11 (wrap64 (t168 * 2)) x8_3 y173 a1_0 a1_1 a1_2 a1_3 a1_4 l1_5) = some (r1,r2,r3):=by first | (rw [hy173];with_reducible exact H) | (have H2_:=(Option.bind_some _ _).symm.trans H;rw [hy173];with_reducible exact H2_) | (have H2_:=(Option.bind_some _ _).symm.trans H;with_reducible exact H2_) | with_reducible exact H | (rw [hy173];exact H) | exact H
              have Ny173:=Az.mk hy173
              clear hy173
              have H':=Az.mk H
              clear H
              go_wp2_with (first | (at_builtin;refine Kd.S_append_zeros k29 (w0:=w) w.heap.size rfl (.tmp 43) (.tmp 45) 22 3 29 (.agg #[(.bool false),(.int .i64 0),(.int .i64 0),(.int .i64 0),(.int .i64 0),(.slice none 0 0)]) 64 rfl Tryd.underlying22 Tryd.underlying3 info29 rfl (by decide) (by omega) v171 t170 z29 (ji19 : Int) (fun k_=>(w.heap.size≤k_)∧k_≠gb167) rfl rfl (k29_mkM _ _ _ z29 (Kd.R_nil _ _ _ _ _)) ?aF ?aO (of_decide_eq_true (by first | (with_reducible assumption) | assumption)) ?aB ?aS ?aL ?_;(case aB=>exact (by repeat (with_reducible first | exact bmv HB.out | refine bwS ?_ GE167.out)));(case aF=>exact (fun k_ hk=>⟨(Nat.le_trans (bwZ (by repeat (with_reducible first | exact bmv HB.out | refine bwS ?_ GE167.out))) hk),Kd.freshB (g:=gb167) (o:=.cells #[.bool a1_0,.int .i64 a1_1,.int .i64 a1_2,.int .i64 a1_3,.int .i64 a1_4,.slice A1_5 l1_5.length c1_5] 29 (0,0)) (blk_mv BK167.out) k_ hk⟩));(case aO=>exact (S_mv (Kd.S_mono HO172.out (fun _ hk=>⟨hk.1.1,hk.2⟩))));(case aS=>exact (bwZ (by repeat (with_reducible first | exact bmv HB.out | refine bwS ?_ GE167.out))));(case aL=>have:=LMc21.out;omega);intro v174 w22 ho hb hg hat;rw [← Ny173.out] at ho;have n0_:=Az.mk (Kd.V_afterv (ok:=(fun k_=>(P1_5_ k_∨w.heap.size≤k_)∧k_≠gb167)) (V_mv HO_168005.out) hg hat);have n1_:=Az.mk (blk_grown (g:=gb167) (o:=.cells #[.bool a1_0,.int .i64 a1_1,.int .i64 a1_2,.int .i64 a1_3,.int .i64 a1_4,.slice A1_5 l1_5.length c1_5] 29 (0,0)) (blk_mv BK167.out) hg (Kd.S_away HO172.out (fun _ hk=>hk.2)));have n2_:=Az.mk (hb);have n3_:=Az.mk (ho);clear HO_168005;clear BK167;clear HB;clear HO172;have HO_168005:=n0_;have BK167:=n1_;have HB:=n2_;have HO175:=n3_;clear n0_ n1_ n2_ n3_;clear ho hb hg hat))
              go_meet
              case rel=>exact ⟨_,(wrap64 (t168 * 2)),(y173),(by first | rfl | (simp;done) | (simp [*];done)),H',⟨by have:=HJ3.out;have:=HJ11.out;first | omega | exact Nat.le_refl _⟩,⟨S_mv HO175.out⟩,⟨V_mv (Kd.V_mono HO_168005.out (fun _ hk=>⟨hk.1.1,⟨hk.2,hk.1.2⟩⟩))⟩,⟨blk_mv BK167.out⟩,⟨by repeat (with_reducible first | exact bmv HB.out | refine bwS ?_ GE167.out)⟩⟩
            · rw [if_neg c21] at H
              exact absurd H (by simp)
          · rw [if_neg c20] at H
            exact absurd H (by simp)
        · rw [if_neg c18] at H
          have c18b0 : (x8_3 == t168) = false:=beq_eq_false_iff_ne.mpr c18
          have c18b1 : (x8_3 != t168) = true:=bne_iff_ne.mpr c18
          (first | rw [c18b0] | (simp only [i64_w,i32_w];rw [c18b0]) | skip)
          have H':=Az.mk H
          clear H
          go_wp2
          go_meet
          case rel=>exact ⟨_,(t168),(t170),(by first | rfl | (simp;done) | (simp [*];done)),H',⟨by have:=HJ3.out;have:=HJ11.out;first | omega | exact Nat.le_refl _⟩,⟨S_mv (Kd.S_mono HO172.out (fun _ hk=>⟨hk.1.1,hk.2⟩))⟩,⟨V_mv (Kd.V_mono HO_168005.out (fun _ hk=>⟨hk.1.1,⟨hk.2,hk.1.2⟩⟩))⟩,⟨blk_mv BK167.out⟩,⟨by repeat (with_reducible first | exact bmv HB.out | refine bwS ?_ GE167.out)⟩⟩
       case rest=>
        clear HC16
        try clear c6
        try clear c6b0
        try clear c8
        try clear c8b0
        try clear c9
        try clear c9b0
        try clear c11
        try clear c13
        try clear c13b0
        try clear c13b1
        try clear c14
        try clear c18
        try clear c18b0
        try clear c18b1
        try clear c20
        try clear c20b0
        try clear c20b1
        try clear c21
        try clear hx169_0
        try clear hx169_1
        try clear hx169_2
        try clear hx169_3
        try clear hx169_4
        try clear hx169_5
        try clear p169
        try clear q169
        obtain ⟨kq,x7_15,x9_15,rfl,HA,HJ15,HO_9,HO_168005,BK167,HB⟩:=hcut
        cases kq with
        | zero=>exact absurd HA.out (by simp [tree_Add.j3])
        | succ kj15=>
         have H:=HA.out
         clear HA
         simp only [tree_Add.j3] at H
         replace H:=Option.bind_eq_some_iff.mp H
         obtain ⟨⟨t176,t177,t178,t179,t180,t181⟩,A230,H⟩:=H
         replace H : (if 0≤(wrap64 (2 * x8_3)) then (if (wrap64 (2 * x8_3)) < (x9_15.length : Int) then ((heap_Path.f (wrap64 (2 * x8_3)) x7_15).bind fun bt185=>(tree_Add.l1 kj15 x8_3 (x9_15.set ((wrap64 (2 * x8_3)) : Int).toNat (⟨t176,t177,t178,t179,t180,t181⟩ : S29)) bt185.1 (bt185.1.length : Int) 0)) else (none)) else (none)) = some (r1,r2,r3):=H
         have A23:=Az.mk A230
         clear A230
         obtain ⟨ji24,hji24⟩ : ∃ j_ : Int,(wrap64 (2 * x8_3)) = j_:=⟨_,rfl⟩
         replace H : (if 0≤(ji24) then (if (ji24) < (x9_15.length : Int) then ((heap_Path.f (ji24) x7_15).bind fun bt185=>(tree_Add.l1 kj15 x8_3 (x9_15.set ((ji24) : Int).toNat (⟨t176,t177,t178,t179,t180,t181⟩ : S29)) bt185.1 (bt185.1.length : Int) 0)) else (none)) else (none)) = some (r1,r2,r3):=by first | (rw [hji24] at H;exact H) | (simp only [hji24] at H ⊢;exact H)
         (try rw [hji24] at A23)
         have hji24w : (IntKind.i64.wrap (2 * x8_3)) = ji24:=(i64_w _).trans hji24
         by_cases c25 : 0≤(ji24)
         · rw [if_pos c25] at H
           have c25b0 : decide (0≤(ji24)) = true:=decide_eq_true c25
           clear c25
           by_cases c26 : (ji24) < (x9_15.length : Int)
           · rw [if_pos c26] at H
             have c26b0 : decide ((ji24) < (x9_15.length : Int)) = true:=decide_eq_true c26
             clear c26
             obtain ⟨y184,hy184⟩ : ∃ y_ : List (S29),y_ = (x9_15.set ((ji24) : Int).toNat (⟨t176,t177,t178,t179,t180,t181⟩ : S29)):=⟨_,rfl⟩
             replace H : ((heap_Path.f (ji24) x7_15).bind fun bt185=>(tree_Add.l1 kj15 x8_3 y184 bt185.1 (bt185.1.length : Int) 0)) = some (r1,r2,r3):=by first | (rw [hy184];with_reducible exact H) | (have H2_:=(Option.bind_some _ _).symm.trans H;rw [hy184];with_reducible exact H2_) | (have H2_:=(Option.bind_some _ _).symm.trans H;with_reducible exact H2_) | with_reducible exact H | (rw [hy184];exact H) | exact H
             have Ny184:=Az.mk hy184
             clear hy184
             replace H:=Option.bind_eq_some_iff.mp H
             obtain ⟨⟨t185,t186⟩,A280,H⟩:=H
             replace H : (tree_Add.l1 kj15 x8_3 y184 t185 (t185.length : Int) 0) = some (r1,r2,r3):=H
             have A28:=Az.mk A280
             clear A280
             have H':=Az.mk H
             clear H
             have hcz29_0 : wc.cell? ⟨gb167,0,none⟩ = some (.bool a1_0):=(kC BK167.out 0).trans rfl
             have hcz29_1 : wc.cell? ⟨gb167,1,none⟩ = some (.int .i64 a1_1):=(kC BK167.out 1).trans rfl
             have hcz29_2 : wc.cell? ⟨gb167,2,none⟩ = some (.int .i64 a1_2):=(kC BK167.out 2).trans rfl
             have hcz29_3 : wc.cell? ⟨gb167,3,none⟩ = some (.int .i64 a1_3):=(kC BK167.out 3).trans rfl
             have hcz29_4 : wc.cell? ⟨gb167,4,none⟩ = some (.int .i64 a1_4):=(kC BK167.out 4).trans rfl
             have hcz29_5 : wc.cell? ⟨gb167,5,none⟩ = some (.slice A1_5 l1_5.length c1_5):=(kC BK167.out 5).trans rfl
             have hfz29_0:=kF BK167.out 0
             have hfz29_1:=kF BK167.out 1
             have hfz29_2:=kF BK167.out 2
             have hfz29_3:=kF BK167.out 3
             have hfz29_4:=kF BK167.out 4
             have hfz29_5:=kF BK167.out 5
             go_wp2_with (first | ((with_reducible refine gate_callee (f:=51) rfl ?_);refine goesL_ (some 53) rfl rfl Tryd.func51 (by kernel_rfl) rfl #[.agg #[.bool a1_0,.int .i64 a1_1,.int .i64 a1_2,.int .i64 a1_3,.int .i64 a1_4,.slice A1_5 l1_5.length c1_5]] rfl (by (try simp only [List.map_toArray,List.map_cons,List.map_nil]);first | done | rfl | (simp only [List.length_drop,List.length_take];rfl)) ?_;(with_reducible refine (tree_leafOf.calls a1_0 a1_1 a1_2 a1_3 a1_4 _ _ l1_5 t176 t177 t178 t179 t180 t181 _ ?side1 ?side2 A23.out).mono ?_);(case side1=>exact C_mv ((Kd.V_reads' HO_168005.out).2.2));(case side2=>exact (Kd.V_reads' HO_168005.out).2.1);rintro e w30 ⟨v182,rfl,ho0,hb⟩;refine ⟨_,rfl,?_⟩;obtain ⟨Av_,cv_,hv_⟩:=Kd.R_slice ho0;have HV182:=Az.mk hv_;clear hv_;have n0_:=Az.mk (Kd.S_elder' (S_mv HO_9.out) (Kd.R_base ho0) hb);have n1_:=Az.mk (Kd.V_elder' (V_mv HO_168005.out) (Kd.R_base ho0) hb);have n2_:=Az.mk (Kd.R_lower (Kd.R_newM (M:=fun k_=>(w.heap.size≤k_)) ho0 (bwZ (by repeat (with_reducible first | exact bmv HB.out | refine bwS ?_ GE167.out))) (fun k_ h_=>h_)) (bwZ (by repeat (with_reducible first | exact bmv HB.out | refine bwS ?_ GE167.out))));have n3_:=Az.mk (kB (g:=gb167) (o:=.cells #[.bool a1_0,.int .i64 a1_1,.int .i64 a1_2,.int .i64 a1_3,.int .i64 a1_4,.slice A1_5 l1_5.length c1_5] 29 (0,0)) (blk_mv BK167.out) hb);have n4_:=Az.mk (bwT (by repeat (with_reducible first | exact bmv HB.out | refine bwS ?_ GE167.out)) hb);clear HO_9;clear HO_168005;clear BK167;clear HB;have HO_9:=n0_;have HO_168005:=n1_;have HO183:=n2_;have BK167:=n3_;have HB:=n4_;clear n0_ n1_ n2_ n3_ n4_;(try clear hb);(try clear hb2);(try clear hk);(try clear hi);(try clear ho0);have p27 : 0≤((ji24) : Int):=of_decide_eq_true (by first | (with_reducible assumption) | assumption);have q27 : ((ji24) : Int) < ((x9_15.length : Int) : Int):=of_decide_eq_true (by first | (with_reducible assumption) | assumption);obtain ⟨go27,co27,eo27,gb27,gl27,cl27,HG27⟩:=Kd.S_form HO_9.out (by omega);(first | cases eo27 | (injection eo27 with ea_ en_ ec_;(first | subst ea_ | (injection ea_ with ea_;subst ea_));subst ec_;clear en_));have GB27:=Az.mk gb27;have GG27:=Az.mk HG27;clear gb27 gl27 HG27;obtain ⟨_,ce27,hcl27,hM27,hcc27,hfr27,_,_⟩:=Kd.S_elem HO_9.out z29 ((ji24) : Int) p27 q27;obtain ⟨ve27_5,rfl,ge27_5⟩:=k29_openM hM27;have hx27_0 : w30.cell? ⟨go27,((ji24) : Int).toNat * 6,none⟩ = some (.bool ((rd_T29 x9_15 (ji24)).f0)):=hcc27 0 _ rfl;have hx27_1 : w30.cell? ⟨go27,((ji24) : Int).toNat * 6 + 1,none⟩ = some (.int .i64 ((rd_T29 x9_15 (ji24)).f1)):=hcc27 1 _ rfl;have hx27_2 : w30.cell? ⟨go27,((ji24) : Int).toNat * 6 + 2,none⟩ = some (.int .i64 ((rd_T29 x9_15 (ji24)).f2)):=hcc27 2 _ rfl;have hx27_3 : w30.cell? ⟨go27,((ji24) : Int).toNat * 6 + 3,none⟩ = some (.int .i64 ((rd_T29 x9_15 (ji24)).f3)):=hcc27 3 _ rfl;have hx27_4 : w30.cell? ⟨go27,((ji24) : Int).toNat * 6 + 4,none⟩ = some (.int .i64 ((rd_T29 x9_15 (ji24)).f4)):=hcc27 4 _ rfl;have hx27_5 : w30.cell? ⟨go27,((ji24) : Int).toNat * 6 + 5,none⟩ = some (ve27_5):=hcc27 5 _ rfl;have hf27_0 : w30.frozen? ⟨go27,((ji24) : Int).toNat * 6,none⟩ = false:=hfr27 0;have hf27_1 : w30.frozen? ⟨go27,((ji24) : Int).toNat * 6 + 1,none⟩ = false:=hfr27 1;have hf27_2 : w30.frozen? ⟨go27,((ji24) : Int).toNat * 6 + 2,none⟩ = false:=hfr27 2;have hf27_3 : w30.frozen? ⟨go27,((ji24) : Int).toNat * 6 + 3,none⟩ = false:=hfr27 3;have hf27_4 : w30.frozen? ⟨go27,((ji24) : Int).toNat * 6 + 4,none⟩ = false:=hfr27 4;have hf27_5 : w30.frozen? ⟨go27,((ji24) : Int).toNat * 6 + 5,none⟩ = false:=hfr27 5;clear hcl27 hcc27 hfr27 hM27;replace p27:=eq_true p27;replace q27:=eq_true q27;have n_:=Az.mk (Kd.S_mono (ok':=(fun k_=>(w.heap.size≤k_)∧some k_≠(v182 : Value).ownBlock∧k_≠gb167)) HO_9.out (fun k_ hk=>⟨hk.1.1,⟨hk.2,hk.1.2⟩⟩));clear HO_9;have HO_9:=n_;clear n_;have HX31:=Az.mk (show Kd.S k29 29 w30 w.heap.size (fun k_=>((fun k_=>(w.heap.size≤k_)∧k_≠gb167)) k_∧¬ ((fun k_=>some k_ = (v182 : Value).ownBlock)) k_) (.slice (some ⟨go27,0,none⟩) x9_15.length co27) x9_15 from (S_mv (Kd.S_mono HO_9.out (fun k_ hk=>⟨⟨hk.1,hk.2.2⟩,fun e_=>hk.2.1 e_⟩))));obtain ⟨oki31,ce31,hcl31,hM31,hcc31,hfr31,hoki31,hH31⟩:=Kd.S_elem HX31.out z29 ((ji24) : Int) (of_decide_eq_true (by first | (with_reducible assumption) | assumption)) (by have h_ : ((ji24) : Int) < ((x9_15.length : Int) : Int):=of_decide_eq_true (by first | (with_reducible assumption) | assumption);first | exact h_ | (have e_:=(Kd.S_reads' HO_9.out).1;omega) | simpa using h_);obtain ⟨ve31_5,rfl,ge31_5⟩:=k29_openM hM31;have HP31:=Kd.S_seg hH31 (of_decide_eq_true (by first | (with_reducible assumption) | assumption)) (by have h_ : ((ji24) : Int) < ((x9_15.length : Int) : Int):=of_decide_eq_true (by first | (with_reducible assumption) | assumption);first | exact h_ | (have e_:=(Kd.S_reads' HO_9.out).1;omega) | simpa using h_) (seg:=[.bool t176,.int .i64 t177,.int .i64 t178,.int .i64 t179,.int .i64 t180,v182]) (j:=0) (show 6≤6 from by decide) (x':=(⟨t176,t177,t178,t179,t180,t181⟩ : S29)) (k29_mkM _ _ _ (⟨t176,t177,t178,t179,t180,t181⟩ : S29) (Kd.R_mono (Kd.R_tight rfl (Kd.R_mono (ok':=fun k_=>((fun k_=>(w.heap.size≤k_)∧k_≠gb167)) k_∧k_≠go27) (Kd.R_types (Kd.R_apart' (HO183.out) (Kd.S_typed HO_9.out) (by decide)) BK167.out (by decide)) (fun k_ hk=>⟨⟨hk.1.1.1,hk.2⟩,fun e_=>(hk.1.2) (by rw [e_];rfl)⟩))) (fun _ h_=>Or.inr (h_)))) (fun _ hk=>hk) (fun k_ hk_=>((Kd.R_mono (ok':=fun k_=>((fun k_=>(w.heap.size≤k_)∧k_≠gb167)) k_∧k_≠go27) (Kd.R_types (Kd.R_apart' (HO183.out) (Kd.S_typed HO_9.out) (by decide)) BK167.out (by decide)) (fun k_ hk=>⟨⟨hk.1.1.1,hk.2⟩,fun e_=>(hk.1.2) (by rw [e_];rfl)⟩))).1 k_ hk_.symm);have hx31_0:=hcc31 0 _ rfl;(try simp only [show (k29).sz = 6 from rfl,Nat.mul_one,Nat.add_zero] at hx31_0);have hf31_0:=hfr31 0;(try simp only [show (k29).sz = 6 from rfl,Nat.mul_one,Nat.add_zero] at hf31_0);have hx31_1:=hcc31 1 _ rfl;(try simp only [show (k29).sz = 6 from rfl,Nat.mul_one,Nat.add_zero] at hx31_1);have hf31_1:=hfr31 1;(try simp only [show (k29).sz = 6 from rfl,Nat.mul_one,Nat.add_zero] at hf31_1);have hx31_2:=hcc31 2 _ rfl;(try simp only [show (k29).sz = 6 from rfl,Nat.mul_one,Nat.add_zero] at hx31_2);have hf31_2:=hfr31 2;(try simp only [show (k29).sz = 6 from rfl,Nat.mul_one,Nat.add_zero] at hf31_2);have hx31_3:=hcc31 3 _ rfl;(try simp only [show (k29).sz = 6 from rfl,Nat.mul_one,Nat.add_zero] at hx31_3);have hf31_3:=hfr31 3;(try simp only [show (k29).sz = 6 from rfl,Nat.mul_one,Nat.add_zero] at hf31_3);have hx31_4:=hcc31 4 _ rfl;(try simp only [show (k29).sz = 6 from rfl,Nat.mul_one,Nat.add_zero] at hx31_4);have hf31_4:=hfr31 4;(try simp only [show (k29).sz = 6 from rfl,Nat.mul_one,Nat.add_zero] at hf31_4);have hx31_5:=hcc31 5 _ rfl;(try simp only [show (k29).sz = 6 from rfl,Nat.mul_one,Nat.add_zero] at hx31_5);have hf31_5:=hfr31 5;(try simp only [show (k29).sz = 6 from rfl,Nat.mul_one,Nat.add_zero] at hf31_5);clear hcl31 hcc31 hfr31 hM31 hoki31 hH31) | ((with_reducible refine gate_store (t:=29) (p:=54) rfl ?_);refine store_event (t:=29) (p:=54) (v:=?vo_w32) (w1:=((((((w30.setCell ⟨go27,((ji24) : Int).toNat * 6,none⟩ (.bool t176)).setCell ⟨go27,((ji24) : Int).toNat * 6 + 1,none⟩ (.int .i64 t177)).setCell ⟨go27,((ji24) : Int).toNat * 6 + 2,none⟩ (.int .i64 t178)).setCell ⟨go27,((ji24) : Int).toNat * 6 + 3,none⟩ (.int .i64 t179)).setCell ⟨go27,((ji24) : Int).toNat * 6 + 4,none⟩ (.int .i64 t180)).setCell ⟨go27,((ji24) : Int).toNat * 6 + 5,none⟩ (v182))) ?hg ?ho ?hn ?hr ?_;(case ho=>rfl);(case hg=>rfl);(case hn=>rfl);(case hr=>first | (go_simp;done) | (go_simp;rfl) | (rw [HV182.out];go_simp;done) | (rw [HV182.out];go_simp;rfl));intro w32 hw;have hg : w30.grownBy w32 (some go27):=(by rw [hw];exact HP31.2);have hp_ : Kd.S k29 29 w32 w.heap.size (fun k_=>(w.heap.size≤k_)∧k_≠gb167) (.slice (some ⟨go27,0,none⟩) x9_15.length co27) y184:=(by rw [hw,Ny184.out];exact HP31.1);clear HP31;have n0_:=Az.mk (hp_);have n1_:=Az.mk (Kd.V_afterv (v:=(.slice (some ⟨go27,0,none⟩) x9_15.length co27)) (v1:=(.slice (some ⟨go27,0,none⟩) x9_15.length co27)) (ok:=(fun k_=>(P1_5_ k_∨w.heap.size≤k_)∧some k_≠(v182 : Value).ownBlock∧k_≠gb167)) (V_mv (Kd.V_mono HO_168005.out (fun _ hk=>⟨⟨hk.1.1,⟨hk.2,hk.1.2.2⟩⟩,hk.1.2.1⟩))) hg (.inl rfl));have n2_:=Az.mk (blk_grown (g:=gb167) (o:=.cells #[.bool a1_0,.int .i64 a1_1,.int .i64 a1_2,.int .i64 a1_3,.int .i64 a1_4,.slice A1_5 l1_5.length c1_5] 29 (0,0)) (blk_mv BK167.out) hg (Kd.S_away HO_9.out (fun _ hk=>hk.2.2)));have n3_:=Az.mk ((by rw [hw];exact bwS (bwS (bwS (bwS (bwS (bwS (HB.out) GB27.out) GB27.out) GB27.out) GB27.out) GB27.out) GB27.out : Below w.heap.size w w32));clear HO_9;clear HO_168005;clear BK167;clear HB;clear HO183;have HO_9:=n0_;have HO_168005:=n1_;have BK167:=n2_;have HB:=n3_;clear n0_ n1_ n2_ n3_;clear hg hw hp_) | ((with_reducible refine gate_callee (f:=52) rfl ?_);refine goesL_ (some 59) rfl rfl Tryd.func52 (by kernel_rfl) rfl #[.int .i64 ji24,.int .i64 x7_15] rfl (by (try simp only [List.map_toArray,List.map_cons,List.map_nil]);first | done | (simp only [hji24];rfl) | rfl | (simp only [List.length_drop,List.length_take];rfl)) ?_;(with_reducible refine (heap_Path.calls (hrG:=?sideG) ji24 x7_15 t185 t186 _ A28.out).mono ?_);(case sideG=>(first | (with_reducible exact HRG.out) | exact TabG.below HRG.out (by repeat (first | (with_reducible first | exact HB.out | apply bwA | apply bwN | apply bw1 | refine bwS ?_ GE167.out) | (with_reducible exact Below.refl _ _)))));rintro e w33 ⟨v187,rfl,ho0,hb⟩;refine ⟨_,rfl,?_⟩;have n0_:=Az.mk (Kd.S_elder' (S_mv HO_9.out) (Kd.R_base ho0) hb);have n1_:=Az.mk (Kd.V_elder' (V_mv HO_168005.out) (Kd.R_base ho0) hb);have n2_:=Az.mk (Kd.R_lower (Kd.R_newM (M:=fun k_=>(w.heap.size≤k_)) ho0 (bwZ (by repeat (with_reducible first | exact bmv HB.out | refine bwS ?_ GE167.out))) (fun k_ h_=>h_)) (bwZ (by repeat (with_reducible first | exact bmv HB.out | refine bwS ?_ GE167.out))));have n3_:=Az.mk (kB (g:=gb167) (o:=.cells #[.bool a1_0,.int .i64 a1_1,.int .i64 a1_2,.int .i64 a1_3,.int .i64 a1_4,.slice A1_5 l1_5.length c1_5] 29 (0,0)) (blk_mv BK167.out) hb);have n4_:=Az.mk (bwT (by repeat (with_reducible first | exact bmv HB.out | refine bwS ?_ GE167.out)) hb);clear HO_9;clear HO_168005;clear BK167;clear HB;have HO_9:=n0_;have HO_168005:=n1_;have HO188:=n2_;have BK167:=n3_;have HB:=n4_;clear n0_ n1_ n2_ n3_ n4_;(try clear hb);(try clear hb2);(try clear hk);(try clear hi);(try clear ho0);obtain ⟨Ao34,co34,eo34⟩:=Kd.R_slice HO188.out;subst eo34))
             go_loopg [64] kj15 (fun kq v64 w'=>∃ (x9_4 : List (S29)) (x64_4 : Int) (x168005_4 : List Int) (u168005 : Value),v64 = .int .i64 x64_4∧Az (tree_Add.l1 kq x8_3 x9_4 t185 (t185.length : Int) x64_4 = some (r1,r2,r3))∧Az (kq≤kj15)∧Az (Kd.S k29 29 w' w.heap.size (fun k_=>(w.heap.size≤k_)∧some k_≠((.slice Ao34 t185.length co34) : Value).ownBlock∧k_≠gb167) (.slice (some ⟨go27,0,none⟩) x9_15.length co27) x9_4)∧Az (Kd.R (Kd.int .i64) 3 w' w.heap.size (fun k_=>(w.heap.size≤k_)) (.slice Ao34 t185.length co34) t185)∧Az (w'.heap[gb167]? = some (.cells #[.bool a1_0,.int .i64 a1_1,.int .i64 a1_2,.int .i64 a1_3,.int .i64 a1_4,u168005] 29 (0,0)))∧Az (Below w.heap.size w w'))
             case atStart=>exact ⟨(y184),(0),(l1_5),(.slice A1_5 l1_5.length c1_5),(by first | rfl | (simp;done) | (simp [*];done)),H',⟨Nat.le_refl _⟩,⟨S_mv (Kd.S_mono HO_9.out (fun _ hk=>⟨hk.1.1,⟨hk.2,hk.1.2⟩⟩))⟩,⟨R_mv (Kd.R_mono HO188.out (fun _ hk=>hk.1))⟩,⟨blk_mv BK167.out⟩,⟨by repeat (with_reducible first | exact bmv HB.out | refine bwS ?_ GE167.out)⟩⟩
             case round=>
              clear H'
              try clear c6
              try clear c6b0
              try clear c8
              try clear c8b0
              try clear c9
              try clear c9b0
              try clear c11
              try clear c13
              try clear c13b0
              try clear c13b1
              try clear c14
              try clear c18
              try clear c18b0
              try clear c18b1
              try clear c20
              try clear c20b0
              try clear c20b1
              try clear c21
              try clear c25
              try clear c25b0
              try clear c26
              try clear c26b0
              try clear p27
              try clear q27
              try clear hcz29_0
              try clear hcz29_1
              try clear hcz29_2
              try clear hcz29_3
              try clear hcz29_4
              try clear hcz29_5
              try clear hfz29_0
              try clear hfz29_1
              try clear hfz29_2
              try clear hfz29_3
              try clear hfz29_4
              try clear hfz29_5
              try clear hx169_0
              try clear hx169_1
              try clear hx169_2
              try clear hx169_3
              try clear hx169_4
              try clear hx169_5
              try clear hx27_0
              try clear hx27_1
              try clear hx27_2
              try clear hx27_3
              try clear hx27_4
              try clear hx27_5
              try clear hx31_0
              try clear hx31_1
              try clear hx31_2
              try clear hx31_3
              try clear hx31_4
              try clear hx31_5
              try clear p169
              try clear p27
              try clear q169
              try clear q27
              obtain ⟨x9_4,x64_4,x168005_4,u168005,rfl,HA,HK4,HO_9,HO_62,BK167,HB⟩:=hrel
              have hl9_4:=(Kd.S_reads' HO_9.out).1
              rw [hl9_4] at HO_9
              (try simp only [hl9_4])
              (try simp only [hl9_4] at BK167)
              (try simp only [hl9_4] at HO_62)
              cases gk with
              | zero=>exact absurd HA.out (by simp [tree_Add.l1])
              | succ k4=>
               have H:=HA.out
               clear HA
               simp only [tree_Add.l1] at H
               by_cases c35 : x64_4 < (t185.length : Int)
               · rw [if_pos c35] at H
                 have c35b0 : decide (x64_4 < (t185.length : Int)) = true:=decide_eq_true c35
                 clear c35
                 by_cases c36 : 0≤x64_4
                 · rw [if_pos c36] at H
                   have c36b0 : decide (0≤x64_4) = true:=decide_eq_true c36
                   clear c36
                   by_cases c37 : x64_4 < (t185.length : Int)
                   · rw [if_pos c37] at H
                     have c37b0 : decide (x64_4 < (t185.length : Int)) = true:=decide_eq_true c37
                     clear c37
                     by_cases c38 : 0≤(rd t185 x64_4)
                     · rw [if_pos c38] at H
                       have c38b0 : decide (0≤(rd t185 x64_4)) = true:=decide_eq_true c38
                       clear c38
                       by_cases c39 : (rd t185 x64_4) < (x9_4.length : Int)
                       · rw [if_pos c39] at H
                         have c39b0 : decide ((rd t185 x64_4) < (x9_4.length : Int)) = true:=decide_eq_true c39
                         clear c39
                         obtain ⟨bq40,hbq40⟩ : ∃ b_ : Bool,b_ = ((rd_T29 x9_4 (rd t185 x64_4)).f0):=⟨_,rfl⟩
                         replace H : (if bq40 = true then ((sBS.f ((rd_T29 x9_4 (rd t185 x64_4)).f5) x8_3).bind fun bt192=>((sIn.f ((rd_T29 x9_4 (rd t185 x64_4)).f5) bt192.1 (([x8_3] : List Int))).bind fun t198=>(tree_Add.l1 k4 x8_3 (x9_4.set ((rd t185 x64_4) : Int).toNat (⟨bq40,(rd_T29 x9_4 (rd t185 x64_4)).f1,(rd_T29 x9_4 (rd t185 x64_4)).f2,(rd_T29 x9_4 (rd t185 x64_4)).f3,(rd_T29 x9_4 (rd t185 x64_4)).f4,t198⟩ : S29)) t185 (t185.length : Int) (wrap64 (x64_4 + 1))))) else (tree_Add.l1 k4 x8_3 x9_4 t185 (t185.length : Int) (wrap64 (x64_4 + 1)))) = some (r1,r2,r3):=by rw [← hbq40] at H;exact H
                         have Nbq40:=Az.mk hbq40
                         clear hbq40
                         by_cases c41 : bq40 = true
                         · subst c41
                           have H1 : ((sBS.f ((rd_T29 x9_4 (rd t185 x64_4)).f5) x8_3).bind fun bt192=>((sIn.f ((rd_T29 x9_4 (rd t185 x64_4)).f5) bt192.1 (([x8_3] : List Int))).bind fun t198=>(tree_Add.l1 k4 x8_3 (x9_4.set ((rd t185 x64_4) : Int).toNat (⟨true,(rd_T29 x9_4 (rd t185 x64_4)).f1,(rd_T29 x9_4 (rd t185 x64_4)).f2,(rd_T29 x9_4 (rd t185 x64_4)).f3,(rd_T29 x9_4 (rd t185 x64_4)).f4,t198⟩ : S29)) t185 (t185.length : Int) (wrap64 (x64_4 + 1))))) = some (r1,r2,r3):=by rw [if_pos rfl] at H;exact H
                           clear H
                           have H:=H1
                           clear H1
                           replace H:=Option.bind_eq_some_iff.mp H
                           obtain ⟨⟨t192,t193⟩,A420,H⟩:=H
                           replace H : ((sIn.f ((rd_T29 x9_4 (rd t185 x64_4)).f5) t192 (([x8_3] : List Int))).bind fun t198=>(tree_Add.l1 k4 x8_3 (x9_4.set ((rd t185 x64_4) : Int).toNat (⟨true,(rd_T29 x9_4 (rd t185 x64_4)).f1,(rd_T29 x9_4 (rd t185 x64_4)).f2,(rd_T29 x9_4 (rd t185 x64_4)).f3,(rd_T29 x9_4 (rd t185 x64_4)).f4,t198⟩ : S29)) t185 (t185.length : Int) (wrap64 (x64_4 + 1)))) = some (r1,r2,r3):=H
                           have A42:=Az.mk A420
                           clear A420
                           obtain ⟨y195,hy195⟩ : ∃ y_ : List Int,y_ = (([x8_3] : List Int)):=⟨_,rfl⟩
                           replace H : ((sIn.f ((rd_T29 x9_4 (rd t185 x64_4)).f5) t192 y195).bind fun t198=>(tree_Add.l1 k4 x8_3 (x9_4.set ((rd t185 x64_4) : Int).toNat (⟨true,(rd_T29 x9_4 (rd t185 x64_4)).f1,(rd_T29 x9_4 (rd t185 x64_4)).f2,(rd_T29 x9_4 (rd t185 x64_4)).f3,(rd_T29 x9_4 (rd t185 x64_4)).f4,t198⟩ : S29)) t185 (t185.length : Int) (wrap64 (x64_4 + 1)))) = some (r1,r2,r3):=by first | (rw [hy195];with_reducible exact H) | (have H2_:=(Option.bind_some _ _).symm.trans H;rw [hy195];with_reducible exact H2_) | (have H2_:=(Option.bind_some _ _).symm.trans H;with_reducible exact H2_) | with_reducible exact H | (rw [hy195];exact H) | exact H
                           have Ny195:=Az.mk hy195
                           clear hy195
                           replace H:=Option.bind_eq_some_iff.mp H
                           obtain ⟨t198,A430,H⟩:=H
                           replace H : (tree_Add.l1 k4 x8_3 (x9_4.set ((rd t185 x64_4) : Int).toNat (⟨true,(rd_T29 x9_4 (rd t185 x64_4)).f1,(rd_T29 x9_4 (rd t185 x64_4)).f2,(rd_T29 x9_4 (rd t185 x64_4)).f3,(rd_T29 x9_4 (rd t185 x64_4)).f4,t198⟩ : S29)) t185 (t185.length : Int) (wrap64 (x64_4 + 1))) = some (r1,r2,r3):=H
                           have A43:=Az.mk A430
                           clear A430
                           obtain ⟨y201,hy201⟩ : ∃ y_ : List (S29),y_ = (x9_4.set ((rd t185 x64_4) : Int).toNat (⟨true,(rd_T29 x9_4 (rd t185 x64_4)).f1,(rd_T29 x9_4 (rd t185 x64_4)).f2,(rd_T29 x9_4 (rd t185 x64_4)).f3,(rd_T29 x9_4 (rd t185 x64_4)).f4,t198⟩ : S29)):=⟨_,rfl⟩
                           replace H : (tree_Add.l1 k4 x8_3 y201 t185 (t185.length : Int) (wrap64 (x64_4 + 1))) = some (r1,r2,r3):=by first | (rw [hy201];with_reducible exact H) | (have H2_:=(Option.bind_some _ _).symm.trans H;rw [hy201];with_reducible exact H2_) | (have H2_:=(Option.bind_some _ _).symm.trans H;with_reducible exact H2_) | with_reducible exact H | (rw [hy201];exact H) | exact H
                           have Ny201:=Az.mk hy201
                           clear hy201
                           have H':=Az.mk H
                           clear H
                           have p189 : 0≤(x64_4 : Int):=of_decide_eq_true (by first | (with_reducible assumption) | assumption)
                           have q189 : x64_4 < (t185.length : Int):=of_decide_eq_true (by first | (with_reducible assumption) | assumption)
                           obtain ⟨ad189,e189,hx189_0⟩:=Kd.at_int (Kd.R_reads' HO_62.out).2.2 x64_4 p189 q189
                           cases e189
                           replace p189:=eq_true p189
                           replace q189:=eq_true q189
                           have p190 : 0≤((rd t185 x64_4) : Int):=of_decide_eq_true (by first | (with_reducible assumption) | assumption)
                           have q190 : (rd t185 x64_4) < (x9_4.length : Int):=of_decide_eq_true (by first | (with_reducible assumption) | assumption)
                           obtain ⟨ad190,A190_5,c190_5,e190,hx190_0,hx190_1,hx190_2,hx190_3,hx190_4,hx190_5,hl190_5,hi190_5⟩:=at_T29 (Kd.S_reads' HO_9.out).2.2 (rd t185 x64_4) p190 q190
                           (try rw [← Nbq40.out] at hx190_0)
                           obtain rfl : (⟨go27,0,none⟩ : Addr) = ad190:=(by injection e190)
                           obtain ⟨ce190,hce190,hMe190,hcc190⟩:=Kd.S_get HO_9.out z29 (rd t185 x64_4) p190 (by first | exact q190 | exact of_decide_eq_true (by first | (with_reducible assumption) | assumption) | (have e_:=(Kd.S_reads' HO_9.out).1;omega))
                           obtain ⟨ve190_5,rfl,ge190_5⟩:=k29_openM hMe190
                           have hv190_5:=hcc190 5 _ rfl
                           rw [add_field _ _ 5 (by omega)] at hv190_5
                           replace hv190_5:=Option.some.inj (hv190_5.symm.trans hx190_5)
                           rw [hv190_5] at ge190_5
                           have HL190_5:=Az.mk (show Kd.R (Kd.int .i64) 3 _ _ _ _ ((rd_T29 x9_4 (rd t185 x64_4)).f5) from ge190_5)
                           clear hv190_5 ge190_5
                           clear hcc190 hce190
                           (first | simp only [add_plain] at hx190_0 | simp only [add_at] at hx190_0 | simp only [Addr.add,Nat.zero_add] at hx190_0 | skip)
                           (first | simp only [add_plain] at hx190_1 | simp only [add_at] at hx190_1 | simp only [Addr.add,Nat.zero_add] at hx190_1 | skip)
                           (first | simp only [add_plain] at hx190_2 | simp only [add_at] at hx190_2 | simp only [Addr.add,Nat.zero_add] at hx190_2 | skip)
                           (first | simp only [add_plain] at hx190_3 | simp only [add_at] at hx190_3 | simp only [Addr.add,Nat.zero_add] at hx190_3 | skip)
                           (first | simp only [add_plain] at hx190_4 | simp only [add_at] at hx190_4 | simp only [Addr.add,Nat.zero_add] at hx190_4 | skip)
                           (first | simp only [add_plain] at hx190_5 | simp only [add_at] at hx190_5 | simp only [Addr.add,Nat.zero_add] at hx190_5 | skip)
                           have HR190_5:=Az.mk hi190_5
                           have HC190_5:=Az.mk hl190_5
                           clear hi190_5 hl190_5
                           replace p190:=eq_true p190
                           replace q190:=eq_true q190
                           have p191 : 0≤((rd t185 x64_4) : Int):=of_decide_eq_true (by first | (with_reducible assumption) | assumption)
                           have q191 : (rd t185 x64_4) < (x9_4.length : Int):=of_decide_eq_true (by first | (with_reducible assumption) | assumption)
                           obtain ⟨ad191,A191_5,c191_5,e191,hx191_0,hx191_1,hx191_2,hx191_3,hx191_4,hx191_5,hl191_5,hi191_5⟩:=at_T29 (Kd.S_reads' HO_9.out).2.2 (rd t185 x64_4) p191 q191
                           (try rw [← Nbq40.out] at hx191_0)
                           obtain rfl : (⟨go27,0,none⟩ : Addr) = ad191:=(by injection e191)
                           obtain ⟨ce191,hce191,hMe191,hcc191⟩:=Kd.S_get HO_9.out z29 (rd t185 x64_4) p191 (by first | exact q191 | exact of_decide_eq_true (by first | (with_reducible assumption) | assumption) | (have e_:=(Kd.S_reads' HO_9.out).1;omega))
                           obtain ⟨ve191_5,rfl,ge191_5⟩:=k29_openM hMe191
                           have hv191_5:=hcc191 5 _ rfl
                           rw [add_field _ _ 5 (by omega)] at hv191_5
                           replace hv191_5:=Option.some.inj (hv191_5.symm.trans hx191_5)
                           rw [hv191_5] at ge191_5
                           have HL191_5:=Az.mk (show Kd.R (Kd.int .i64) 3 _ _ _ _ ((rd_T29 x9_4 (rd t185 x64_4)).f5) from ge191_5)
                           clear hv191_5 ge191_5
                           clear hcc191 hce191
                           (first | simp only [add_plain] at hx191_0 | simp only [add_at] at hx191_0 | simp only [Addr.add,Nat.zero_add] at hx191_0 | skip)
                           (first | simp only [add_plain] at hx191_1 | simp only [add_at] at hx191_1 | simp only [Addr.add,Nat.zero_add] at hx191_1 | skip)
                           (first | simp only [add_plain] at hx191_2 | simp only [add_at] at hx191_2 | simp only [Addr.add,Nat.zero_add] at hx191_2 | skip)
                           (first | simp only [add_plain] at hx191_3 | simp only [add_at] at hx191_3 | simp only [Addr.add,Nat.zero_add] at hx191_3 | skip)
                           (first | simp only [add_plain] at hx191_4 | simp only [add_at] at hx191_4 | simp only [Addr.add,Nat.zero_add] at hx191_4 | skip)
                           (first | simp only [add_plain] at hx191_5 | simp only [add_at] at hx191_5 | simp only [Addr.add,Nat.zero_add] at hx191_5 | skip)
                           have HR191_5:=Az.mk hi191_5
                           have HC191_5:=Az.mk hl191_5
                           clear hi191_5 hl191_5
                           replace p191:=eq_true p191
                           replace q191:=eq_true q191
                           have ea_:=Option.some.inj (hx190_5.symm.trans hx191_5)
                           injection ea_ with ea_ en_ ec_
                           subst ea_
                           subst ec_
                           clear en_
                           go_wp2_with (first | ((with_reducible refine gate_callee (f:=53) rfl ?_);refine goesL_ (some 80) rfl rfl Tryd.func53 (by kernel_rfl) rfl #[.slice A190_5 ((rd_T29 x9_4 (rd t185 x64_4)).f5).length c190_5,.int .i64 x8_3] rfl (by (try simp only [List.map_toArray,List.map_cons,List.map_nil]);first | done | rfl | (simp only [List.length_drop,List.length_take];rfl)) ?_;(with_reducible refine (sBS.calls _ _ ((rd_T29 x9_4 (rd t185 x64_4)).f5) x8_3 t192 t193 _ _ _ HL190_5.out A42.out).mono ?_);rintro e w' ⟨rfl,⟨nd,rfl⟩⟩;refine ⟨_,rfl,?_⟩;have p194 : 0≤((rd t185 x64_4) : Int):=of_decide_eq_true (by first | (with_reducible assumption) | assumption);have q194 : (rd t185 x64_4) < (x9_4.length : Int):=of_decide_eq_true (by first | (with_reducible assumption) | assumption);obtain ⟨ad194,A194_5,c194_5,e194,hx194_0,hx194_1,hx194_2,hx194_3,hx194_4,hx194_5,hl194_5,hi194_5⟩:=at_T29 (Kd.S_reads' HO_9.out).2.2 (rd t185 x64_4) p194 q194;(try rw [← Nbq40.out] at hx194_0);obtain rfl : (⟨go27,0,none⟩ : Addr) = ad194:=(by injection e194);obtain ⟨ce194,hce194,hMe194,hcc194⟩:=Kd.S_get HO_9.out z29 (rd t185 x64_4) p194 (by first | exact q194 | exact of_decide_eq_true (by first | (with_reducible assumption) | assumption) | (have e_:=(Kd.S_reads' HO_9.out).1;omega));obtain ⟨ve194_5,rfl,ge194_5⟩:=k29_openM hMe194;have hv194_5:=hcc194 5 _ rfl;rw [add_field _ _ 5 (by omega)] at hv194_5;replace hv194_5:=Option.some.inj (hv194_5.symm.trans hx194_5);rw [hv194_5] at ge194_5;have HL194_5:=Az.mk (show Kd.R (Kd.int .i64) 3 _ _ _ _ ((rd_T29 x9_4 (rd t185 x64_4)).f5) from ge194_5);clear hv194_5 ge194_5;clear hcc194 hce194;(first | simp only [add_plain] at hx194_0 | simp only [add_at] at hx194_0 | simp only [Addr.add,Nat.zero_add] at hx194_0 | skip);(first | simp only [add_plain] at hx194_1 | simp only [add_at] at hx194_1 | simp only [Addr.add,Nat.zero_add] at hx194_1 | skip);(first | simp only [add_plain] at hx194_2 | simp only [add_at] at hx194_2 | simp only [Addr.add,Nat.zero_add] at hx194_2 | skip);(first | simp only [add_plain] at hx194_3 | simp only [add_at] at hx194_3 | simp only [Addr.add,Nat.zero_add] at hx194_3 | skip);(first | simp only [add_plain] at hx194_4 | simp only [add_at] at hx194_4 | simp only [Addr.add,Nat.zero_add] at hx194_4 | skip);(first | simp only [add_plain] at hx194_5 | simp only [add_at] at hx194_5 | simp only [Addr.add,Nat.zero_add] at hx194_5 | skip);have HR194_5:=Az.mk hi194_5;have HC194_5:=Az.mk hl194_5;clear hi194_5 hl194_5;replace p194:=eq_true p194;replace q194:=eq_true q194;have ea_:=Option.some.inj (hx190_5.symm.trans hx194_5);injection ea_ with ea_ en_ ec_;subst ea_;subst ec_;clear en_) | ((with_reducible refine gate_dst (N:=92) rfl ?_);refine Kd.R_lit (Kd.int .i64) _ 3 ?hg (N:=92) ?hd (xs:=([x8_3] : List Int)) (inner:=[.int .i64 x8_3]) (ok:=fun _=>True) (okp:=fun _=>True) ?hr ?hp (fun _ hk=>hk) trivial (Below.refl _ _) (Nat.le_refl _) (by simp) ?_;(case hd=>rfl);(case hg=>rfl);(case hr=>first | (go_simp;done) | (go_simp;rfl));(case hp=>exact (Reps.one (show Kd.M (Kd.int .i64) _ _ _ x8_3 [.int .i64 x8_3] from rfl) (Reps.none _ _)));intro v196 w45 ho46 hb hg_ hnew_;clear hg_ hnew_;(first | rw [← Ny195.out] at ho46 | (simp only [Int.reduceToNat] at ho46;rw [← Ny195.out] at ho46));have hb2 : Below wr.heap.size wr w45:=⟨hb.os,hb.tape,hb.output,hb.size,hb.block⟩;have hbs_ : ∀ k_,_ = some k_→wr.heap.size≤k_:=Kd.R_base ho46;have n0_:=Az.mk (Kd.S_elder' HO_9.out hbs_ hb2);have n1_:=Az.mk (Kd.R_elder' HO_62.out hbs_ hb2);have n3_:=Az.mk (Kd.R_elder' HL190_5.out hbs_ hb2);have n6_:=Az.mk (Kd.R_lower ho46 (by exact (bwZ HB.out : w.heap.size≤wr.heap.size)));have n7_:=Az.mk ((hb2.block _ (blk_lt BK167.out)).trans BK167.out);have n11_:=Az.mk (bwT HB.out hb2);have LX5:=Az.mk ((hb2.cell (World.block_lt_of_cell? _ _ hx194_5)).trans hx194_5);clear HO_9 HO_62 HL190_5 BK167 HB;have HO_9:=n0_;have HO_62:=n1_;have HL190_5:=n3_;have HO197:=n6_;have BK167:=n7_;have HB:=n11_;clear n0_ n1_ n3_ n6_ n7_ n11_ hb2 hbs_;clear hb ho46;obtain ⟨Ao47,co47,eo47⟩:=Kd.R_slice HO197.out;subst eo47) | ((with_reducible refine gate_callee (f:=54) rfl ?_);refine goesL_ (some 93) rfl rfl Tryd.func54 (by kernel_rfl) rfl #[.slice A190_5 ((rd_T29 x9_4 (rd t185 x64_4)).f5).length c190_5,.int .i64 t192,.slice Ao47 y195.length co47] rfl (by (try simp only [List.map_toArray,List.map_cons,List.map_nil]);first | done | rfl | (simp only [List.length_drop,List.length_take];rfl)) ?_;(with_reducible refine (sIn.calls _ _ ((rd_T29 x9_4 (rd t185 x64_4)).f5) t192 _ _ y195 t198 _ w.heap.size w.heap.size _ _ HL190_5.out HO197.out ?side3 ?side4 A43.out).mono ?_);(case side3=>exact fun k_ e_ e2_=>(HL190_5.out.1 k_ e2_.symm).2 e_.symm);(case side4=>exact (bwZ (by repeat (with_reducible first | exact bmv HB.out | refine bwS ?_ GE167.out))));rintro e w48 ⟨v199,rfl,ho0,hg⟩;refine ⟨_,rfl,?_⟩;obtain ⟨Av_,cv_,rfl⟩:=Kd.R_slice ho0;have li0_ : 0≤((rd t185 x64_4) : Int):=of_decide_eq_true (by first | (with_reducible assumption) | assumption);have li1_ : ((rd t185 x64_4) : Int) < ((x9_4.length : Int) : Int):=of_decide_eq_true (by first | (with_reducible assumption) | assumption);have LP:=Az.mk (late_put (ok:=fun k_=>(w.heap.size≤k_)∧some k_≠(.slice (some ad189) t185.length co34 : Value).ownBlock∧k_≠gb167) (Kd.S_mono HO_9.out (fun _ hk=>⟨hk.1.1,⟨hk.1.2.1,hk.1.2.2⟩⟩)) (rd t185 x64_4) li0_ li1_ LX5.out (fun k_ hk_=>⟨Nat.le_trans (bwZ (by repeat (with_reducible first | exact bmv HB.out | refine bwS ?_ GE167.out))) hk_,⟨fun e_=>by have:=Kd.R_lt HO_62.out k_ e_.symm;omega,fun e_=>by have:=blk_lt BK167.out;omega⟩⟩) hg ho0);have hc_:=LP.out.1;have hf_:=LP.out.2.1;replace li0_:=eq_true li0_;replace li1_:=eq_true li1_;clear ho0 hg))
                           (try simp only [← hl9_4])
                           go_roundg k4
                           case measure=>have:=HJ3.out;have:=HJ11.out;have:=HJ15.out;have:=HK4.out;omega
                           case rel=>exact ⟨(y201),(wrap64 (x64_4 + 1)),(x168005_4),(u168005),(by first | rfl | (simp;done) | (simp [*];done)),H',⟨by have:=HJ3.out;have:=HJ11.out;have:=HJ15.out;have:=HK4.out;omega⟩,⟨by (try simp only [hl9_4]);have h_:=LP.out.2.2.1;rw [← Nbq40.out] at h_;rw [Ny201.out];exact h_⟩,⟨Kd.R_mono (Kd.R_step (Kd.R_tight rfl HO_62.out) (fun k hk hlt=>LP.out.2.2.2.1 k hlt (fun hok=>hok.2.1 hk))) (fun k hk=>(HO_62.out.1 k hk.symm).1)⟩,⟨(LP.out.2.2.2.1 gb167 (blk_lt BK167.out) (fun hok=>hok.2.2 rfl)).trans BK167.out⟩,⟨HB.out.trans LP.out.2.2.2.2⟩⟩
                         · replace c41:=Bool.eq_false_iff.mpr c41
                           subst c41
                           have H1 : (tree_Add.l1 k4 x8_3 x9_4 t185 (t185.length : Int) (wrap64 (x64_4 + 1))) = some (r1,r2,r3):=by rw [if_neg (show ¬ (false = true) by decide)] at H;exact H
                           clear H
                           have H:=H1
                           clear H1
                           have H':=Az.mk H
                           clear H
                           have p189 : 0≤(x64_4 : Int):=of_decide_eq_true (by first | (with_reducible assumption) | assumption)
                           have q189 : x64_4 < (t185.length : Int):=of_decide_eq_true (by first | (with_reducible assumption) | assumption)
                           obtain ⟨ad189,e189,hx189_0⟩:=Kd.at_int (Kd.R_reads' HO_62.out).2.2 x64_4 p189 q189
                           cases e189
                           replace p189:=eq_true p189
                           replace q189:=eq_true q189
                           have p190 : 0≤((rd t185 x64_4) : Int):=of_decide_eq_true (by first | (with_reducible assumption) | assumption)
                           have q190 : (rd t185 x64_4) < (x9_4.length : Int):=of_decide_eq_true (by first | (with_reducible assumption) | assumption)
                           obtain ⟨ad190,A190_5,c190_5,e190,hx190_0,hx190_1,hx190_2,hx190_3,hx190_4,hx190_5,hl190_5,hi190_5⟩:=at_T29 (Kd.S_reads' HO_9.out).2.2 (rd t185 x64_4) p190 q190
                           (try rw [← Nbq40.out] at hx190_0)
                           obtain rfl : (⟨go27,0,none⟩ : Addr) = ad190:=(by injection e190)
                           obtain ⟨ce190,hce190,hMe190,hcc190⟩:=Kd.S_get HO_9.out z29 (rd t185 x64_4) p190 (by first | exact q190 | exact of_decide_eq_true (by first | (with_reducible assumption) | assumption) | (have e_:=(Kd.S_reads' HO_9.out).1;omega))
                           obtain ⟨ve190_5,rfl,ge190_5⟩:=k29_openM hMe190
                           have hv190_5:=hcc190 5 _ rfl
                           rw [add_field _ _ 5 (by omega)] at hv190_5
                           replace hv190_5:=Option.some.inj (hv190_5.symm.trans hx190_5)
                           rw [hv190_5] at ge190_5
                           have HL190_5:=Az.mk (show Kd.R (Kd.int .i64) 3 _ _ _ _ ((rd_T29 x9_4 (rd t185 x64_4)).f5) from ge190_5)
                           clear hv190_5 ge190_5
                           clear hcc190 hce190
                           (first | simp only [add_plain] at hx190_0 | simp only [add_at] at hx190_0 | simp only [Addr.add,Nat.zero_add] at hx190_0 | skip)
                           (first | simp only [add_plain] at hx190_1 | simp only [add_at] at hx190_1 | simp only [Addr.add,Nat.zero_add] at hx190_1 | skip)
                           (first | simp only [add_plain] at hx190_2 | simp only [add_at] at hx190_2 | simp only [Addr.add,Nat.zero_add] at hx190_2 | skip)
                           (first | simp only [add_plain] at hx190_3 | simp only [add_at] at hx190_3 | simp only [Addr.add,Nat.zero_add] at hx190_3 | skip)
                           (first | simp only [add_plain] at hx190_4 | simp only [add_at] at hx190_4 | simp only [Addr.add,Nat.zero_add] at hx190_4 | skip)
                           (first | simp only [add_plain] at hx190_5 | simp only [add_at] at hx190_5 | simp only [Addr.add,Nat.zero_add] at hx190_5 | skip)
                           have HR190_5:=Az.mk hi190_5
                           have HC190_5:=Az.mk hl190_5
                           clear hi190_5 hl190_5
                           replace p190:=eq_true p190
                           replace q190:=eq_true q190
                           go_wp2
                           (try simp only [← hl9_4])
                           go_roundg k4
                           case measure=>have:=HJ3.out;have:=HJ11.out;have:=HJ15.out;have:=HK4.out;omega
                           case rel=>exact ⟨(x9_4),(wrap64 (x64_4 + 1)),(x168005_4),(u168005),(by first | rfl | (simp;done) | (simp [*];done)),H',⟨by have:=HJ3.out;have:=HJ11.out;have:=HJ15.out;have:=HK4.out;omega⟩,⟨by (try simp only [hl9_4]);(with_reducible repeat (first | apply Kd.S_alloc | apply Kd.S_drewN | apply Kd.S_drew));exact HO_9.out⟩,⟨by (try simp only [hl9_4]);(with_reducible repeat (first | apply Kd.R_alloc | apply Kd.R_drewN | apply Kd.R_drew));exact HO_62.out⟩,⟨by (try simp only [hl9_4]);(with_reducible repeat (first | refine kN ?_ _ | refine kD ?_ | refine kA ?_ _));exact BK167.out⟩,⟨by repeat (with_reducible first | exact bmv HB.out | refine bwS ?_ GE167.out)⟩⟩
                       · rw [if_neg c39] at H
                         exact absurd H (by simp)
                     · rw [if_neg c38] at H
                       exact absurd H (by simp)
                   · rw [if_neg c37] at H
                     exact absurd H (by simp)
                 · rw [if_neg c36] at H
                   exact absurd H (by simp)
               · rw [if_neg c35] at H
                 have c35b0 : decide (x64_4 < (t185.length : Int)) = false:=decide_eq_false c35
                 clear c35
                 simp only [Option.some.injEq,Prod.mk.injEq] at H
                 obtain ⟨rfl,rfl,rfl⟩:=H
                 go_wp2
                 go_ret3
                 exact ⟨_,by first | rfl | (simp [errW_none,errW_some] <;> rfl) | (simp only [← hji24];first | rfl | (simp [errW_none,errW_some] <;> rfl)) | (simp [*,errW_none,errW_some] <;> rfl),S_mv (Kd.S_mono HO_9.out (fun _ hk=>hk.1)),by repeat (with_reducible first | exact bmv HB.out | refine bwS ?_ GE167.out)⟩
           · rw [if_neg c26] at H
             exact absurd H (by simp)
         · rw [if_neg c25] at H
           exact absurd H (by simp)
end Go.Proofs.YtbblomnhobodkaaDoor.PTw
