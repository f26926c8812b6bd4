/- What this claim reaches of longer texts of this session. -/
import Derived.Test.YtbblomnhobodkaaDoorPTwx0
import Derived.Test.YtbblomnhobodkaaDoorPTwx1
import Derived.Test.YtbblomnhobodkaaDoorPTwx2
import Derived.Shelf.Spec.TrailingZeros
import Derived.Lib.ItoaNum
import Derived.Lib.LaidTab
import Derived.Laws.Bits64
import Derived.Lib.Hide
import Derived.RangeFuncBox
import Derived.Maps.AppendAt
import Derived.Lib.SliceRun
import Derived.Shelf.Spec.SlicesInsert
import Derived.Shelf.Spec.SlicesInsertGrow
import Derived.Deep.DeepCutAuto
namespace Go.Proofs.YtbblomnhobodkaaDoor.PTw
open Go.RowKit Go.Proofs.YtbblomnhobodkaaDoorW.PW Go.Proofs.YtbblomnhobodkaaDoorW.PL Go.Proofs.YtbblomnhobodkaaDoorW.PM
attribute [local go_sem] max2_int min2_int max_two min_two max_three min_three max_four min_four   -- for this text's walks alone
set_option linter.unusedVariables false
set_option linter.unusedSimpArgs false
mutual
def tree_Check.j0 : Nat→List (S29)→Bool→Option (Bool)
 | 0,_,_=>none
 | k + 1,x0,x18=>if x18 = true then (some false) else (tree_Check.l0 k x0 (x0.length : Int) 0)
def tree_Check.l0 : Nat→List (S29)→Int→Int→Option (Bool)
 | 0,_,_,_=>none
 | k + 1,x0,x20,x21=>if x21 < x20 then ((tree_vertex.f k x0 x21).bind fun t122=>(if t122 = true then (tree_Check.l0 k x0 x20 (wrap64 (x21 + 1))) else (some false))) else (some true)
end
def tree_Check.f (k : Nat) (l0 : List (S29)) : Option (Bool):=if ((l0.length : Int) % 2) = 0 then (tree_Check.j0 k l0 true) else ((tree_Leaves.f l0).bind fun t119=>((heap_Right.f t119).bind fun t120=>(if t120 = true then ((tree_tight.f k l0).bind fun t121=>(tree_Check.j0 k l0 (!t121))) else (tree_Check.j0 k l0 true))))
theorem tree_Check.mono_l : ∀ k,(∀ y0 y1,LeO (tree_Check.j0 k y0 y1) (tree_Check.j0 (k + 1) y0 y1))∧(∀ y0 y1 y2,LeO (tree_Check.l0 k y0 y1 y2) (tree_Check.l0 (k + 1) y0 y1 y2))
 | 0=>⟨fun _ _ r h=>by simp [tree_Check.j0] at h,fun _ _ _ r h=>by simp [tree_Check.l0] at h⟩
 | k + 1=>by
  obtain ⟨ih0,ih1⟩:=tree_Check.mono_l k
  refine ⟨?_,?_⟩
  · intro y0 y1
    unfold tree_Check.j0
    repeat' first
    | (with_reducible exact ih0 _ _)
    | (with_reducible exact ih1 _ _ _)
    | (with_reducible exact tree_tight.mono _ _)
    | (with_reducible exact tree_vertex.mono _ _ _)
    | (with_reducible exact LeO.refl _)
    | (with_reducible exact LeO.none _)
    | (with_reducible refine LeO.ite ?_ ?_)
    | (with_reducible refine LeO.bind ?_ (fun _=>?_))
    | exact ih0 _ _
    | exact ih1 _ _ _
    | exact tree_tight.mono _ _
    | exact tree_vertex.mono _ _ _
    | exact LeO.none _
    | refine LeO.ite ?_ ?_
    | refine LeO.bind ?_ (fun _=>?_)
  · intro y0 y1 y2
    unfold tree_Check.l0
    repeat' first
    | (with_reducible exact ih0 _ _)
    | (with_reducible exact ih1 _ _ _)
    | (with_reducible exact tree_tight.mono _ _)
    | (with_reducible exact tree_vertex.mono _ _ _)
    | (with_reducible exact LeO.refl _)
    | (with_reducible exact LeO.none _)
    | (with_reducible refine LeO.ite ?_ ?_)
    | (with_reducible refine LeO.bind ?_ (fun _=>?_))
    | exact ih0 _ _
    | exact ih1 _ _ _
    | exact tree_tight.mono _ _
    | exact tree_vertex.mono _ _ _
    | exact LeO.none _
    | refine LeO.ite ?_ ?_
    | refine LeO.bind ?_ (fun _=>?_)
theorem tree_Check.mono : ∀ a0 k,LeO (tree_Check.f k a0) (tree_Check.f (k + 1) a0):=by
 intro a0 k
 obtain ⟨ih0,ih1⟩:=tree_Check.mono_l k
 unfold tree_Check.f
 repeat' first
  | (with_reducible exact ih0 _ _)
  | (with_reducible exact ih1 _ _ _)
  | (with_reducible exact tree_tight.mono _ _)
  | (with_reducible exact tree_vertex.mono _ _ _)
  | (with_reducible exact LeO.refl _)
  | (with_reducible exact LeO.none _)
  | (with_reducible refine LeO.ite ?_ ?_)
  | (with_reducible refine LeO.bind ?_ (fun _=>?_))
  | exact ih0 _ _
  | exact ih1 _ _ _
  | exact tree_tight.mono _ _
  | exact tree_vertex.mono _ _ _
  | exact LeO.none _
  | refine LeO.ite ?_ ?_
  | refine LeO.bind ?_ (fun _=>?_)
set_option maxHeartbeats 8000000 in
set_option maxRecDepth 100000 in
theorem tree_Check.calls (k : Nat) (A0 : Option Addr) (c0 : Nat) (l0 : List (S29)) (r : Bool) (w : World) (hrG : TabG w) (hr0 : Kd.C k29 w A0 l0.length l0) (hc0 : l0.length≤c0) (h : tree_Check.f k l0 = some r) :
 Calls Tryd.prog 15 #[.slice A0 l0.length c0] w fun e w'=>e = .returned (.bool r)∧Below w.heap.size w w':=by
 have HRG:=Az.mk hrG
 clear hrG
 have HR0:=Az.mk hr0
 have HC0:=Az.mk hc0
 clear hr0 hc0
 have HB:=Az.mk (Below.refl w.heap.size w)
 have H : (if ((l0.length : Int) % 2) = 0 then (tree_Check.j0 k l0 true) else ((tree_Leaves.f l0).bind fun t119=>((heap_Right.f t119).bind fun t120=>(if t120 = true then ((tree_tight.f k l0).bind fun t121=>(tree_Check.j0 k l0 (!t121))) else (tree_Check.j0 k l0 true))))) = some r:=h
 clear h
 have HC2:=Az.mk H
 clear H
 go_enter Tryd.func15,Tryd.ntmps15
 go_upto_region 1 with (fail)
 go_cut [18] (fun v18 wc=>∃ (kq : Nat) (x18_1 : Bool),v18 = .bool x18_1∧Az (tree_Check.j0 kq l0 x18_1 = some r)∧Az (kq≤k)∧Az (Below w.heap.size w wc))
 case first=>
  have H:=HC2.out
  clear HC2
  by_cases c3 : ((l0.length : Int) % 2) = 0
  · rw [if_pos c3] at H
    have c3b0 : (((l0.length : Int) % 2) == 0) = true:=beq_iff_eq.mpr c3
    have c3b1 : (((l0.length : Int) % 2) != 0) = false:=bne_eq_false_iff_eq.mpr c3
    clear c3
    (first | rw [c3b0] | (simp only [i64_w,i32_w];rw [c3b0]) | skip)
    have H':=Az.mk H
    clear H
    go_wp2
    go_meet
    case rel=>exact ⟨_,(true),(by first | rfl | (simp;done) | (simp [*];done)),H',⟨by first | omega | exact Nat.le_refl _⟩,⟨bmv HB.out⟩⟩
  · rw [if_neg c3] at H
    have c3b0 : (((l0.length : Int) % 2) == 0) = false:=beq_eq_false_iff_ne.mpr c3
    have c3b1 : (((l0.length : Int) % 2) != 0) = true:=bne_iff_ne.mpr c3
    (first | rw [c3b0] | (simp only [i64_w,i32_w];rw [c3b0]) | skip)
    replace H:=Option.bind_eq_some_iff.mp H
    obtain ⟨t119,A40,H⟩:=H
    replace H : ((heap_Right.f t119).bind fun t120=>(if t120 = true then ((tree_tight.f k l0).bind fun t121=>(tree_Check.j0 k l0 (!t121))) else (tree_Check.j0 k l0 true))) = some r:=H
    have A4:=Az.mk A40
    clear A40
    replace H:=Option.bind_eq_some_iff.mp H
    obtain ⟨t120,A50,H⟩:=H
    replace H : (if t120 = true then ((tree_tight.f k l0).bind fun t121=>(tree_Check.j0 k l0 (!t121))) else (tree_Check.j0 k l0 true)) = some r:=H
    have A5:=Az.mk A50
    clear A50
    by_cases c6 : t120 = true
    · subst c6
      have H1 : ((tree_tight.f k l0).bind fun t121=>(tree_Check.j0 k l0 (!t121))) = some r:=by rw [if_pos rfl] at H;exact H
      clear H
      have H:=H1
      clear H1
      replace H:=Option.bind_eq_some_iff.mp H
      obtain ⟨t121,A70,H⟩:=H
      replace H : (tree_Check.j0 k l0 (!t121)) = some r:=H
      have A7:=Az.mk A70
      clear A70
      have H':=Az.mk H
      clear H
      go_wp2_with (first | (go_at_call 29;(with_reducible refine (tree_Leaves.calls _ _ l0 t119 _ ?side1 ?side2 A4.out).mono ?_);(case side1=>exact C_mv ((Kd.C_below HR0.out HB.out)));(case side2=>exact HC0.out);rintro e w' ⟨rfl,⟨nd,rfl⟩⟩) | (go_at_call 41;(with_reducible refine (heap_Right.calls t119 true _ A5.out).mono ?_);rintro e w' ⟨rfl,⟨nd,rfl⟩⟩) | (go_at_call 42;(with_reducible refine (tree_tight.calls k _ _ l0 t121 _ ?side1 ?side2 A7.out).mono ?_);(case side1=>exact C_mv ((Kd.C_below HR0.out HB.out)));(case side2=>exact HC0.out);rintro e w' ⟨rfl,⟨nd,rfl⟩⟩))
      go_meet
      case rel=>exact ⟨_,(!t121),(by first | rfl | (simp;done) | (simp [*];done)),H',⟨by first | omega | exact Nat.le_refl _⟩,⟨bmv HB.out⟩⟩
    · replace c6:=Bool.eq_false_iff.mpr c6
      subst c6
      have H1 : (tree_Check.j0 k l0 true) = some r:=by rw [if_neg (show ¬ (false = true) by decide)] at H;exact H
      clear H
      have H:=H1
      clear H1
      have H':=Az.mk H
      clear H
      go_wp2_with (first | (go_at_call 29;(with_reducible refine (tree_Leaves.calls _ _ l0 t119 _ ?side1 ?side2 A4.out).mono ?_);(case side1=>exact C_mv ((Kd.C_below HR0.out HB.out)));(case side2=>exact HC0.out);rintro e w' ⟨rfl,⟨nd,rfl⟩⟩) | (go_at_call 41;(with_reducible refine (heap_Right.calls t119 false _ A5.out).mono ?_);rintro e w' ⟨rfl,⟨nd,rfl⟩⟩))
      go_meet
      case rel=>exact ⟨_,(true),(by first | rfl | (simp;done) | (simp [*];done)),H',⟨by first | omega | exact Nat.le_refl _⟩,⟨bmv HB.out⟩⟩
 case rest=>
  clear HC2
  try clear c3
  try clear c3b0
  try clear c3b1
  try clear c6
  obtain ⟨kq,x18_1,rfl,HA,HJ1,HB⟩:=hcut
  cases kq with
  | zero=>exact absurd HA.out (by simp [tree_Check.j0])
  | succ kj1=>
   have H:=HA.out
   clear HA
   simp only [tree_Check.j0] at H
   by_cases c8 : x18_1 = true
   · subst c8
     have H1 : (some false) = some r:=by rw [if_pos rfl] at H;exact H
     clear H
     have H:=H1
     clear H1
     obtain rfl:=Option.some.inj H
     go_wp2
     go_ret
     exact ⟨by first | rfl | (simp [errW_none,errW_some] <;> rfl) | (simp [*,errW_none,errW_some] <;> rfl),bmv HB.out⟩
   · replace c8:=Bool.eq_false_iff.mpr c8
     subst c8
     have H1 : (tree_Check.l0 kj1 l0 (l0.length : Int) 0) = some r:=by rw [if_neg (show ¬ (false = true) by decide)] at H;exact H
     clear H
     have H:=H1
     clear H1
     have H':=Az.mk H
     clear H
     go_wp2
     go_loopg [21] kj1 (fun kq v21 w'=>∃ (x21_2 : Int),v21 = .int .i64 x21_2∧Az (tree_Check.l0 kq l0 (l0.length : Int) x21_2 = some r)∧Az (kq≤kj1)∧Az (Below w.heap.size w w'))
     case atStart=>exact ⟨(0),(by first | rfl | (simp;done) | (simp [*];done)),H',⟨Nat.le_refl _⟩,⟨bmv HB.out⟩⟩
     case round=>
      clear H'
      try clear c3
      try clear c3b0
      try clear c3b1
      try clear c6
      try clear c8
      obtain ⟨x21_2,rfl,HA,HK2,HB⟩:=hrel
      cases gk with
      | zero=>exact absurd HA.out (by simp [tree_Check.l0])
      | succ k2=>
       have H:=HA.out
       clear HA
       simp only [tree_Check.l0] at H
       by_cases c9 : x21_2 < (l0.length : Int)
       · rw [if_pos c9] at H
         have c9b0 : decide (x21_2 < (l0.length : Int)) = true:=decide_eq_true c9
         clear c9
         replace H:=Option.bind_eq_some_iff.mp H
         obtain ⟨t122,A100,H⟩:=H
         replace H : (if t122 = true then (tree_Check.l0 k2 l0 (l0.length : Int) (wrap64 (x21_2 + 1))) else (some false)) = some r:=H
         have A10:=Az.mk A100
         clear A100
         by_cases c11 : t122 = true
         · subst c11
           have H1 : (tree_Check.l0 k2 l0 (l0.length : Int) (wrap64 (x21_2 + 1))) = some r:=by rw [if_pos rfl] at H;exact H
           clear H
           have H:=H1
           clear H1
           have H':=Az.mk H
           clear H
           go_wp2_with (first | ((with_reducible refine gate_callee (f:=43) rfl ?_);refine goesL_ (some 26) rfl rfl Tryd.func43 (by kernel_rfl) rfl #[.slice A0 l0.length c0,.int .i64 x21_2] rfl (by (try simp only [List.map_toArray,List.map_cons,List.map_nil]);first | done | rfl | (simp only [List.length_drop,List.length_take];rfl)) ?_;(with_reducible refine (tree_vertex.calls (hrG:=?sideG) k2 _ _ l0 x21_2 true _ ?side1 ?side2 A10.out).mono ?_);(case sideG=>(first | (with_reducible exact HRG.out) | exact TabG.below HRG.out (by repeat (first | (with_reducible first | exact HB.out | apply bwA | apply bwN | apply bw1) | (with_reducible exact Below.refl _ _)))));(case side1=>exact C_mv ((Kd.C_below HR0.out HB.out)));(case side2=>exact HC0.out);rintro e w12 ⟨rfl,hb⟩;refine ⟨_,rfl,?_⟩;have n0_:=Az.mk (bwT (bmv HB.out) hb);clear HB;have HB:=n0_;clear n0_;(try clear hb);(try clear hb2);(try clear hk);(try clear hi)))
           go_roundg k2
           case measure=>have:=HJ1.out;have:=HK2.out;omega
           case rel=>exact ⟨(wrap64 (x21_2 + 1)),(by first | rfl | (simp;done) | (simp [*];done)),H',⟨by have:=HJ1.out;have:=HK2.out;omega⟩,⟨bmv HB.out⟩⟩
         · replace c11:=Bool.eq_false_iff.mpr c11
           subst c11
           have H1 : (some false) = some r:=by rw [if_neg (show ¬ (false = true) by decide)] at H;exact H
           clear H
           have H:=H1
           clear H1
           obtain rfl:=Option.some.inj H
           go_wp2_with (first | ((with_reducible refine gate_callee (f:=43) rfl ?_);refine goesL_ (some 26) rfl rfl Tryd.func43 (by kernel_rfl) rfl #[.slice A0 l0.length c0,.int .i64 x21_2] rfl (by (try simp only [List.map_toArray,List.map_cons,List.map_nil]);first | done | rfl | (simp only [List.length_drop,List.length_take];rfl)) ?_;(with_reducible refine (tree_vertex.calls (hrG:=?sideG) k2 _ _ l0 x21_2 false _ ?side1 ?side2 A10.out).mono ?_);(case sideG=>(first | (with_reducible exact HRG.out) | exact TabG.below HRG.out (by repeat (first | (with_reducible first | exact HB.out | apply bwA | apply bwN | apply bw1) | (with_reducible exact Below.refl _ _)))));(case side1=>exact C_mv ((Kd.C_below HR0.out HB.out)));(case side2=>exact HC0.out);rintro e w13 ⟨rfl,hb⟩;refine ⟨_,rfl,?_⟩;have n0_:=Az.mk (bwT (bmv HB.out) hb);clear HB;have HB:=n0_;clear n0_;(try clear hb);(try clear hb2);(try clear hk);(try clear hi)))
           go_ret
           exact ⟨by first | rfl | (simp [errW_none,errW_some] <;> rfl) | (simp [*,errW_none,errW_some] <;> rfl),bmv HB.out⟩
       · rw [if_neg c9] at H
         have c9b0 : decide (x21_2 < (l0.length : Int)) = false:=decide_eq_false c9
         clear c9
         obtain rfl:=Option.some.inj H
         go_wp2
         go_ret
         exact ⟨by first | rfl | (simp [errW_none,errW_some] <;> rfl) | (simp [*,errW_none,errW_some] <;> rfl),bmv HB.out⟩
def api_Vertex_68.f (l0 : List (S29)) : Option ((List (S29))):=(some (([] : List (S29)) : List (S29))).bind fun y123=>(if y123.length + l0.length < 2199023255552 then (some (y123 ++ l0)) else (none))
set_option maxHeartbeats 8000000 in
set_option maxRecDepth 100000 in
theorem api_Vertex_68.calls (P0_ : Nat→Prop) (A0 : Option Addr) (c0 : Nat) (l0 : List (S29)) (r : List (S29)) (w : World) (hs0 : Kd.V k29 29 w w.heap.size (fun k_=>P0_ k_) (.slice A0 l0.length c0) l0) (h : api_Vertex_68.f l0 = some r) :
 Calls Tryd.prog 68 #[.slice A0 l0.length c0] w fun e w'=>∃ v0_ : Value,e = .returned (v0_)∧Kd.N k29 29 w' w.heap.size (fun k_=>(P0_ k_∨w.heap.size≤k_)) v0_ r∧Below w.heap.size w w':=by
 have HO0:=Az.mk (show Kd.V k29 29 w w.heap.size (fun k_=>(P0_ k_∨w.heap.size≤k_)) (.slice A0 l0.length c0) l0 from Kd.V_mono hs0 (fun k_ hk=>.inl hk))
 have HB:=Az.mk (Below.refl w.heap.size w)
 have H : ((some (([] : List (S29)) : List (S29))).bind fun y123=>(if y123.length + l0.length < 2199023255552 then (some (y123 ++ l0)) else (none))) = some r:=h
 clear h
 obtain ⟨y123,hy123⟩ : ∃ y_ : List (S29),y_ = (([] : List (S29))):=⟨_,rfl⟩
 replace H : (if y123.length + l0.length < 2199023255552 then (some (y123 ++ l0)) else (none)) = some r:=by first | (rw [hy123];with_reducible exact H) | (have H2_:=(Option.bind_some _ _).symm.trans H;rw [hy123];with_reducible exact H2_) | (have H2_:=(Option.bind_some _ _).symm.trans H;with_reducible exact H2_) | with_reducible exact H | (rw [hy123];exact H) | exact H
 have Ny123:=Az.mk hy123
 clear hy123
 by_cases c2 : y123.length + l0.length < 2199023255552
 · rw [if_pos c2] at H
   have LMc2:=Az.mk c2
   clear c2
   obtain ⟨y126,hy126⟩ : ∃ y_ : List (S29),y_ = (y123 ++ l0):=⟨_,rfl⟩
   replace H : (some y126) = some r:=by first | (rw [hy126];with_reducible exact H) | (have H2_:=(Option.bind_some _ _).symm.trans H;rw [hy126];with_reducible exact H2_) | (have H2_:=(Option.bind_some _ _).symm.trans H;with_reducible exact H2_) | with_reducible exact H | (rw [hy126];exact H) | exact H
   have Ny126:=Az.mk hy126
   clear hy126
   obtain rfl:=Option.some.inj H
   have nil_ : A0 = none→l0 = []:=fun e_=>by subst e_;exact Kd.V_none_ HO0.out
   have qT : ∀ (w : World) (a : Option Addr) (n c n' c' : Nat),(binOp .eql 22 (.slice a n c) (.slice none n' c')).run Tryd.prog w = .ok (.bool a.isNone) w:=fun w a n c n' c'=>Lib.run_eql_slice_nil w _ _ a n c n' c' Tryd.underlying22
   cases A0 with
   | none=>
    have e_:=nil_ rfl
    have e2_ : y126 = []:=by rw [Ny126.out,Ny123.out,e_];rfl
    go_enter Tryd.func68,Tryd.ntmps68
    go_wp2
    go_ret
    exact ⟨_,rfl,Kd.N_nil _ _ _ _ _,by repeat (first | (with_reducible first | exact HB.out | apply bwA | apply bwN | apply bw1) | exact HB.out)⟩
   | some ad0=>
    go_enter Tryd.func68,Tryd.ntmps68
    go_wp2_with (first | ((with_reducible refine gate_dst (N:=5) rfl ?_);refine Kd.N_lit k29 _ 29 ?hg (N':=5) ?hd (xs:=([] : List (S29))) (inner:=[]) (ok:=(fun k_=>(P0_ k_∨w.heap.size≤k_))) (okp:=(fun k_=>(P0_ k_∨w.heap.size≤k_))) ?hr ?hp (fun _ hk=>hk) ((show ∀ k_,w.heap.size≤k_→(fun k_=>(P0_ k_∨w.heap.size≤k_)) k_ from fun k_ hk=>(.inr (Nat.le_trans (bwZ (by repeat (first | (with_reducible first | exact HB.out | apply bwA | apply bwN | apply bw1) | exact HB.out))) hk))) _ (Nat.le_refl _)) (Below.refl _ _) (Nat.le_refl _) (by simp) ?_;(case hd=>rfl);(case hg=>rfl);(case hr=>first | (go_simp;done) | (go_simp;rfl));(case hp=>exact (Reps.none _ _));intro v124 w3 ho4 hb hg_ hnew_;clear hg_ hnew_;(first | rw [← Ny123.out] at ho4 | (simp only [Int.reduceToNat] at ho4;rw [← Ny123.out] at ho4));have n0_:=Az.mk (Kd.V_elder' (by (with_reducible repeat (first | apply Kd.V_alloc | apply Kd.V_drewN | apply Kd.V_drew));exact HO0.out) (Kd.N_base ho4) hb);have n1_:=Az.mk (Kd.N_lower ho4 (bwZ (by repeat (first | (with_reducible first | exact HB.out | apply bwA | apply bwN | apply bw1) | exact HB.out))));have n2_:=Az.mk (bwT (by repeat (first | (with_reducible first | exact HB.out | apply bwA | apply bwN | apply bw1) | exact HB.out)) hb);clear HO0;clear HB;have HO0:=n0_;have HO125:=n1_;have HB:=n2_;clear n0_ n1_ n2_;clear hb ho4) | ((with_reducible refine gate_builtin (b:=.append) (xs:=#[.tmp 5,.tmp 6]) rfl ?_);at_builtin;refine Kd.N_append_rows k29 (w0:=w) w.heap.size rfl (.tmp 5) (.tmp 6) 22 29 (.agg #[(.bool false),(.int .i64 0),(.int .i64 0),(.int .i64 0),(.int .i64 0),(.slice none 0 0)]) 64 rfl Tryd.underlying22 info29 rfl (by decide) (by omega) v124 y123 l0 _ _ _ (fun k_=>(P0_ k_∨w.heap.size≤k_)) (fun k_=>((fun k_=>(P0_ k_∨w.heap.size≤k_))) k_∧some k_≠(v124 : Value).ownBlock) rfl rfl ?aO ?aR (fun _ hk=>hk) ?aF ?aB ?aS ?aL ?_;(case aR=>exact (by skip;exact Kd.V_F (Kd.V_mono (ok':=(fun k_=>((fun k_=>(P0_ k_∨w.heap.size≤k_))) k_∧some k_≠(v124 : Value).ownBlock)) (HO0.out) (fun k_ hk=>⟨hk.1,hk.2⟩))));(case aB=>exact (by repeat (first | (with_reducible first | exact HB.out | apply bwA | apply bwN | apply bw1) | exact HB.out)));(case aF=>exact (fun k_ hk=>(.inr (Nat.le_trans (bwZ (by repeat (first | (with_reducible first | exact HB.out | apply bwA | apply bwN | apply bw1) | exact HB.out))) hk))));(case aO=>exact (by (with_reducible repeat (first | apply Kd.N_alloc | apply Kd.N_drewN | apply Kd.N_drew));exact HO125.out));(case aS=>exact (bwZ (by repeat (first | (with_reducible first | exact HB.out | apply bwA | apply bwN | apply bw1) | exact HB.out))));(case aL=>have:=LMc2.out;omega);intro v127 w5 ho hb hg hat;rw [← Ny126.out] at ho;have n0_:=Az.mk (Kd.V_afterv (ok:=(fun k_=>(P0_ k_∨w.heap.size≤k_))) (by (with_reducible repeat (first | apply Kd.V_alloc | apply Kd.V_drewN | apply Kd.V_drew));exact HO0.out) hg hat);have n1_:=Az.mk (hb);have n2_:=Az.mk (ho);clear HO0;clear HB;clear HO125;have HO0:=n0_;have HB:=n1_;have HO128:=n2_;clear n0_ n1_ n2_;clear ho hb hg hat))
    go_ret
    exact ⟨_,by first | rfl | (simp [errW_none,errW_some] <;> rfl) | (simp [*,errW_none,errW_some] <;> rfl),by (with_reducible repeat (first | apply Kd.N_alloc | apply Kd.N_drewN | apply Kd.N_drew));exact HO128.out,by repeat (first | (with_reducible first | exact HB.out | apply bwA | apply bwN | apply bw1) | exact HB.out)⟩
 · rw [if_neg c2] at H
   exact absurd H (by simp)
def sCl.f (l0 : List Int) : Option (List Int):=(some (([] : List Int) : List Int)).bind fun y129=>(if y129.length + l0.length < 17592186044416 then (some (y129 ++ l0)) else (none))
set_option maxHeartbeats 8000000 in
set_option maxRecDepth 100000 in
theorem sCl.calls (A0 : Option Addr) (c0 : Nat) (l0 : List Int) (r : List Int) (w : World) (hr0 : Kd.C (Kd.int .i64) w A0 l0.length l0) (hc0 : l0.length≤c0) (h : sCl.f l0 = some r) :
 Calls Tryd.prog 69 #[.slice A0 l0.length c0] w fun e w'=>∃ v0_ : Value,e = .returned (v0_)∧Kd.R (Kd.int .i64) 3 w' w.heap.size (fun _=>True) v0_ r∧Below w.heap.size w w':=by
 have HR0:=Az.mk hr0
 have HC0:=Az.mk hc0
 clear hr0 hc0
 have HB:=Az.mk (Below.refl w.heap.size w)
 have H : ((some (([] : List Int) : List Int)).bind fun y129=>(if y129.length + l0.length < 17592186044416 then (some (y129 ++ l0)) else (none))) = some r:=h
 clear h
 obtain ⟨y129,hy129⟩ : ∃ y_ : List Int,y_ = (([] : List Int)):=⟨_,rfl⟩
 replace H : (if y129.length + l0.length < 17592186044416 then (some (y129 ++ l0)) else (none)) = some r:=by first | (rw [hy129];with_reducible exact H) | (have H2_:=(Option.bind_some _ _).symm.trans H;rw [hy129];with_reducible exact H2_) | (have H2_:=(Option.bind_some _ _).symm.trans H;with_reducible exact H2_) | with_reducible exact H | (rw [hy129];exact H) | exact H
 have Ny129:=Az.mk hy129
 clear hy129
 by_cases c2 : y129.length + l0.length < 17592186044416
 · rw [if_pos c2] at H
   have LMc2:=Az.mk c2
   clear c2
   obtain ⟨y132,hy132⟩ : ∃ y_ : List Int,y_ = (y129 ++ l0):=⟨_,rfl⟩
   replace H : (some y132) = some r:=by first | (rw [hy132];with_reducible exact H) | (have H2_:=(Option.bind_some _ _).symm.trans H;rw [hy132];with_reducible exact H2_) | (have H2_:=(Option.bind_some _ _).symm.trans H;with_reducible exact H2_) | with_reducible exact H | (rw [hy132];exact H) | exact H
   have Ny132:=Az.mk hy132
   clear hy132
   obtain rfl:=Option.some.inj H
   have nil_ : A0 = none→l0 = []:=fun e_=>by subst e_;exact Kd.C_none_ HR0.out
   have qT : ∀ (w : World) (a : Option Addr) (n c n' c' : Nat),(binOp .eql 27 (.slice a n c) (.slice none n' c')).run Tryd.prog w = .ok (.bool a.isNone) w:=fun w a n c n' c'=>Lib.run_eql_slice_nil w _ _ a n c n' c' Tryd.underlying27
   cases A0 with
   | none=>
    have e_:=nil_ rfl
    have e2_ : y132 = []:=by rw [Ny132.out,Ny129.out,e_];rfl
    go_enter Tryd.func69,Tryd.ntmps69
    go_wp2
    go_ret
    exact ⟨_,rfl,Kd.R_nil _ _ _ _ _,by repeat (first | (with_reducible first | exact HB.out | apply bwA | apply bwN | apply bw1) | exact HB.out)⟩
   | some ad0=>
    go_enter Tryd.func69,Tryd.ntmps69
    go_wp2_with (first | ((with_reducible refine gate_dst (N:=5) rfl ?_);refine Kd.R_lit (Kd.int .i64) _ 3 ?hg (N:=5) ?hd (xs:=([] : List Int)) (inner:=[]) (ok:=fun _=>True) (okp:=fun _=>True) ?hr ?hp (fun _ hk=>hk) trivial (Below.refl _ _) (Nat.le_refl _) (by simp) ?_;(case hd=>rfl);(case hg=>rfl);(case hr=>first | (go_simp;done) | (go_simp;rfl));(case hp=>exact (Reps.none _ _));intro v130 w3 ho4 hb hg_ hnew_;clear hg_ hnew_;(first | rw [← Ny129.out] at ho4 | (simp only [Int.reduceToNat] at ho4;rw [← Ny129.out] at ho4));have n0_:=Az.mk (Kd.R_lower ho4 (bwZ (by repeat (first | (with_reducible first | exact HB.out | apply bwA | apply bwN | apply bw1) | exact HB.out))));have n1_:=Az.mk (bwT (by repeat (first | (with_reducible first | exact HB.out | apply bwA | apply bwN | apply bw1) | exact HB.out)) hb);clear HB;have HO131:=n0_;have HB:=n1_;clear n0_ n1_;clear hb ho4) | ((with_reducible refine gate_builtin (b:=.append) (xs:=#[.tmp 5,.tmp 6]) rfl ?_);at_builtin;refine Kd.R_append_rows (Kd.int .i64) (w0:=w) w.heap.size rfl (.tmp 5) (.tmp 6) 27 3 (.int .i64 0) 8 rfl Tryd.underlying27 info3 rfl (by decide) (by omega) v130 y129 l0 _ _ _ (fun _=>True) (fun _=>False) rfl rfl ?aO ?aR (fun _ _ h=>h) (fun _ h=>h.elim) ?aF ?aB ?aS ?aL ?_;(case aR=>repeat (first | exact (Kd.C_below HR0.out HB.out) | (with_reducible refine Kd.C_alloc ?_ _) | (with_reducible refine Kd.C_drewN ?_ _) | (with_reducible refine Kd.C_drew ?_)));(case aB=>exact (by repeat (first | (with_reducible first | exact HB.out | apply bwA | apply bwN | apply bw1) | exact HB.out)));(case aF=>exact (fun _ _=>trivial));(case aO=>exact (by (with_reducible repeat (first | apply Kd.R_alloc | apply Kd.R_drewN | apply Kd.R_drew));exact HO131.out));(case aS=>exact (bwZ (by repeat (first | (with_reducible first | exact HB.out | apply bwA | apply bwN | apply bw1) | exact HB.out))));(case aL=>have:=LMc2.out;omega);intro v133 w5 ho hb hg hat;rw [← Ny132.out] at ho;have n0_:=Az.mk (hb);have n1_:=Az.mk (ho);clear HB;clear HO131;have HB:=n0_;have HO134:=n1_;clear n0_ n1_;clear ho hb hg hat))
    go_ret
    exact ⟨_,by first | rfl | (simp [errW_none,errW_some] <;> rfl) | (simp [*,errW_none,errW_some] <;> rfl),by (with_reducible repeat (first | apply Kd.R_alloc | apply Kd.R_drewN | apply Kd.R_drew));exact HO134.out,by repeat (first | (with_reducible first | exact HB.out | apply bwA | apply bwN | apply bw1) | exact HB.out)⟩
 · rw [if_neg c2] at H
   exact absurd H (by simp)
def tree_copied.f (_k : Nat) (l0 : List (S29)) : Option ((List (S29))):=if l0.length < 2199023255552 then (if l0.all (fun v=>decide (v.f5.length < 17592186044416)) = true then some l0 else none) else none
theorem tree_copied.mono : ∀ a0 k,LeO (tree_copied.f k a0) (tree_copied.f (k + 1) a0):=fun _ _=>LeO.refl _
set_option maxHeartbeats 8000000 in
set_option maxRecDepth 100000 in
theorem tree_copied.calls (k : Nat) (A0 : Option Addr) (c0 : Nat) (l0 : List (S29)) (r : List (S29)) (w : World) (hr0 : Kd.C k29 w A0 l0.length l0) (hc0 : l0.length≤c0) (h : tree_copied.f k l0 = some r) :
 Calls Tryd.prog 50 #[.slice A0 l0.length c0] w fun e w'=>∃ v0_ : Value,e = .returned (v0_)∧Kd.S k29 29 w' w.heap.size (fun _=>True) v0_ r∧Below w.heap.size w w':=by
 unfold tree_copied.f at h
 split at h
 · rename_i h1
   split at h
   · rename_i h2
     injection h with h
     subst h
     have hV : Kd.V k29 29 w w.heap.size (fun k_=>k_ < w.heap.size) (.slice A0 l0.length c0) l0:=⟨A0,c0,rfl,hc0,Kd.C_F k29_heap hr0⟩
     have hcl : api_Vertex_68.f l0 = some l0:=by
      unfold api_Vertex_68.f
      simp only [Option.bind_some,List.length_nil,Nat.zero_add,List.nil_append]
      rw [if_pos h1]
     have HC:=Lib.hid (api_Vertex_68.calls _ A0 c0 l0 l0 w hV hcl)
     have hin : ∀ x : Nat,x < l0.length→sCl.f (rd_T29 l0 x).f5 = some (rd_T29 l0 x).f5:=by
      intro x hx
      unfold sCl.f
      simp only [Option.bind_some,List.length_nil,Nat.zero_add,List.nil_append]
      rw [if_pos]
      have hm : rd_T29 l0 x ∈ l0:=by
       unfold rd_T29
       rw [Int.toNat_natCast,List.getD_eq_getElem?_getD,List.getElem?_eq_getElem hx]
       exact List.getElem_mem hx
      exact of_decide_eq_true (List.all_eq_true.1 h2 _ hm)
     have HIN:=Lib.hid hin
     have HL:=Lib.hid h1
     clear hV hcl hin h1 h2 hr0 hc0
     go_enter Tryd.func50,Tryd.ntmps50
     go_wp2_with (go_at_call 68;refine HC.out.mono ?_;rintro e w1 ⟨v,rfl,hN,hB⟩;obtain ⟨Ao,co,rfl⟩:=Kd.N_slice hN;have HCp:=Az.mk (CpIs.ofN hN);have HB:=Az.mk hB;clear hN hB)
     go_loopg [9] l0.length (fun kq v9 w'=>∃ x : Nat,v9 = .int .i64 (x : Int)∧Az (x + kq = l0.length)∧Az (CpIs w' w.heap.size (.slice Ao l0.length co) x l0)∧Az (Below w.heap.size w w'))
     case atStart=>exact ⟨0,rfl,⟨Nat.zero_add _⟩,⟨by refine CpIs.below HCp.out ?_;repeat (first | exact Below.refl _ _ | apply bwA | apply bwN | apply bw1)⟩,⟨by repeat (first | (with_reducible first | exact HB.out | apply bwA | apply bwN | apply bw1) | exact HB.out)⟩⟩
     case round=>
      clear HCp HB
      obtain ⟨x,rfl,HX,HCp,HB⟩:=hrel
      by_cases hx : x < l0.length
      · obtain ⟨g,cap,he⟩ : ∃ (g cap : Nat),(Value.slice Ao l0.length co) = .slice (some ⟨g,0,none⟩) l0.length cap:=by
         obtain ⟨f,rows,hl,hR,_⟩:=HCp.out
         obtain ⟨g,cap,he,_⟩:=Kd.R_form hR (by omega)
         exact ⟨g,cap,by rw [he,hl]⟩
        injection he with he _ hc
        subst hc
        subst he
        obtain ⟨k1,rfl⟩ : ∃ k1,gk = k1 + 1:=⟨gk - 1,by have:=HX.out;omega⟩
        have p1 : (0≤(x : Int)) = True:=eq_true (by omega)
        have q1 : ((x : Int) < (l0.length : Int)) = True:=eq_true (by omega)
        have qd : decide ((x : Int) < (l0.length : Int)) = true:=decide_eq_true (by omega)
        obtain ⟨A5,c5,hx5,hl5,hC5,hfz5⟩:=HCp.out.get hx
        have HC5:=Az.mk hC5
        have HL5:=Az.mk hl5
        have HHX:=Az.mk hx
        clear hx hC5 hl5
        go_wp2_with (go_at_call 69;refine (sCl.calls A5 c5 (rd_T29 l0 (x : Int)).f5 (rd_T29 l0 (x : Int)).f5 _ ?s1 ?s2 ?s3).mono ?_;(case s1=>repeat (first | exact HC5.out | (with_reducible refine Kd.C_alloc ?_ _) | (with_reducible refine Kd.C_drewN ?_ _) | (with_reducible refine Kd.C_drew ?_)));(case s2=>exact HL5.out);(case s3=>exact HIN.out x HHX.out);rintro e w2 ⟨u,rfl,hR,hB2⟩;obtain ⟨Au,cu,rfl⟩:=Kd.R_slice hR;have HR:=Az.mk hR;have HB2:=Az.mk hB2;clear hR hB2;obtain ⟨A6,c6,hx6,hl6,hC6,hfz6⟩:=(HCp.out.below HB2.out).get HHX.out;clear hl6 hC6)
        obtain ⟨hput,hbg,_⟩:=CpIs.put HCp.out HHX.out HB2.out HR.out
        have HPUT:=Az.mk hput
        have HBG:=Az.mk hbg
        clear hput hbg
        go_roundg k1
        case measure=>omega
        case rel=>exact ⟨x + 1,by have h1:=HL.out;have h2:=HHX.out;congr 1;unfold wrap64;omega,⟨by have:=HX.out;omega⟩,⟨HPUT.out⟩,⟨by refine bwS ?_ HBG.out;exact bwT HB.out HB2.out⟩⟩
      · have qd : decide ((x : Int) < (l0.length : Int)) = false:=decide_eq_false (by omega)
        have hxe : x = l0.length:=by have:=HX.out;omega
        subst hxe
        go_wp2
        go_ret
        exact ⟨_,rfl,CpIs.S HCp.out,HB.out⟩
   · cases h
 · cases h
def tree_leafOf.f (a0_0 : Bool) (a0_1 : Int) (a0_2 : Int) (a0_3 : Int) (a0_4 : Int) (l0_5 : List Int) : Option (Bool × Int × Int × Int × Int × List Int):=some (true,a0_1,a0_2,a0_3,a0_4,([] : List Int))
set_option maxHeartbeats 8000000 in
set_option maxRecDepth 100000 in
theorem tree_leafOf.calls (a0_0 : Bool) (a0_1 : Int) (a0_2 : Int) (a0_3 : Int) (a0_4 : Int) (A0_5 : Option Addr) (c0_5 : Nat) (l0_5 : List Int) (r1 : Bool) (r2 : Int) (r3 : Int) (r4 : Int) (r5 : Int) (r6 : List Int) (w : World) (hr0_5 : Kd.C (Kd.int .i64) w A0_5 l0_5.length l0_5) (hc0_5 : l0_5.length≤c0_5) (h : tree_leafOf.f a0_0 a0_1 a0_2 a0_3 a0_4 l0_5 = some (r1,r2,r3,r4,r5,r6)) :
 Calls Tryd.prog 51 #[.agg #[.bool a0_0,.int .i64 a0_1,.int .i64 a0_2,.int .i64 a0_3,.int .i64 a0_4,.slice A0_5 l0_5.length c0_5]] w fun e w'=>∃ v5_ : Value,e = .returned (.agg #[.bool r1,.int .i64 r2,.int .i64 r3,.int .i64 r4,.int .i64 r5,v5_])∧Kd.R (Kd.int .i64) 3 w' w.heap.size (fun _=>True) v5_ r6∧Below w.heap.size w w':=by
 have hu29:=Tryd.underlying29
 have HR0_5:=Az.mk hr0_5
 have HC0_5:=Az.mk hc0_5
 clear hr0_5 hc0_5
 have HB:=Az.mk (Below.refl w.heap.size w)
 have H : (some (true,a0_1,a0_2,a0_3,a0_4,([] : List Int))) = some (r1,r2,r3,r4,r5,r6):=h
 clear h
 simp only [Option.some.injEq,Prod.mk.injEq] at H
 obtain ⟨rfl,rfl,rfl,rfl,rfl,rfl⟩:=H
 go_enter Tryd.func51,Tryd.ntmps51
 go_wp2_with (first | ((with_reducible refine gate_dst (N:=1) rfl ?_);refine box_event ?hg (N:=1) ?hd (cs:=#[.bool a0_0,.int .i64 a0_1,.int .i64 a0_2,.int .i64 a0_3,.int .i64 a0_4,.slice A0_5 l0_5.length c0_5]) (t:=29) ?hr ?_;(case hd=>rfl);(case hg=>rfl);(case hr=>first | (go_simp;done) | (go_simp;rfl));intro gb147 hg w2 hbox hb;have n0_:=Az.mk (bwT (bmv HB.out) hb);have n1_:=Az.mk (hbox);have n2_:=Az.mk ((by rw [hg];exact (bwZ (bmv HB.out)) : w.heap.size≤gb147));have n3_:=Az.mk ((by rw [hg];exact (bwZ (bmv HB.out)) : w.heap.size≤gb147));clear HB;have HB:=n0_;have BK147:=n1_;have GW147:=n2_;have GE147:=n3_;clear n0_ n1_ n2_ n3_;clear hb hbox hg) | ((with_reducible refine gate_dst (N:=2) rfl ?_);refine box_event ?hg (N:=2) ?hd (cs:=#[.bool false,.int .i64 0,.int .i64 0,.int .i64 0,.int .i64 0,.slice none 0 0]) (t:=29) ?hr ?_;(case hd=>rfl);(case hg=>rfl);(case hr=>first | (go_simp;done) | (go_simp;rfl));intro gb148 hg w3 hbox hb;have n0_:=Az.mk (kB (g:=gb147) (o:=.cells #[.bool a0_0,.int .i64 a0_1,.int .i64 a0_2,.int .i64 a0_3,.int .i64 a0_4,.slice A0_5 l0_5.length c0_5] 29 (0,0)) (blk_mv BK147.out) hb);have n1_:=Az.mk (bwT (by repeat (with_reducible first | exact bmv HB.out | refine bwS ?_ GE147.out)) hb);have n2_:=Az.mk (hbox);have n3_:=Az.mk ((by rw [hg];exact (bwZ (by repeat (with_reducible first | exact bmv HB.out | refine bwS ?_ GE147.out))) : w.heap.size≤gb148));have n4_:=Az.mk ((by rw [hg];exact (bwZ (by repeat (with_reducible first | exact bmv HB.out | refine bwS ?_ GE147.out))) : w.heap.size≤gb148));have n5_:=Az.mk ((by rw [hg];exact Nat.ne_of_lt (blk_lt (g:=gb147) (o:=.cells #[.bool a0_0,.int .i64 a0_1,.int .i64 a0_2,.int .i64 a0_3,.int .i64 a0_4,.slice A0_5 l0_5.length c0_5] 29 (0,0)) (blk_mv BK147.out)) : gb147≠gb148));have n6_:=Az.mk ((by rw [hg];exact Nat.ne_of_gt (blk_lt (g:=gb147) (o:=.cells #[.bool a0_0,.int .i64 a0_1,.int .i64 a0_2,.int .i64 a0_3,.int .i64 a0_4,.slice A0_5 l0_5.length c0_5] 29 (0,0)) (blk_mv BK147.out)) : gb148≠gb147));clear BK147;clear HB;have BK147:=n0_;have HB:=n1_;have BK148:=n2_;have GW148:=n3_;have GE148:=n4_;have NB147_148:=n5_;have NB148_147:=n6_;clear n0_ n1_ n2_ n3_ n4_ n5_ n6_;clear hb hbox hg;have hnb4:=NB147_148.out;have hnc4:=NB148_147.out;obtain ⟨⟨hcz5_0,hcz5_1,hcz5_2,hcz5_3,hcz5_4,hcz5_5⟩,hfz5_0,hfz5_1,hfz5_2,hfz5_3,hfz5_4,hfz5_5⟩:=cells6 BK147.out;obtain ⟨⟨hcz6_0,hcz6_1,hcz6_2,hcz6_3,hcz6_4,hcz6_5⟩,hfz6_0,hfz6_1,hfz6_2,hfz6_3,hfz6_4,hfz6_5⟩:=cells6 BK148.out))
 refine bodyPost_ret (results_cell_row rfl _ _ gb148 29 #[.bool true,.int .i64 a0_1,.int .i64 a0_2,.int .i64 a0_3,.int .i64 a0_4,.slice none 0 0] (0,0) _ rfl (by (with_reducible repeat (first | refine kN ?_ _ | refine kD ?_ | refine kA ?_ _));refine blk_put (cs:=#[.bool true,.int .i64 a0_1,.int .i64 a0_2,.int .i64 a0_3,.int .i64 a0_4,.slice none 0 0]) ?_ 5 _ rfl;(with_reducible repeat (first | refine kN ?_ _ | refine kD ?_ | refine kA ?_ _));refine blk_put (cs:=#[.bool true,.int .i64 a0_1,.int .i64 a0_2,.int .i64 a0_3,.int .i64 0,.slice none 0 0]) ?_ 4 _ rfl;(with_reducible repeat (first | refine kN ?_ _ | refine kD ?_ | refine kA ?_ _));refine blk_put (cs:=#[.bool true,.int .i64 a0_1,.int .i64 a0_2,.int .i64 0,.int .i64 0,.slice none 0 0]) ?_ 3 _ rfl;(with_reducible repeat (first | refine kN ?_ _ | refine kD ?_ | refine kA ?_ _));refine blk_put (cs:=#[.bool true,.int .i64 a0_1,.int .i64 0,.int .i64 0,.int .i64 0,.slice none 0 0]) ?_ 2 _ rfl;(with_reducible repeat (first | refine kN ?_ _ | refine kD ?_ | refine kA ?_ _));refine blk_put (cs:=#[.bool true,.int .i64 0,.int .i64 0,.int .i64 0,.int .i64 0,.slice none 0 0]) ?_ 1 _ rfl;(with_reducible repeat (first | refine kN ?_ _ | refine kD ?_ | refine kA ?_ _));refine blk_put (cs:=#[.bool false,.int .i64 0,.int .i64 0,.int .i64 0,.int .i64 0,.slice none 0 0]) ?_ 0 _ rfl;(with_reducible repeat (first | refine kN ?_ _ | refine kD ?_ | refine kA ?_ _));refine blk_far ?_ NB148_147.out _;(with_reducible repeat (first | refine kN ?_ _ | refine kD ?_ | refine kA ?_ _));refine blk_far ?_ NB148_147.out _;(with_reducible repeat (first | refine kN ?_ _ | refine kD ?_ | refine kA ?_ _));exact BK148.out) Tryd.underlying29 rfl (by kernel_rfl)) rfl ?_
 exact ⟨_,by first | rfl | (simp [errW_none,errW_some] <;> rfl) | (simp [*,errW_none,errW_some] <;> rfl),by first | exact Kd.R_nil _ _ _ _ _ | exact Kd.N_nil _ _ _ _ _ | exact Kd.V_nil _ _ _ _ _ | exact Kd.Q_nil _ _ _ _ _ | exact Kd.S_nil _ _ _ _ _,by repeat (with_reducible first | exact bmv HB.out | refine bwS ?_ GE147.out | refine bwS ?_ GE148.out)⟩
set_option maxHeartbeats 8000000 in
set_option maxRecDepth 100000 in
theorem tree_leafOf.nil (a0_0 : Bool) (a0_1 : Int) (a0_2 : Int) (a0_3 : Int) (a0_4 : Int) (A0_5 : Option Addr) (c0_5 : Nat) (l0_5 : List Int) (w : World) (hr0_5 : Kd.C (Kd.int .i64) w A0_5 l0_5.length l0_5) (hc0_5 : l0_5.length≤c0_5) :
 Calls Tryd.prog 51 #[.agg #[.bool a0_0,.int .i64 a0_1,.int .i64 a0_2,.int .i64 a0_3,.int .i64 a0_4,.slice A0_5 l0_5.length c0_5]] w fun e w'=>e = .returned (.agg #[.bool true,.int .i64 a0_1,.int .i64 a0_2,.int .i64 a0_3,.int .i64 a0_4,.slice none 0 0])∧Below w.heap.size w w':=by
 have hu29:=Tryd.underlying29
 have HR0_5:=Az.mk hr0_5
 have HC0_5:=Az.mk hc0_5
 clear hr0_5 hc0_5
 have HB:=Az.mk (Below.refl w.heap.size w)
 go_enter Tryd.func51,Tryd.ntmps51
 go_wp2_with (first | ((with_reducible refine gate_dst (N:=1) rfl ?_);refine box_event ?hg (N:=1) ?hd (cs:=#[.bool a0_0,.int .i64 a0_1,.int .i64 a0_2,.int .i64 a0_3,.int .i64 a0_4,.slice A0_5 l0_5.length c0_5]) (t:=29) ?hr ?_;(case hd=>rfl);(case hg=>rfl);(case hr=>first | (go_simp;done) | (go_simp;rfl));intro gb147 hg w2 hbox hb;have n0_:=Az.mk (bwT (bmv HB.out) hb);have n1_:=Az.mk (hbox);have n2_:=Az.mk ((by rw [hg];exact (bwZ (bmv HB.out)) : w.heap.size≤gb147));have n3_:=Az.mk ((by rw [hg];exact (bwZ (bmv HB.out)) : w.heap.size≤gb147));clear HB;have HB:=n0_;have BK147:=n1_;have GW147:=n2_;have GE147:=n3_;clear n0_ n1_ n2_ n3_;clear hb hbox hg) | ((with_reducible refine gate_dst (N:=2) rfl ?_);refine box_event ?hg (N:=2) ?hd (cs:=#[.bool false,.int .i64 0,.int .i64 0,.int .i64 0,.int .i64 0,.slice none 0 0]) (t:=29) ?hr ?_;(case hd=>rfl);(case hg=>rfl);(case hr=>first | (go_simp;done) | (go_simp;rfl));intro gb148 hg w3 hbox hb;have n0_:=Az.mk (kB (g:=gb147) (o:=.cells #[.bool a0_0,.int .i64 a0_1,.int .i64 a0_2,.int .i64 a0_3,.int .i64 a0_4,.slice A0_5 l0_5.length c0_5] 29 (0,0)) (blk_mv BK147.out) hb);have n1_:=Az.mk (bwT (by repeat (with_reducible first | exact bmv HB.out | refine bwS ?_ GE147.out)) hb);have n2_:=Az.mk (hbox);have n3_:=Az.mk ((by rw [hg];exact (bwZ (by repeat (with_reducible first | exact bmv HB.out | refine bwS ?_ GE147.out))) : w.heap.size≤gb148));have n4_:=Az.mk ((by rw [hg];exact (bwZ (by repeat (with_reducible first | exact bmv HB.out | refine bwS ?_ GE147.out))) : w.heap.size≤gb148));have n5_:=Az.mk ((by rw [hg];exact Nat.ne_of_lt (blk_lt (g:=gb147) (o:=.cells #[.bool a0_0,.int .i64 a0_1,.int .i64 a0_2,.int .i64 a0_3,.int .i64 a0_4,.slice A0_5 l0_5.length c0_5] 29 (0,0)) (blk_mv BK147.out)) : gb147≠gb148));have n6_:=Az.mk ((by rw [hg];exact Nat.ne_of_gt (blk_lt (g:=gb147) (o:=.cells #[.bool a0_0,.int .i64 a0_1,.int .i64 a0_2,.int .i64 a0_3,.int .i64 a0_4,.slice A0_5 l0_5.length c0_5] 29 (0,0)) (blk_mv BK147.out)) : gb148≠gb147));clear BK147;clear HB;have BK147:=n0_;have HB:=n1_;have BK148:=n2_;have GW148:=n3_;have GE148:=n4_;have NB147_148:=n5_;have NB148_147:=n6_;clear n0_ n1_ n2_ n3_ n4_ n5_ n6_;clear hb hbox hg;have hnb4:=NB147_148.out;have hnc4:=NB148_147.out;obtain ⟨⟨hcz5_0,hcz5_1,hcz5_2,hcz5_3,hcz5_4,hcz5_5⟩,hfz5_0,hfz5_1,hfz5_2,hfz5_3,hfz5_4,hfz5_5⟩:=cells6 BK147.out;obtain ⟨⟨hcz6_0,hcz6_1,hcz6_2,hcz6_3,hcz6_4,hcz6_5⟩,hfz6_0,hfz6_1,hfz6_2,hfz6_3,hfz6_4,hfz6_5⟩:=cells6 BK148.out))
 refine bodyPost_ret (results_cell_row rfl _ _ gb148 29 #[.bool true,.int .i64 a0_1,.int .i64 a0_2,.int .i64 a0_3,.int .i64 a0_4,.slice none 0 0] (0,0) _ rfl (by (with_reducible repeat (first | refine kN ?_ _ | refine kD ?_ | refine kA ?_ _));refine blk_put (cs:=#[.bool true,.int .i64 a0_1,.int .i64 a0_2,.int .i64 a0_3,.int .i64 a0_4,.slice none 0 0]) ?_ 5 _ rfl;(with_reducible repeat (first | refine kN ?_ _ | refine kD ?_ | refine kA ?_ _));refine blk_put (cs:=#[.bool true,.int .i64 a0_1,.int .i64 a0_2,.int .i64 a0_3,.int .i64 0,.slice none 0 0]) ?_ 4 _ rfl;(with_reducible repeat (first | refine kN ?_ _ | refine kD ?_ | refine kA ?_ _));refine blk_put (cs:=#[.bool true,.int .i64 a0_1,.int .i64 a0_2,.int .i64 0,.int .i64 0,.slice none 0 0]) ?_ 3 _ rfl;(with_reducible repeat (first | refine kN ?_ _ | refine kD ?_ | refine kA ?_ _));refine blk_put (cs:=#[.bool true,.int .i64 a0_1,.int .i64 0,.int .i64 0,.int .i64 0,.slice none 0 0]) ?_ 2 _ rfl;(with_reducible repeat (first | refine kN ?_ _ | refine kD ?_ | refine kA ?_ _));refine blk_put (cs:=#[.bool true,.int .i64 0,.int .i64 0,.int .i64 0,.int .i64 0,.slice none 0 0]) ?_ 1 _ rfl;(with_reducible repeat (first | refine kN ?_ _ | refine kD ?_ | refine kA ?_ _));refine blk_put (cs:=#[.bool false,.int .i64 0,.int .i64 0,.int .i64 0,.int .i64 0,.slice none 0 0]) ?_ 0 _ rfl;(with_reducible repeat (first | refine kN ?_ _ | refine kD ?_ | refine kA ?_ _));refine blk_far ?_ NB148_147.out _;(with_reducible repeat (first | refine kN ?_ _ | refine kD ?_ | refine kA ?_ _));refine blk_far ?_ NB148_147.out _;(with_reducible repeat (first | refine kN ?_ _ | refine kD ?_ | refine kA ?_ _));exact BK148.out) Tryd.underlying29 rfl (by kernel_rfl)) rfl ?_
 exact ⟨rfl,by repeat (with_reducible first | exact bmv HB.out | refine bwS ?_ GE147.out | refine bwS ?_ GE148.out)⟩
def heap_Parent.f (a0 : Int) (a1 : Int) : Option (Int × Int):=(heap_in.f a0 a1).bind fun t149=>(if t149 = true then (if a0 = (wrap64 (a1 - 1)) then (some (0,30)) else ((heap_Level.f a0).bind fun t150=>(if 0≤t150 then (if 0≤(wrap64 (t150 + 1)) then (some (Go.bits .andNot .i64 (Go.bits .or .i64 a0 (shl .i64 1 t150)) (shl .i64 1 (wrap64 (t150 + 1))),0)) else (none)) else (none)))) else (some (0,30)))
set_option maxHeartbeats 8000000 in
set_option maxRecDepth 100000 in
theorem heap_Parent.calls (a0 : Int) (a1 : Int) (r1 : Int) (r2 : Int) (w : World) (hrG : TabG w) (h : heap_Parent.f a0 a1 = some (r1,r2)) :
 Calls Tryd.prog 81 #[.int .i64 a0,.int .i64 a1] w fun e w'=>e = .returned (.tuple #[.int .i64 r1,.int .i64 r2])∧Drawn0 w w':=by
 have HRG:=Az.mk hrG
 clear hrG
 have H : ((heap_in.f a0 a1).bind fun t149=>(if t149 = true then (if a0 = (wrap64 (a1 - 1)) then (some (0,30)) else ((heap_Level.f a0).bind fun t150=>(if 0≤t150 then (if 0≤(wrap64 (t150 + 1)) then (some (Go.bits .andNot .i64 (Go.bits .or .i64 a0 (shl .i64 1 t150)) (shl .i64 1 (wrap64 (t150 + 1))),0)) else (none)) else (none)))) else (some (0,30)))) = some (r1,r2):=h
 clear h
 replace H:=Option.bind_eq_some_iff.mp H
 obtain ⟨t149,A30,H⟩:=H
 replace H : (if t149 = true then (if a0 = (wrap64 (a1 - 1)) then (some (0,30)) else ((heap_Level.f a0).bind fun t150=>(if 0≤t150 then (if 0≤(wrap64 (t150 + 1)) then (some (Go.bits .andNot .i64 (Go.bits .or .i64 a0 (shl .i64 1 t150)) (shl .i64 1 (wrap64 (t150 + 1))),0)) else (none)) else (none)))) else (some (0,30))) = some (r1,r2):=H
 have A3:=Az.mk A30
 clear A30
 by_cases c4 : t149 = true
 · subst c4
   have H1 : (if a0 = (wrap64 (a1 - 1)) then (some (0,30)) else ((heap_Level.f a0).bind fun t150=>(if 0≤t150 then (if 0≤(wrap64 (t150 + 1)) then (some (Go.bits .andNot .i64 (Go.bits .or .i64 a0 (shl .i64 1 t150)) (shl .i64 1 (wrap64 (t150 + 1))),0)) else (none)) else (none)))) = some (r1,r2):=by rw [if_pos rfl] at H;exact H
   clear H
   have H:=H1
   clear H1
   by_cases c5 : a0 = (wrap64 (a1 - 1))
   · rw [if_pos c5] at H
     have c5b0 : (a0 == (wrap64 (a1 - 1))) = true:=beq_iff_eq.mpr c5
     have c5b1 : (a0 != (wrap64 (a1 - 1))) = false:=bne_eq_false_iff_eq.mpr c5
     clear c5
     simp only [Option.some.injEq,Prod.mk.injEq] at H
     obtain ⟨rfl,rfl⟩:=H
     go_enter Tryd.func81,Tryd.ntmps81
     go_wp2_with (first | (go_at_call 70;(with_reducible refine (heap_in.calls a0 a1 true _ A3.out).mono ?_);rintro e w' ⟨rfl,⟨nd,rfl⟩⟩;(try first | exact ⟨rfl,_,World.drewN_drewN _ _ _⟩ | exact ⟨rfl,_,Eq.trans (World.drewN_drewN _ _ _) (congrArg (World.drewN _) (Nat.add_assoc _ _ _))⟩)))
     repeat (go_quiet (first | (go_at_call 70;(with_reducible refine (heap_in.calls a0 a1 true _ A3.out).mono ?_);rintro e w' ⟨rfl,⟨nd,rfl⟩⟩;(try first | exact ⟨rfl,_,World.drewN_drewN _ _ _⟩ | exact ⟨rfl,_,Eq.trans (World.drewN_drewN _ _ _) (congrArg (World.drewN _) (Nat.add_assoc _ _ _))⟩)));try go_wp2_with (first | (go_at_call 70;(with_reducible refine (heap_in.calls a0 a1 true _ A3.out).mono ?_);rintro e w' ⟨rfl,⟨nd,rfl⟩⟩;(try first | exact ⟨rfl,_,World.drewN_drewN _ _ _⟩ | exact ⟨rfl,_,Eq.trans (World.drewN_drewN _ _ _) (congrArg (World.drewN _) (Nat.add_assoc _ _ _))⟩))))
     go_ret2
     exact ⟨by first | rfl | (simp;done) | (simp [*];done),by repeat (first | exact Drawn0.refl _ | apply Drawn0.step)⟩
   · rw [if_neg c5] at H
     have c5b0 : (a0 == (wrap64 (a1 - 1))) = false:=beq_eq_false_iff_ne.mpr c5
     have c5b1 : (a0 != (wrap64 (a1 - 1))) = true:=bne_iff_ne.mpr c5
     replace H:=Option.bind_eq_some_iff.mp H
     obtain ⟨t150,A60,H⟩:=H
     replace H : (if 0≤t150 then (if 0≤(wrap64 (t150 + 1)) then (some (Go.bits .andNot .i64 (Go.bits .or .i64 a0 (shl .i64 1 t150)) (shl .i64 1 (wrap64 (t150 + 1))),0)) else (none)) else (none)) = some (r1,r2):=H
     have A6:=Az.mk A60
     clear A60
     by_cases c7 : 0≤t150
     · rw [if_pos c7] at H
       have c7b0:=eq_true c7
       have c7b1 : decide (0≤t150) = true:=decide_eq_true c7
       clear c7
       obtain ⟨ji8,hji8⟩ : ∃ j_ : Int,(shl .i64 1 t150) = j_:=⟨_,rfl⟩
       replace H : (if 0≤(wrap64 (t150 + 1)) then (some (Go.bits .andNot .i64 (Go.bits .or .i64 a0 (ji8)) (shl .i64 1 (wrap64 (t150 + 1))),0)) else (none)) = some (r1,r2):=by first | (rw [hji8] at H;exact H) | (simp only [hji8] at H ⊢;exact H)
       (try rw [hji8] at A3)
       (try rw [hji8] at A6)
       have hji8_ : (IntKind.i64.wrap (1 * 2 ^ min t150.toNat 64)) = ji8:=hji8
       have hji8z : t150≤64→(IntKind.i64.wrap (1 * 2 ^ t150.toNat)) = ji8:=shl_small hji8
       have hji8u : (IntKind.i64.wrap (2 ^ min t150.toNat 64)) = ji8:=by have h_:=hji8_;rw [Int.one_mul] at h_;exact h_
       have hji8v : t150≤64→(IntKind.i64.wrap (2 ^ t150.toNat)) = ji8:=fun hle_=>by have h_:=hji8z hle_;rw [Int.one_mul] at h_;exact h_
       have hji8y : (wrap64 (1 * 2 ^ min t150.toNat 64)) = ji8:=(i64_w _).symm.trans hji8_
       have hji8x : t150≤64→(wrap64 (1 * 2 ^ t150.toNat)) = ji8:=fun h_=>(i64_w _).symm.trans (hji8z h_)
       obtain ⟨ji9,hji9⟩ : ∃ j_ : Int,(wrap64 (t150 + 1)) = j_:=⟨_,rfl⟩
       replace H : (if 0≤(ji9) then (some (Go.bits .andNot .i64 (Go.bits .or .i64 a0 (ji8)) (shl .i64 1 (ji9)),0)) else (none)) = some (r1,r2):=by first | (rw [hji9] at H;exact H) | (simp only [hji9] at H ⊢;exact H)
       (try rw [hji9] at A3)
       (try rw [hji9] at A6)
       have hji9w : (IntKind.i64.wrap (t150 + 1)) = ji9:=(i64_w _).trans hji9
       by_cases c10 : 0≤(ji9)
       · rw [if_pos c10] at H
         have c10b0:=eq_true c10
         have c10b1 : decide (0≤(ji9)) = true:=decide_eq_true c10
         clear c10
         obtain ⟨ji11,hji11⟩ : ∃ j_ : Int,(shl .i64 1 (ji9)) = j_:=⟨_,rfl⟩
         replace H : (some (Go.bits .andNot .i64 (Go.bits .or .i64 a0 (ji8)) (ji11),0)) = some (r1,r2):=by first | (rw [hji11] at H;exact H) | (simp only [hji11] at H ⊢;exact H)
         (try rw [hji11] at A3)
         (try rw [hji11] at A6)
         have hji11_ : (IntKind.i64.wrap (1 * 2 ^ min (ji9).toNat 64)) = ji11:=hji11
         have hji11z : (ji9)≤64→(IntKind.i64.wrap (1 * 2 ^ (ji9).toNat)) = ji11:=shl_small hji11
         have hji11u : (IntKind.i64.wrap (2 ^ min (ji9).toNat 64)) = ji11:=by have h_:=hji11_;rw [Int.one_mul] at h_;exact h_
         have hji11v : (ji9)≤64→(IntKind.i64.wrap (2 ^ (ji9).toNat)) = ji11:=fun hle_=>by have h_:=hji11z hle_;rw [Int.one_mul] at h_;exact h_
         have hji11y : (wrap64 (1 * 2 ^ min (ji9).toNat 64)) = ji11:=(i64_w _).symm.trans hji11_
         have hji11x : (ji9)≤64→(wrap64 (1 * 2 ^ (ji9).toNat)) = ji11:=fun h_=>(i64_w _).symm.trans (hji11z h_)
         simp only [Option.some.injEq,Prod.mk.injEq] at H
         obtain ⟨rfl,rfl⟩:=H
         go_enter Tryd.func81,Tryd.ntmps81
         go_wp2_with (first | (go_at_call 70;(with_reducible refine (heap_in.calls a0 a1 true _ A3.out).mono ?_);rintro e w' ⟨rfl,⟨nd,rfl⟩⟩;(try first | exact ⟨rfl,_,World.drewN_drewN _ _ _⟩ | exact ⟨rfl,_,Eq.trans (World.drewN_drewN _ _ _) (congrArg (World.drewN _) (Nat.add_assoc _ _ _))⟩)) | (go_at_call 76;(with_reducible refine (heap_Level.calls (hrG:=?sideG) a0 t150 _ A6.out).mono ?_);(case sideG=>(first | (with_reducible exact HRG.out) | exact TabG.below HRG.out (by repeat (first | (with_reducible first | exact HB.out | apply bwA | apply bwN | apply bw1) | (with_reducible exact Below.refl _ _)))));rintro e w' ⟨rfl,⟨nd,rfl⟩⟩;(try first | exact ⟨rfl,_,World.drewN_drewN _ _ _⟩ | exact ⟨rfl,_,Eq.trans (World.drewN_drewN _ _ _) (congrArg (World.drewN _) (Nat.add_assoc _ _ _))⟩)))
         repeat (go_quiet (first | (go_at_call 70;(with_reducible refine (heap_in.calls a0 a1 true _ A3.out).mono ?_);rintro e w' ⟨rfl,⟨nd,rfl⟩⟩;(try first | exact ⟨rfl,_,World.drewN_drewN _ _ _⟩ | exact ⟨rfl,_,Eq.trans (World.drewN_drewN _ _ _) (congrArg (World.drewN _) (Nat.add_assoc _ _ _))⟩)) | (go_at_call 76;(with_reducible refine (heap_Level.calls (hrG:=?sideG) a0 t150 _ A6.out).mono ?_);(case sideG=>(first | (with_reducible exact HRG.out) | exact TabG.below HRG.out (by repeat (first | (with_reducible first | exact HB.out | apply bwA | apply bwN | apply bw1) | (with_reducible exact Below.refl _ _)))));rintro e w' ⟨rfl,⟨nd,rfl⟩⟩;(try first | exact ⟨rfl,_,World.drewN_drewN _ _ _⟩ | exact ⟨rfl,_,Eq.trans (World.drewN_drewN _ _ _) (congrArg (World.drewN _) (Nat.add_assoc _ _ _))⟩)));try go_wp2_with (first | (go_at_call 70;(with_reducible refine (heap_in.calls a0 a1 true _ A3.out).mono ?_);rintro e w' ⟨rfl,⟨nd,rfl⟩⟩;(try first | exact ⟨rfl,_,World.drewN_drewN _ _ _⟩ | exact ⟨rfl,_,Eq.trans (World.drewN_drewN _ _ _) (congrArg (World.drewN _) (Nat.add_assoc _ _ _))⟩)) | (go_at_call 76;(with_reducible refine (heap_Level.calls (hrG:=?sideG) a0 t150 _ A6.out).mono ?_);(case sideG=>(first | (with_reducible exact HRG.out) | exact TabG.below HRG.out (by repeat (first | (with_reducible first | exact HB.out | apply bwA | apply bwN | apply bw1) | (with_reducible exact Below.refl _ _)))));rintro e w' ⟨rfl,⟨nd,rfl⟩⟩;(try first | exact ⟨rfl,_,World.drewN_drewN _ _ _⟩ | exact ⟨rfl,_,Eq.trans (World.drewN_drewN _ _ _) (congrArg (World.drewN _) (Nat.add_assoc _ _ _))⟩))))
         go_ret2
         exact ⟨by first | rfl | (simp;done) | (simp only [← hji8,← hji9,← hji11] <;> (first | rfl | simp)) | (simp [*];done),by repeat (first | exact Drawn0.refl _ | apply Drawn0.step)⟩
       · rw [if_neg c10] at H
         exact absurd H (by simp)
     · rw [if_neg c7] at H
       exact absurd H (by simp)
 · replace c4:=Bool.eq_false_iff.mpr c4
   subst c4
   have H1 : (some (0,30)) = some (r1,r2):=by rw [if_neg (show ¬ (false = true) by decide)] at H;exact H
   clear H
   have H:=H1
   clear H1
   simp only [Option.some.injEq,Prod.mk.injEq] at H
   obtain ⟨rfl,rfl⟩:=H
   go_enter Tryd.func81,Tryd.ntmps81
   go_wp2_with (first | (go_at_call 70;(with_reducible refine (heap_in.calls a0 a1 false _ A3.out).mono ?_);rintro e w' ⟨rfl,⟨nd,rfl⟩⟩;(try first | exact ⟨rfl,_,World.drewN_drewN _ _ _⟩ | exact ⟨rfl,_,Eq.trans (World.drewN_drewN _ _ _) (congrArg (World.drewN _) (Nat.add_assoc _ _ _))⟩)))
   repeat (go_quiet (first | (go_at_call 70;(with_reducible refine (heap_in.calls a0 a1 false _ A3.out).mono ?_);rintro e w' ⟨rfl,⟨nd,rfl⟩⟩;(try first | exact ⟨rfl,_,World.drewN_drewN _ _ _⟩ | exact ⟨rfl,_,Eq.trans (World.drewN_drewN _ _ _) (congrArg (World.drewN _) (Nat.add_assoc _ _ _))⟩)));try go_wp2_with (first | (go_at_call 70;(with_reducible refine (heap_in.calls a0 a1 false _ A3.out).mono ?_);rintro e w' ⟨rfl,⟨nd,rfl⟩⟩;(try first | exact ⟨rfl,_,World.drewN_drewN _ _ _⟩ | exact ⟨rfl,_,Eq.trans (World.drewN_drewN _ _ _) (congrArg (World.drewN _) (Nat.add_assoc _ _ _))⟩))))
   go_ret2
   exact ⟨by first | rfl | (simp;done) | (simp [*];done),by repeat (first | exact Drawn0.refl _ | apply Drawn0.step)⟩
def upF : Nat→Int→Int→Option (List (Int × Int))
 | 0,_,_=>none
 | k + 1,x,n=>(heap_Parent.f x n).bind fun p=>if p.2 = 0 then (upF k p.1 n).map ((x,p.1) :: ·) else some []
theorem upF_mono : ∀ (k : Nat) (x n : Int) (r : List (Int × Int)),upF k x n = some r→upF (k + 1) x n = some r
 | 0,_,_,_,h=>by simp [upF] at h
 | k + 1,x,n,r,h=>by
  unfold upF at h ⊢
  obtain ⟨p,hp,h⟩:=Option.bind_eq_some_iff.1 h
  rw [hp,Option.bind_some]
  by_cases h0 : p.2 = 0
  · rw [if_pos h0] at h ⊢
    obtain ⟨l,hl,rfl⟩:=Option.map_eq_some_iff.1 h
    rw [upF_mono k _ _ _ hl];rfl
  · rw [if_neg h0] at h ⊢;exact h
theorem upF_cons {k : Nat} {x n : Int} {s : Int × Int} {r : List (Int × Int)} (h : upF (k + 1) x n = some (s :: r)) : ∃ p,s = (x,p)∧heap_Parent.f x n = some (p,0)∧upF (k + 1) p n = some r:=by
 unfold upF at h
 obtain ⟨⟨p,e⟩,hp,h⟩:=Option.bind_eq_some_iff.1 h
 by_cases h0 : e = 0
 · rw [if_pos h0] at h
   obtain ⟨l,hl,hc⟩:=Option.map_eq_some_iff.1 h
   obtain ⟨rfl,rfl⟩:=List.cons.inj hc
   subst h0
   exact ⟨p,rfl,hp,upF_mono _ _ _ _ hl⟩
 · rw [if_neg h0] at h;cases h
theorem upF_nil {k : Nat} {x n : Int} (h : upF (k + 1) x n = some []) : ∃ p e,heap_Parent.f x n = some (p,e)∧e≠0:=by
 unfold upF at h
 obtain ⟨⟨p,e⟩,hp,h⟩:=Option.bind_eq_some_iff.1 h
 by_cases h0 : e = 0
 · rw [if_pos h0] at h
   obtain ⟨l,hl,hc⟩:=Option.map_eq_some_iff.1 h
   cases hc
 · exact ⟨p,e,hp,h0⟩
theorem upF_le : ∀ (k : Nat) (x n : Int) (r : List (Int × Int)),upF k x n = some r→r.length < k
 | 0,_,_,_,h=>by simp [upF] at h
 | k + 1,x,n,r,h=>by
  unfold upF at h
  obtain ⟨p,hp,h⟩:=Option.bind_eq_some_iff.1 h
  by_cases h0 : p.2 = 0
  · rw [if_pos h0] at h
    obtain ⟨l,hl,rfl⟩:=Option.map_eq_some_iff.1 h
    have:=upF_le k _ _ _ hl
    simp;omega
  · rw [if_neg h0] at h
    obtain rfl:=Option.some.inj h
    simp
def leftAt (n : Int) (A : Addr) (w : World) : Nat:=match w.cell? A with
 | some (.int _ x)=>((upF 8 x n).getD []).length
 | _=>0
theorem leftAt_eq {n : Int} {A : Addr} {w : World} {x : Int} {r : List (Int × Int)} (h : w.cell? A = some (.int .i64 x)) (hu : upF 8 x n = some r) : leftAt n A w = r.length:=by
 simp [leftAt,h,hu]
theorem drewN_stable {J : World→Prop} (h : ∀ W,J W→J W.drew) : ∀ (m : Nat) (W : World),J W→J (W.drewN m)
 | 0,_,hJ=>hJ
 | m + 1,W,hJ=>by
  have e : W.drewN (m + 1) = (W.drewN m).drew:=by simp [World.drewN,World.drew,Nat.add_assoc]
  rw [e];exact h _ (drewN_stable h m W hJ)
structure RoundKeeps (n₀ Bo : Nat) (W W' : World) : Prop where
 size : W.heap.size≤W'.heap.size
 block : ∀ k,k < n₀→k≠Bo→W'.heap[k]? = W.heap[k]?
theorem RoundKeeps.trans {n₀ Bo : Nat} {A B C : World} (h : RoundKeeps n₀ Bo A B) (k : RoundKeeps n₀ Bo B C) : RoundKeeps n₀ Bo A C:=
 ⟨Nat.le_trans h.size k.size,fun i hi hn=>(k.block i hi hn).trans (h.block i hi hn)⟩
end Go.Proofs.YtbblomnhobodkaaDoor.PTw
namespace Go.Proofs.YtbblomnhobodkaaDoor.PTw
open Go.RowKit Go.Proofs.YtbblomnhobodkaaDoorW.PW Go.Proofs.YtbblomnhobodkaaDoorW.PL Go.Proofs.YtbblomnhobodkaaDoorW.PM
attribute [local go_sem] max2_int min2_int max_two min_two max_three min_three max_four min_four   -- for this text's walks alone
set_option linter.unusedVariables false
set_option linter.unusedSimpArgs false
section
open Go.Shelf
attribute [local go_sem] Oper.semAt_some
set_option maxRecDepth 100000 in
set_option maxHeartbeats 2000000 in
theorem walk_yields (n₀ Bo Bx Bn : Nat) (x n : Int) (steps : List (Int × Int)) (w : World) (hx : Bx < n₀) (hn : Bn < n₀) (hxo : Bx≠Bo) (hno : Bn≠Bo) (hxn : Bx≠Bn) (hgo : ∀ k,k≤1→k≠Bo) (hgx : ∀ k,k≤1→k≠Bx) (hgn : 1 < n₀) (hn₀ : n₀≤w.heap.size)
 (cx : w.heap[Bx]? = some (.cells #[.int .i64 x] 3 (0,0))) (cn : w.heap[Bn]? = some (.cells #[.int .i64 n] 3 (0,0))) (hT : TabG w) (hs : upF 8 x n = some steps) :
 Yields Fence.wide 99 Tryd.prog 80 #[.pointer (some ⟨Bx,0,none⟩),.pointer (some ⟨Bn,0,none⟩)] (fun s : Int × Int=>#[Value.int .i64 s.1,Value.int .i64 s.2]) ⟨Bx,0,none⟩ (RoundKeeps n₀ Bo) steps w:=by
 intro l J W hW hJs hJd hJa hY h0
 have wx : W.heap[Bx]? = some (.cells #[.int .i64 x] 3 (0,0)):=(hW.block _ (by omega)).trans cx
 have wn : W.heap[Bn]? = some (.cells #[.int .i64 n] 3 (0,0)):=(hW.block _ (by omega)).trans cn
 have wT : TabG W:=hT.below hW
 have hsz : n₀≤W.heap.size:=Nat.le_trans hn₀ hW.size
 clear hW cx cn hT
 refine callsIn_of_wp Tryd.func80 rfl trivial ?_ rfl
 simp only [Tryd.ntmps80,List.size_toArray,List.length_cons,List.length_nil,Nat.reduceAdd,Nat.reduceSub,Array.replicate_succ,Array.replicate_zero,List.push_toArray,List.append_toArray,List.nil_append,List.cons_append]
 gi_wp2
 gi_loopw [4] (fun v wr=>∃ (pre rest : List (Int × Int)) (xc : Int),steps = pre ++ rest∧wr.heap[Bx]? = some (.cells #[.int .i64 xc] 3 (0,0))∧wr.heap[Bn]? = some (.cells #[.int .i64 n] 3 (0,0))∧TabG wr∧n₀≤wr.heap.size∧upF 8 xc n = some rest∧J pre wr)
  (fun v wr=>leftAt n ⟨Bx,0,none⟩ wr)
 case atStart=>exact ⟨[],steps,x,rfl,wx,wn,wT,hsz,hs,h0⟩
 case round=>
  have Wx:=Lib.hid wx;have Wn:=Lib.hid wn;have WT:=Lib.hid wT;have HS:=Lib.hid hs;have HYY:=Lib.hid hY;have H0:=Lib.hid h0
  have HJs:=Lib.hid hJs;have HJd:=Lib.hid hJd
  clear wx wn wT hs hY h0 hJs hJd hJa
  obtain ⟨pre,rest,xc,hst,rx,rn,rT,rsz,ru,rJ⟩:=hrel
  have c0 : wr.cell? ⟨Bx,0,none⟩ = some (.int .i64 xc):=by simp [World.cell?,rx]
  have c1 : wr.cell? ⟨Bn,0,none⟩ = some (.int .i64 n):=by simp [World.cell?,rn]
  have HST:=Lib.hid hst;have RX:=Lib.hid rx;have RN:=Lib.hid rn;have RT:=Lib.hid rT;have RU:=Lib.hid ru;have RJ:=Lib.hid rJ
  clear hst rx rn rT ru rJ
  cases rest with
  | nil=>
   obtain ⟨p,e,hp,he⟩:=upF_nil RU.out
   have hcall:=Lib.hid (heap_Parent.calls xc n p e wr RT.out hp)
   have he1 : (e != 0) = true:=by simpa using he
   have he2 : (e == 0) = false:=by simpa using he
   clear hp he
   gi_wp2_with (refine ⟨trivial,?_⟩;gi_at_call 81;refine (callsIn_wide.2 hcall.out).mono ?_;rintro e1 w1 ⟨rfl,⟨m,rfl⟩⟩)
   refine ⟨fun _ h=>(by cases h),?_⟩
   gi_wp2
   refine bodyPost_ret (results_none rfl _ _ _) rfl ?_
   exact ⟨⟨_,rfl⟩,by rw [HST.out,List.append_nil];exact drewN_stable (HJd.out pre) m _ RJ.out⟩
  | cons s rest=>
   obtain ⟨p,rfl,hp,hu⟩:=upF_cons RU.out
   have hcall:=Lib.hid (heap_Parent.calls xc n p 0 wr RT.out hp)
   have HU:=Lib.hid hu
   clear hp hu
   gi_wp2_with (refine ⟨trivial,?_⟩;gi_at_call 81;refine (callsIn_wide.2 hcall.out).mono ?_;rintro e1 w1 ⟨rfl,⟨m,rfl⟩⟩;obtain ⟨fn,tmps,assign,body,hy,hR⟩:=HYY.out pre (xc,p) (wr.drewN m) (drewN_stable (HJd.out pre) m wr RJ.out) ⟨rest,by rw [HST.out];simp⟩;dsimp only at hy;have HR:=Lib.hid hR;clear hR)
   gi_wp2
   refine (HR.out).mono ?_
   rintro e2 W3 ⟨rfl,hJ3,hk3⟩
   have x3 : W3.heap[Bx]? = some (.cells #[.int .i64 xc] 3 (0,0)):=(hk3.block Bx hx hxo).trans RX.out
   have n3 : W3.heap[Bn]? = some (.cells #[.int .i64 n] 3 (0,0)):=(hk3.block Bn hn hno).trans RN.out
   have t3 : TabG W3:=RT.out.heaps (B:=1 + 1) (.inr (by omega)) (fun k h8 _=>hk3.block k (by omega) (hgo k (by omega)))
   have s3 : n₀≤W3.heap.size:=Nat.le_trans rsz hk3.size
   have d0 : W3.cell? ⟨Bx,0,none⟩ = some (.int .i64 xc):=by simp [World.cell?,x3]
   have d1 : W3.frozen? ⟨Bx,0,none⟩ = false:=by simp [World.frozen?,x3]
   have X3:=Lib.hid x3;have N3:=Lib.hid n3;have T3:=Lib.hid t3;have J3:=Lib.hid hJ3
   clear x3 n3 t3 hJ3 hy HR hk3
   gi_wp2
   have X4 : (W3.setCell ⟨Bx,0,none⟩ (.int .i64 p)).heap[Bx]? = some (.cells #[.int .i64 p] 3 (0,0)):=by
    have hlt : Bx < W3.heap.size:=(Array.getElem?_eq_some_iff.1 X3.out).1
    simp [World.setCell,Array.getElem?_modify,X3.out]
   have ne4 : ∀ k,k≠Bx→(W3.setCell ⟨Bx,0,none⟩ (.int .i64 p)).heap[k]? = W3.heap[k]?:=fun k hk=>Below.heap_setCell W3 ⟨Bx,0,none⟩ (.int .i64 p) k hk
   go_roundw
   case rel=>exact ⟨pre ++ [(xc,p)],rest,p,by rw [HST.out];simp,X4,(ne4 _ (Ne.symm hxn)).trans N3.out,T3.out.heaps (B:=1 + 1) (.inr (by omega)) (fun k h8 _=>ne4 k (hgx k (by omega))),by simpa using s3,HU.out,HJs.out _ _ _ J3.out⟩
   case measure=>
    rw [leftAt_eq (x:=p) (by simp [World.cell?,X4]) HU.out,leftAt_eq c0 RU.out]
    simp
theorem walk_calls (x n : Int) (w : World) : Calls Tryd.prog 71 #[.int .i64 x,.int .i64 n] w fun e w'=>
 e = .returned (.func (.func 80) #[] #[.pointer (some ⟨w.heap.size,0,none⟩),.pointer (some ⟨w.heap.size + 1,0,none⟩)])∧w' = (w.alloc (.cells #[.int .i64 x] 3)).alloc (.cells #[.int .i64 n] 3):=by
 go_enter Tryd.func71,Tryd.ntmps71
 go_wp2
 go_ret
 exact ⟨by simp,rfl⟩
theorem infoInt3 : (Tryd.prog.info? 3).map (fun i=>(i.zero,i.size,i.bytes)) = some (some (.int .i64 0),1,8):=by kernel_rfl
structure Coll (w : World) (n₀ Bo Bx : Nat) (xs : List Int) (W : World) : Prop where
 row : ∃ v,W.heap[Bo]? = some (.cells #[v] 27 (0,0))∧W.ownsRow n₀ 3 1 v xs.length (xs.map (Value.int .i64))
 below : Below w.heap.size w W
 size : n₀≤W.heap.size
theorem Coll.own {α : Type} {w : World} {n₀ Bo Bx : Nat} (hw : w.heap.size≤n₀) (hBo : Bo < n₀) (f : List α→List Int) : OwnFrom n₀ (fun (pre : List α) W=>Coll w n₀ Bo Bx (f pre) W):=by
 rintro s W W' row ⟨⟨v,h1,h2⟩,h3,h4⟩ hg hr
 refine ⟨⟨v,?_,h2.kept hg ?_⟩,h3.grown hg h3.size (fun k e=>Nat.le_trans hw (hr k e).1),Nat.le_trans h4 hg.size⟩
 · rw [hg.block Bo (Nat.lt_of_lt_of_le hBo h4) (fun e=>by have:=(hr Bo e.symm).1;omega)];exact h1
 · cases hb : v.ownBlock with
   | none=>exact .inl rfl
   | some g=>
    right
    intro e
    obtain ⟨_,o,ho,hc⟩:=hr g e.symm
    obtain ⟨cells,hcells⟩:=own_typed h2 g hb
    rw [ho] at hcells
    cases hcells
    simp [Obj.isCells] at hc
theorem Coll.set {w : World} {n₀ Bo Bx : Nat} (hw : w.heap.size≤Bx) (hBx : Bx < n₀) (hne : Bo≠Bx) {xs : List Int} {W : World} (v : Value) (h : Coll w n₀ Bo Bx xs W) : Coll w n₀ Bo Bx xs (W.setCell ⟨Bx,0,none⟩ v):=by
 obtain ⟨⟨u,h1,h2⟩,h3,h4⟩:=h
 refine ⟨⟨u,(Below.heap_setCell W ⟨Bx,0,none⟩ v Bo hne).trans h1,own_setCell h2 (fun e=>?_) v⟩,h3.setCell hw v,by simpa using h4⟩
 have:=own_base h2 _ e.symm
 simp at this;omega
theorem Coll.mid {n₀ Bo : Nat} (hBo : Bo < n₀) {xs : List Value} {n : Nat} {o : Obj} {W w1 : World} {v u : Value} (h0 : W.heap[Bo]? = some (.cells #[u] 27 (0,0))) (hr : W.ownsRow n₀ 3 1 v n xs) (hs : n₀≤W.heap.size)
 (hg : (W.alloc o).grownBy w1 v.ownBlock) : w1.heap[Bo]? = some (.cells #[u] 27 (0,0)):=by
 rw [hg.block Bo (by simp;omega) (fun e=>by have:=own_base hr _ e.symm;omega),Below.heap_alloc W _ Bo (by omega)];exact h0
theorem Coll.round {w : World} {n₀ Bo Bx : Nat} (hw : w.heap.size≤Bo) (hBo : Bo < n₀) {xs : List Int} {x : Int} {W w1 : World} {v v' : Value} (h0 : W.heap[Bo]? = some (.cells #[v] 27 (0,0))) (hr : W.ownsRow n₀ 3 1 v xs.length (xs.map (Value.int .i64)))
 (hb : Below w.heap.size w W) (hs : n₀≤W.heap.size) (hown : w1.ownsRow n₀ 3 1 v' (xs.length + 1) (xs.map (Value.int .i64) ++ [.int .i64 x])) (hg : (W.alloc (.cells #[.int .i64 x] 3)).grownBy w1 v.ownBlock) :
 KeepsOthers W (w1.setCell ⟨Bo,0,none⟩ v')∧RoundKeeps n₀ Bo W (w1.setCell ⟨Bo,0,none⟩ v')∧Coll w n₀ Bo Bx (xs ++ [x]) (w1.setCell ⟨Bo,0,none⟩ v'):=by
 have hvb : ∀ k,v.ownBlock = some k→n₀≤k:=fun k e=>own_base hr k e
 have hblk : ∀ k,k < n₀→w1.heap[k]? = W.heap[k]?:=fun k hk=>by
  rw [hg.block k (by simp;omega) (fun e=>by have:=hvb k e.symm;omega),Below.heap_alloc W _ k (by omega)]
 have h1 : w1.heap[Bo]? = some (.cells #[v] 27 (0,0)):=(hblk Bo hBo).trans h0
 have hsz : W.heap.size≤w1.heap.size:=by have:=hg.size;simp at this;omega
 have hB1 : Below w.heap.size w w1:=(bwA hb _).grown hg (bwA hb _).size (fun k e=>by have:=hvb k e;omega)
 refine ⟨(KeepsOthers.alloc W _).trans ((KeepsOthers.of_grownBy hg fun j o ej ho=>?_).trans (KeepsOthers.setCell _ _ _)),⟨by simpa using hsz,fun k hk hn=>(Below.heap_setCell w1 ⟨Bo,0,none⟩ v' k hn).trans (hblk k hk)⟩,
  ⟨v',?_,?_⟩,hB1.setCell hw v',by simp;omega⟩
 · obtain ⟨cells,hcells⟩:=own_typed (hr.alloc (.cells #[.int .i64 x] 3)) j ej
   rw [hcells] at ho;cases ho;rfl
 · have hlt : Bo < w1.heap.size:=(Array.getElem?_eq_some_iff.1 h1).1
   simp [World.setCell,Array.getElem?_modify,h1]
 · have:=own_setCell (p:=⟨Bo,0,none⟩) hown (fun e=>by have:=own_base hown _ e.symm;simp at this;omega) v'
   simpa using this
theorem three_allocs (w : World) (a b c : Obj) : (((w.alloc a).alloc b).alloc c).heap[w.heap.size]? = some a∧(((w.alloc a).alloc b).alloc c).heap[w.heap.size + 1]? = some b∧(((w.alloc a).alloc b).alloc c).heap[w.heap.size + 2]? = some c∧(((w.alloc a).alloc b).alloc c).heap.size = w.heap.size + 3:=by
 refine ⟨?_,?_,?_,by simp⟩
 · rw [Below.heap_alloc _ _ _ (by simp;omega),Below.heap_alloc _ _ _ (by simp)];simpa using World.alloc_heap_new w a
 · rw [Below.heap_alloc _ _ _ (by simp)];simpa using World.alloc_heap_new (w.alloc a) b
 · simpa using World.alloc_heap_new ((w.alloc a).alloc b) c
end
section
open Go.Shelf
attribute [local go_sem] Oper.semAt_some
set_option maxHeartbeats 2000000 in
theorem path_no (a0 a1 : Int) (w : World) (h : heap_in.f a0 a1 = some false) : Calls Tryd.prog 52 #[.int .i64 a0,.int .i64 a1] w fun e w'=>e = .returned (.tuple #[.slice none 0 0,.int .i64 30])∧Below w.heap.size w w':=by
 have hc:=Lib.hid (heap_in.calls a0 a1 false w h)
 clear h
 go_enter Tryd.func52,Tryd.ntmps52
 go_wp2_with (go_at_call 70;refine hc.out.mono ?_;rintro e w' ⟨rfl,⟨nd,rfl⟩⟩)
 go_ret2
 exact ⟨rfl,bwN (Below.refl _ _) _⟩
set_option maxRecDepth 100000 in
set_option maxHeartbeats 4000000 in
theorem path_yes (a0 a1 : Int) (steps : List (Int × Int)) (w : World) (hT : TabG w) (h : heap_in.f a0 a1 = some true) (hs : upF 8 a0 a1 = some steps) :
 Calls Tryd.prog 52 #[.int .i64 a0,.int .i64 a1] w fun e w'=>∃ v,e = .returned (.tuple #[v,.int .i64 0])∧w'.ownsRow w.heap.size 3 1 v steps.length ((steps.map Prod.snd).map (Value.int .i64))∧Below w.heap.size w w':=by
 have hc:=Lib.hid (heap_in.calls a0 a1 true w h)
 have HT:=Lib.hid hT
 have HS:=Lib.hid hs
 clear h hT hs
 refine (callsIn_wide (n:=100)).1 ?_
 refine callsIn_of_wp_marks Tryd.func52 rfl trivial ?_ rfl
 simp only [Tryd.ntmps52,List.size_toArray,List.length_cons,List.length_nil,Nat.reduceAdd,Nat.reduceSub,Array.replicate_succ,Array.replicate_zero,List.push_toArray,List.append_toArray,List.nil_append,List.cons_append]
 gi_wp2_with (first
  | (refine ⟨trivial,?_⟩;gi_at_call 70;refine (callsIn_wide.2 hc.out).mono ?_;rintro e w1 ⟨rfl,⟨nd,rfl⟩⟩)
  | (refine ⟨trivial,?_⟩;gi_at_call 71;refine (callsIn_wide.2 (walk_calls _ _ _)).mono ?_;rintro e w1 ⟨rfl,rfl⟩))
 have hB0 : Below w.heap.size w ((((w.drewN nd).alloc (.cells #[.slice none 0 0] 27)).alloc (.cells #[.int .i64 a0] 3)).alloc (.cells #[.int .i64 a1] 3)):=bwA (bwA (bwA (bwN (Below.refl _ w) nd) _) _) _
 have e4:=three_allocs (w.drewN nd) (.cells #[.slice none 0 0] 27) (.cells #[.int .i64 a0] 3) (.cells #[.int .i64 a1] 3)
 rw [show (w.drewN nd).heap.size = w.heap.size from rfl] at e4
 obtain ⟨e0,e1,e2,e3⟩:=e4
 have hTl:=HT.out.lt
 have hT3:=HT.out.below hB0
 generalize (((w.drewN nd).alloc (.cells #[.slice none 0 0] 27)).alloc (.cells #[.int .i64 a0] 3)).alloc (.cells #[.int .i64 a1] 3) = w3 at *
 have HB0:=Lib.hid hB0;have E0:=Lib.hid e0;have HE3:=Lib.hid e3
 have hle:=upF_le _ _ _ _ HS.out
 obtain ⟨i0,hi,hz0,hz1,hz2⟩:=info_parts infoInt3
 have HI:=Lib.hid (And.intro hi (And.intro hz0 (And.intro hz1 hz2)))
 have hy:=walk_yields (w.heap.size + 3) w.heap.size (w.heap.size + 1) (w.heap.size + 2) a0 a1 steps w3 (by omega) (by omega) (by omega) (by omega) (by omega) (by omega) (by omega) (by omega) (by omega) e1 e2 hT3 HS.out
 clear hB0 e0 e1 e2 hT3 hi hz0 hz1 hz2
 refine wpIn_rangeFunc_cell rfl (by decide) (gf:=80) (lb:=#[.pointer (some ⟨w.heap.size + 1,0,none⟩),.pointer (some ⟨w.heap.size + 2,0,none⟩)]) (by simp [Act.eval]) trivial (enters_of Tryd.func80 (by kernel_rfl) rfl) hy
  RoundKeeps.trans (fun W l o o' hl ho hc=>⟨by simp,fun k hk hn=>other_putObj W l k o' (by omega)⟩) (fun _=>rfl)
  (fun (pre : List (Int × Int)) W=>Coll w (w.heap.size + 3) w.heap.size (w.heap.size + 1) (pre.map Prod.snd) W) (by rw [e3];exact Coll.own (by omega) (by omega) _) (fun s W v h=>h.set (by omega) (by omega) (by omega) v)
  (fun s W h=>⟨h.row,below_drew h.below,h.size⟩) ⟨⟨_,E0.out,own_nil _ _ _ _⟩,HB0.out,by omega⟩
  (fun s=>{ tmps:=#[.int .i64 a0,.int .i64 a1,undef,undef,.slice none 0 0,.int .i64 0,.pointer (some ⟨w.heap.size,0,none⟩),undef,.int .i64 s.2,.int .i64 a0,.int .i64 a1,.bool true,.bool false,.int .i64 a0,.int .i64 a1,.func (.func 80) #[] #[.pointer (some ⟨w.heap.size + 1,0,none⟩),.pointer (some ⟨w.heap.size + 2,0,none⟩)],.int .i64 s.1,.int .i64 s.2,undef,undef,undef,undef,undef],defers:=[] }) ?assign ?body ?done
 case assign=>
  intro l x W K hK
  gi_wp2
  exact hK
 case body=>
  rintro l pre x W ⟨⟨v,h1,h2⟩,h3,h4⟩ hpre
  have hlen : pre.length + 1 < 9:=by
   obtain ⟨t,ht⟩:=hpre
   have:=congrArg List.length ht
   simp at this;omega
  have c1 : W.cell? ⟨w.heap.size,0,none⟩ = some v:=by simp [World.cell?,h1]
  have f1 : W.frozen? ⟨w.heap.size,0,none⟩ = false:=by simp [World.frozen?,h1]
  have hsz:=h3.size
  have H1:=Lib.hid h1;have H2:=Lib.hid h2;have H3:=Lib.hid h3
  clear h1 h2 h3 hpre
  gi_wp2_with (gi_at_builtin;refine wpListIn_append_own _ rfl _ _ 27 rfl (w.heap.size + 3) 3 i0 (.int .i64 0) 1 8 Tryd.underlying27 HI.out.1 HI.out.2.1 HI.out.2.2.1 HI.out.2.2.2 rfl (by decide) _ _ _ rfl (H2.out.alloc _) ⟨W.heap.size,0,none⟩ 1 1 [.int .i64 x.2] rfl rfl (cell_one_new _ _ _) (by simp [Value.oneCell']) (by simp;unfold maxLen;omega) (by simp;omega) (by simp;omega) ?_;intro v' w1 hown' hgrow _;obtain ⟨g',cap',rfl⟩:=ownsRow_succ hown';have hm:=Coll.mid (by omega) H1.out H2.out h4 hgrow;have c2 : w1.cell? ⟨w.heap.size,0,none⟩ = some v:=(by simp [World.cell?,hm]);have f2 : w1.frozen? ⟨w.heap.size,0,none⟩ = false:=(by simp [World.frozen?,hm]);have HOW:=Lib.hid hown';have HGR:=Lib.hid hgrow;clear hm hown' hgrow)
  have hcr:=Coll.round (Nat.le_refl _) (by omega) (Bx:=w.heap.size + 1) H1.out H2.out H3.out h4 HOW.out HGR.out
  rw [List.length_map] at hcr
  refine ⟨hcr.1,hcr.2.1,?_⟩
  show Coll _ _ _ _ (List.map Prod.snd (pre ++ [x])) _
  rw [List.map_append];exact hcr.2.2
 case done=>
  rintro D W hD ⟨⟨v,h1,h2⟩,h3,h4⟩ hK
  have c1 : W.cell? ⟨w.heap.size,0,none⟩ = some v:=by simp [World.cell?,h1]
  have H1:=Lib.hid h1;have H2:=Lib.hid h2;have H3:=Lib.hid h3;have HK:=Lib.hid hK
  clear h1 h2 h3 hK
  gi_wp2
  refine ⟨by simp,.inl ⟨_,_,rfl,run_takeDeferred HK.out,?_⟩⟩
  have h2:=own_weaken H2.out (base':=w.heap.size) (by omega)
  rw [List.length_map] at h2
  exact ⟨_,by simp [results,Tryd.results52,go_sem],v,rfl,h2.kept (grownBy_putObj' W D _) (by
   cases hb : v.ownBlock with
   | none=>exact .inl rfl
   | some g=>
    right
    intro e
    obtain ⟨cells,hcells⟩:=own_typed H2.out g hb
    cases e
    rw [HK.out] at hcells;cases hcells),H3.out.grown (grownBy_putObj' W D _) H3.out.size (fun k e=>by cases e;omega)⟩
end
def heap_Path.f (a0 : Int) (a1 : Int) : Option (List Int × Int):=(heap_in.f a0 a1).bind fun t=>if t = true then (upF 8 a0 a1).map (fun l=>(l.map Prod.snd,0)) else some ([],30)
theorem heap_Path.calls (a0 : Int) (a1 : Int) (r1 : List Int) (r2 : Int) (w : World) (hrG : TabG w) (h : heap_Path.f a0 a1 = some (r1,r2)) :
 Calls Tryd.prog 52 #[.int .i64 a0,.int .i64 a1] w fun e w'=>∃ v0_ : Value,e = .returned (.tuple #[v0_,.int .i64 r2])∧Kd.R (Kd.int .i64) 3 w' w.heap.size (fun _=>True) v0_ r1∧Below w.heap.size w w':=by
 unfold heap_Path.f at h
 obtain ⟨b,hb,h⟩:=Option.bind_eq_some_iff.1 h
 cases b with
 | false=>
  simp only [Bool.false_eq_true,if_false,Option.some.injEq,Prod.mk.injEq] at h
  obtain ⟨rfl,rfl⟩:=h
  refine (path_no a0 a1 w hb).mono ?_
  rintro e w' ⟨rfl,hB⟩
  exact ⟨_,rfl,Kd.R_nil _ _ _ _ _,hB⟩
 | true=>
  simp only [if_true] at h
  obtain ⟨steps,hs,h⟩:=Option.map_eq_some_iff.1 h
  simp only [Prod.mk.injEq] at h
  obtain ⟨rfl,rfl⟩:=h
  refine (path_yes a0 a1 steps w hrG hb hs).mono ?_
  rintro e w' ⟨v,rfl,hr,hB⟩
  refine ⟨v,rfl,Kd.R_of_own ?_ (fun _ _=>trivial),hB⟩
  rw [List.length_map];exact hr
def insRen : Go.Shelf.Ren:=⟨fun | 21=>54 | 27=>74 | 28=>75 | 35=>83 | 39=>85 | n=>n,fun | 22=>27 | 3=>3 | 4=>4 | n=>n,fun | n=>n⟩
theorem insLays : Go.Proofs.Lays2.n21 Tryd.prog insRen:={
 mixed:=by kernel_rfl
 f21:=Tryd.func54.trans (congrArg some (by kernel_rfl))
 f27:=Tryd.func74.trans (congrArg some (by kernel_rfl))
 f28:=Tryd.func75.trans (congrArg some (by kernel_rfl))
 f35:=Tryd.func83.trans (congrArg some (by kernel_rfl))
 f39:=Tryd.func85.trans (congrArg some (by kernel_rfl))
 t0:=Tryd.underlying0
 a0:=Tryd.isAgg0
 z0:=Tryd.sizeOf0
 v0:=Tryd.zeroValue0
 t3:=Tryd.underlying3
 a3:=Tryd.isAgg3
 z3:=Tryd.sizeOf3
 v3:=Tryd.zeroValue3
 t4:=Tryd.underlying4
 a4:=Tryd.isAgg4
 z4:=Tryd.sizeOf4
 v4:=Tryd.zeroValue4
 t22:=Tryd.underlying27
 a22:=Tryd.isAgg27
 z22:=Tryd.sizeOf27
 v22:=Tryd.zeroValue27
 i3:=by kernel_rfl }
theorem ins_cell {w : World} {g : Nat} {e : TypeId} {cur : Array Value} (h : w.heap[g]? = some (.cells cur e (0,0))) (j : Nat) : w.cell? ⟨g,j,none⟩ = cur[j]?:=by simp [World.cell?,h]
theorem ins_frozen {w : World} {g : Nat} {e : TypeId} {cur : Array Value} (h : w.heap[g]? = some (.cells cur e (0,0))) (j : Nat) : w.frozen? ⟨g,j,none⟩ = false:=by simp [World.frozen?,h]
theorem ins_shape {w : World} {g : Nat} {e : TypeId} {cur : Array Value} (h : w.heap[g]? = some (.cells cur e (0,0))) : w.shape? g = some (e,cur.size):=by simp [World.shape?,h]
theorem ins_grown {w w' : World} {g : Nat} (h1 : w'.os = w.os) (h2 : w'.tape = w.tape) (h3 : w'.output = w.output) (h4 : w'.heap.size = w.heap.size) (h5 : ∀ k,k≠g→w'.heap[k]? = w.heap[k]?) : w.grownBy w' (some g):=
 ⟨h1,h2,h3,by omega,fun k _ hk=>h5 k (fun e=>hk (by rw [e]))⟩
theorem ins_set {w : World} {g o : Nat} {e : TypeId} {cur : Array Value} {vs : List Value} (h : w.heap[g]? = some (.cells cur e (0,0))) (hl : o + vs.length≤cur.size) :
 (∃ cur',(w.setCells g o vs).heap[g]? = some (.cells cur' e (0,0))∧cur'.size = cur.size∧cur'.toList = cur.toList.take o ++ vs ++ cur.toList.drop (o + vs.length))∧w.grownBy (w.setCells g o vs) (some g):=by
 obtain ⟨s1,s2,s3,s4⟩:=setCells_same g vs o w
 exact ⟨setCells_row vs o w cur h hl,ins_grown s1 s2 s3 s4 (fun k hk=>setCells_far vs _ k hk)⟩
theorem ins_alloc (w : World) (o : Obj) (row : Option Nat) : (w.alloc o).heap[w.heap.size]? = some o∧w.grownBy (w.alloc o) row:=
 ⟨by show (w.heap.push o)[w.heap.size]? = some o;simp,⟨rfl,rfl,rfl,by show w.heap.size≤(w.heap.push o).size;simp,fun k hk _=>by show (w.heap.push o)[k]? = _;rw [Array.getElem?_push,if_neg (Nat.ne_of_lt hk)]⟩⟩
theorem ins_drew (w w' : World) (row : Option Nat) (h : w.drew.grownBy w' row) : w.grownBy w' row:=⟨h.os,h.tape,h.output,h.size,h.block⟩
theorem ins_trans {w w1 w2 : World} {row row1 : Option Nat} (h : w.grownBy w1 row) (h2 : w1.grownBy w2 row1) (hr : ∀ k,row1 = some k→k < w.heap.size→row = some k) : w.grownBy w2 row:=
 ⟨h2.os.trans h.os,h2.tape.trans h.tape,h2.output.trans h.output,Nat.le_trans h.size h2.size,fun k hk hn=>(h2.block k (Nat.lt_of_lt_of_le hk h.size) (fun e=>hn ((hr k e.symm hk).symm))).trans (h.block k hk hn)⟩
theorem ins_row (w : World) (base i n c vb vc : Nat) (A : Option Addr) (y : Int) (xs : List Int) (vcur : Array Value)
 (hown : w.ownsRow base 3 1 (.slice A n c) n (nums .i64 xs)) (hv : w.heap[vb]? = some (.cells vcur 3 (0,0))) (hv0 : vcur[0]? = some (.int .i64 y)) (hne : some vb≠(Value.slice A n c).ownBlock) (hi : i≤n) (hb : n < 17592186044415) (hbase : base≤w.heap.size) :
 Calls Tryd.prog 54 #[.slice A n c,.int .i64 i,.slice (some ⟨vb,0,none⟩) 1 vc] w fun e w'=>∃ v',e = .returned v'∧w'.ownsRow base 3 1 v' (n + 1) (nums .i64 (xs.take i ++ y :: xs.drop i))∧w.grownBy w' (Value.slice A n c).ownBlock∧
  (v'.ownBlock = (Value.slice A n c).ownBlock∨∃ b,v'.ownBlock = some b∧w.heap.size≤b):=by
 have hlx : (nums .i64 xs).length = n:=by have:=hown.1;omega
 have hlx2 : xs.length = n:=by rw [← hlx];simp [nums]
 have hnum : nums .i64 (xs.take i ++ y :: xs.drop i) = (nums .i64 xs).take i ++ Value.int .i64 y :: (nums .i64 xs).drop i:=by simp [nums,List.map_take,List.map_drop]
 have h1c : ∀ v ∈ nums .i64 xs,v.oneCell' = true:=by
  intro v hv
  obtain ⟨z,_,rfl⟩:=List.mem_map.1 hv
  rfl
 have h1v : ∀ v ∈ [Value.int .i64 y],v.oneCell' = true:=by
  intro v hv
  rw [List.mem_singleton.1 hv]
  rfl
 have hvs : ∀ j v,[Value.int .i64 y][j]? = some v→w.cell? ⟨vb,0 + j,none⟩ = some v:=by
  intro j v hj
  match j with
  | 0=>
   injection hj with hj
   subst hj
   rw [Nat.add_zero,ins_cell hv]
   exact hv0
  | j + 1=>cases hj
 have hcap:=grownCap_ge w (n + 1) c 3
 have hcapm:=grownCap_le_maxLen w (n + 1) c 3 (by unfold maxLen;omega)
 have e3 : insRen.t 3 = 3:=rfl
 have hcz : (Value.int .i64 0).cells.size = 1:=rfl
 rw [hnum]
 generalize hcs : nums .i64 xs = cs at *
 obtain ⟨_,hrow⟩:=hown
 rcases hrow with ⟨hA,hn0⟩ | ⟨g,cap,cur,hA,hbg,hh,hnc,hcm,hsz,htk⟩
 · injection hA with hA _ hc
   subst hA
   subst hc
   subst hn0
   have hi0 : i = 0:=by omega
   subst hi0
   have hcs0 : cs = []:=List.eq_nil_of_length_eq_zero hlx
   subst hcs0
   have L:=Any2.slices_Insert_int_end_grow insLays none 0 0 vb 0 1 vc [] [Value.int .i64 y] w (by omega) (by omega) (by omega) (by omega) rfl rfl (fun _=>rfl) (fun a ha=>by cases ha) hvs h1v
   simp only [e3] at L
   refine Calls.mono L ?_
   rintro e w' ⟨rfl,rfl⟩
   refine ⟨_,rfl,⟨by simp,.inr ⟨w.heap.size,_,_,rfl,hbase,(ins_alloc w.drew _ none).1,hcap,hcapm,?_,?_⟩⟩,ins_drew _ _ _ (ins_alloc w.drew _ _).2,.inr ⟨_,rfl,Nat.le_refl _⟩⟩
   · simp [size_zeroCells,hcz]
     have hcap' : 1≤grownCap w 1 0 3:=hcap
     omega
   · simp
 · injection hA with hA _ hc
   subst hA
   subst hc
   rw [Nat.mul_one] at hsz htk
   have hvg : vb≠g:=fun e=>hne (by rw [e];rfl)
   have hcsj : ∀ j v,cs[j]? = some v→w.cell? ⟨g,0 + j,none⟩ = some v:=by
    intro j v hj
    have hjl : j < n:=by have:=(List.getElem?_eq_some_iff.1 hj).1;omega
    rw [Nat.zero_add,ins_cell hh,← Array.getElem?_toList,← hj,← htk,List.getElem?_take,if_pos hjl]
   by_cases hroom : n + 1≤c
   · by_cases hin : i < n
     · have L:=Any2.slices_Insert_int_shift insLays g 0 n c i vb 0 1 vc cs [Value.int .i64 y] w hin (by omega) hroom (by unfold maxLen at hcm;omega) hvg hlx rfl hcsj
        (fun j hj=>by rw [Nat.zero_add,ins_cell hh,Array.getElem?_eq_getElem (by omega)];rfl) (fun j hj=>ins_frozen hh _) hvs h1c h1v 3 3 vcur.size cur.size (ins_shape hv) (ins_shape hh) (by omega) (ins_frozen hv _) (ins_frozen hv _)
       (try simp only [e3] at L)
       refine Calls.mono L ?_
       rintro e w' ⟨rfl,rfl⟩
       have hhd : w.drew.heap[g]? = some (.cells cur 3 (0,0)):=hh
       obtain ⟨⟨cur1,h1,h2,h3⟩,hg1⟩:=ins_set (o:=0 + (i + 1)) (vs:=cs.drop i) hhd (by simp;omega)
       obtain ⟨⟨cur2,h4,h5,h6⟩,hg2⟩:=ins_set (o:=0 + i) (vs:=[Value.int .i64 y]) h1 (by simp;omega)
       refine ⟨_,rfl,⟨by simp;omega,.inr ⟨g,c,cur2,rfl,hbg,h4,hroom,hcm,by omega,?_⟩⟩,ins_trans (ins_drew _ _ _ hg1) hg2 (fun k e _=>e),.inl rfl⟩
       have e1 : cur.toList.take i = cs.take i:=by rw [← htk,List.take_take,Nat.min_eq_left (by omega)]
       have e2 : cur1.toList.take i = cs.take i:=by
        rw [h3,Nat.zero_add,List.append_assoc,List.take_append_of_le_length (by simp;omega),List.take_take,Nat.min_eq_left (by omega),e1]
       have e3 : cur1.toList.drop (i + 1) = cs.drop i ++ cur.toList.drop (n + 1):=by
        rw [h3,Nat.zero_add,List.append_assoc,List.drop_append_of_le_length (by simp;omega),List.drop_eq_nil_of_le (by simp;omega),List.nil_append]
        congr 2
        simp
        omega
       rw [Nat.mul_one,h6,Nat.zero_add]
       have e4 : ([Value.int .i64 y] : List Value).length = 1:=rfl
       rw [e4,e2,e3,← List.append_assoc,List.take_append_of_le_length (by simp;omega),List.take_of_length_le (by simp;omega)]
       simp
     · have hie : i = n:=by omega
       subst hie
       have L:=Any2.slices_Insert_int_end_room insLays g 0 i c vb 0 1 vc [Value.int .i64 y] w (by omega) hroom (by unfold maxLen at hcm;omega) rfl
        (fun j hj=>by rw [ins_cell hh,Array.getElem?_eq_getElem (by omega)];rfl) (fun j hj=>ins_frozen hh _) hvs h1v
       (try simp only [e3] at L)
       refine Calls.mono L ?_
       rintro e w' ⟨rfl,rfl⟩
       obtain ⟨⟨cur',h1,h2,h3⟩,hg⟩:=ins_set (o:=0 + i) (vs:=[Value.int .i64 y]) hh (by simp;omega)
       refine ⟨_,rfl,⟨by simp;omega,.inr ⟨g,c,cur',rfl,hbg,h1,hroom,hcm,by omega,?_⟩⟩,hg,.inl rfl⟩
       have e1 : cur.toList.take (0 + i) = cs:=by rw [Nat.zero_add];exact htk
       rw [Nat.mul_one,h3,e1,List.take_append_of_le_length (by simp;omega),List.take_of_length_le (by simp;omega),List.take_of_length_le (by omega),List.drop_eq_nil_of_le (by omega)]
   · by_cases hin : i < n
     · have L:=Any2.slices_Insert_int_grow insLays g 0 n c i vb 0 1 vc cs [Value.int .i64 y] w hin (by omega) hnc (by omega) (by omega) hlx rfl hcsj hvs h1c h1v
       (try simp only [e3] at L)
       refine Calls.mono L ?_
       rintro e w' ⟨rfl,rfl⟩
       obtain ⟨ha,hga⟩:=ins_alloc w (.cells ((cs.take i).toArray ++ Builtin.zeroCells (Value.int .i64 0).cells (n + 1 - i) ++ Builtin.zeroCells (Value.int .i64 0).cells (grownCap w (n + 1) c 3 - (n + 1))) 3) (some g)
       have hz1 : (Builtin.zeroCells (Value.int .i64 0).cells (n + 1 - i)).size = n + 1 - i:=by simp [size_zeroCells,hcz]
       have hz2 : (Builtin.zeroCells (Value.int .i64 0).cells (grownCap w (n + 1) c 3 - (n + 1))).size = grownCap w (n + 1) c 3 - (n + 1):=by simp [size_zeroCells,hcz]
       generalize Builtin.zeroCells (Value.int .i64 0).cells (n + 1 - i) = Z1 at *
       generalize Builtin.zeroCells (Value.int .i64 0).cells (grownCap w (n + 1) c 3 - (n + 1)) = Z2 at *
       generalize hW1 : w.alloc (.cells ((cs.take i).toArray ++ Z1 ++ Z2) 3) = W1 at *
       have hsz1 : ((cs.take i).toArray ++ Z1 ++ Z2).size = grownCap w (n + 1) c 3:=by simp;omega
       have had : W1.drew.heap[w.heap.size]? = some (.cells ((cs.take i).toArray ++ Z1 ++ Z2) 3 (0,0)):=ha
       obtain ⟨⟨cur1,h1,h2,h3⟩,hg1⟩:=ins_set (o:=i) (vs:=[Value.int .i64 y]) had (by rw [hsz1];simp;omega)
       have h1d : (W1.drew.setCells w.heap.size i [Value.int .i64 y]).drew.heap[w.heap.size]? = some (.cells cur1 3 (0,0)):=h1
       obtain ⟨⟨cur2,h4,h5,h6⟩,hg2⟩:=ins_set (o:=i + 1) (vs:=cs.drop i) h1d (by rw [h2,hsz1];simp;omega)
       refine ⟨_,rfl,⟨by simp;omega,.inr ⟨w.heap.size,_,cur2,rfl,hbase,h4,hcap,hcapm,by rw [h5,h2,hsz1,Nat.mul_one],?_⟩⟩,
        ins_trans (ins_trans hga (ins_drew _ _ _ hg1) (fun k e hk=>by injection e with e;omega)) (ins_drew _ _ _ hg2) (fun k e hk=>by injection e with e;omega),.inr ⟨_,rfl,Nat.le_refl _⟩⟩
       have e1 : cur1.toList.take (i + 1) = cs.take i ++ [Value.int .i64 y]:=by
        rw [h3,List.take_append_of_le_length (by simp;omega),List.take_of_length_le (by simp;omega)]
        congr 1
        rw [Array.toList_append,Array.toList_append,List.append_assoc,List.toList_toArray,List.take_append_of_le_length (by simp;omega),List.take_take,Nat.min_self]
       rw [Nat.mul_one,h6,e1,List.take_append_of_le_length (by simp;omega),List.take_of_length_le (by simp;omega)]
       simp
     · have hie : i = n:=by omega
       subst hie
       have L:=Any2.slices_Insert_int_end_grow insLays (some ⟨g,0,none⟩) i c vb 0 1 vc cs [Value.int .i64 y] w (by omega) hnc (by omega) (by omega) hlx rfl (fun h=>by cases h) (fun a ha j v hj=>by injection ha with ha;subst ha;rw [Addr.add_lit];exact hcsj j v hj) hvs h1v
       (try simp only [e3] at L)
       refine Calls.mono L ?_
       rintro e w' ⟨rfl,rfl⟩
       refine ⟨_,rfl,⟨by simp;omega,.inr ⟨w.heap.size,_,_,rfl,hbase,(ins_alloc w.drew _ none).1,hcap,hcapm,?_,?_⟩⟩,ins_drew _ _ _ (ins_alloc w.drew _ _).2,.inr ⟨_,rfl,Nat.le_refl _⟩⟩
       · simp [size_zeroCells,hcz]
         omega
       · rw [Nat.mul_one,Array.toList_append,List.toList_toArray,List.take_append_of_le_length (by simp;omega),List.take_of_length_le (by simp;omega),List.take_of_length_le (by omega),List.drop_eq_nil_of_le (by omega)]
theorem late_put {W W1 : World} {base n cap g : Nat} {ok : Nat→Prop} {xs : List S29} {A5 : Option Addr} {c5 : Nat} {v : Value} {l : List Int} (hS : Kd.S k29 29 W base ok (.slice (some ⟨g,0,none⟩) n cap) xs) (i : Int) (h0 : 0≤i) (h1 : i < n)
 (hx : W.cell? ⟨g,i.toNat * 6 + 5,none⟩ = some (.slice A5 (rd_T29 xs i).f5.length c5)) (hnew : ∀ k,W.heap.size≤k→ok k) (hg : W.grownBy W1 (Value.slice A5 (rd_T29 xs i).f5.length c5).ownBlock)
 (hv : Kd.R (Kd.int .i64) 3 W1 base (fun k=>some k = (Value.slice A5 (rd_T29 xs i).f5.length c5).ownBlock∨W.heap.size≤k) v l) :
 W1.cell? ⟨g,i.toNat * 6 + 5,none⟩ = some (.slice A5 (rd_T29 xs i).f5.length c5)∧W1.frozen? ⟨g,i.toNat * 6 + 5,none⟩ = false∧
  Kd.S k29 29 (W1.setCell ⟨g,i.toNat * 6 + 5,none⟩ v) base ok (.slice (some ⟨g,0,none⟩) n cap) (xs.set i.toNat ⟨(rd_T29 xs i).f0,(rd_T29 xs i).f1,(rd_T29 xs i).f2,(rd_T29 xs i).f3,(rd_T29 xs i).f4,l⟩)∧
  (∀ k,k < W.heap.size→¬ ok k→(W1.setCell ⟨g,i.toNat * 6 + 5,none⟩ v).heap[k]? = W.heap[k]?)∧Below base W (W1.setCell ⟨g,i.toNat * 6 + 5,none⟩ v):=by
 have hok : ok g:=(Kd.S_R hS).1 g (by simp [Value.ownBlock])
 have hbg : base≤g:=Kd.S_base hS g (by simp [Value.ownBlock])
 obtain ⟨oki,c,hcl,hM,hcc,hoki,hH⟩:=Kd.S_lend hS z29 i h0 h1
 obtain ⟨v5,rfl,hR5⟩:=k29_openM hM
 have hv5:=hcc 5 _ rfl
 have hv5' : W.cell? ⟨g,i.toNat * 6 + 5,none⟩ = some v5:=hv5
 rw [hx] at hv5'
 injection hv5' with hv5'
 subst hv5'
 have hR5' : Kd.R (Kd.int .i64) 3 W base oki (.slice A5 (rd_T29 xs i).f5.length c5) (rd_T29 xs i).f5:=hR5
 have hH2:=Kd.H_grown (Kd.H_widen hH) hg (fun k hk=>.inl (hR5'.1 k hk))
 have hat:=Kd.H_at hH2 h0 h1
 have hc5:=hat.1 5 _ rfl
 have hMn:=k29_mkM W1 base (fun k=>oki k∨ok k∧W.heap.size≤k) ⟨(rd_T29 xs i).f0,(rd_T29 xs i).f1,(rd_T29 xs i).f2,(rd_T29 xs i).f3,(rd_T29 xs i).f4,l⟩ (v5:=v) (Kd.R_mono hv (fun k hk=>hk.elim (fun e=>.inl (hR5'.1 k e.symm)) (fun e=>.inr ⟨hnew k e,e⟩)))
 obtain ⟨hS2,hg2⟩:=Kd.S_seg0 (seg:=[v]) (j:=5) hH2 h0 h1 (by show 5 + 1≤6;omega) hMn (fun k hk=>hk)
 have hsame : ∀ k,k < W.heap.size→k≠g→some k≠(Value.slice A5 (rd_T29 xs i).f5.length c5).ownBlock→(W1.setCell ⟨g,i.toNat * 6 + 5,none⟩ v).heap[k]? = W.heap[k]?:=
  fun k hlt hkg hk5=>(Below.heap_setCell W1 ⟨g,i.toNat * 6 + 5,none⟩ v k hkg).trans (hg.block k hlt hk5)
 refine ⟨hc5,hat.2 5,hS2,fun k hlt hnk=>hsame k hlt (fun e=>hnk (e ▸ hok)) (fun e=>hnk (hoki k (hR5'.1 k e.symm)).1),?_⟩
 refine ⟨hg2.os.trans hg.os,hg2.tape.trans hg.tape,hg2.output.trans hg.output,Nat.le_trans hg.size hg2.size,fun k hk=>?_⟩
 have hgl : g < W.heap.size:=Kd.S_lt hS g (by simp [Value.ownBlock])
 exact hsame k (by omega) (by omega) (fun e=>by have:=Kd.R_base hR5' k e.symm;omega)
def sBS.f (l0 : List Int) (a1 : Int) : Option (Int × Bool):=if l0.length < 4611686018427387904 then (if l0.Pairwise (·≤·) then some (((l0.countP (· < a1) : Nat) : Int),l0.contains a1) else none) else none
theorem sBS.calls (A0 : Option Addr) (c0 : Nat) (l0 : List Int) (a1 : Int) (r1 : Int) (r2 : Bool) (w : World) (base : Nat) (ok : Nat→Prop) (hR : Kd.R (Kd.int .i64) 3 w base ok (.slice A0 l0.length c0) l0) (h : sBS.f l0 a1 = some (r1,r2)) :
 Calls Tryd.prog 53 #[.slice A0 l0.length c0,.int .i64 a1] w fun e w'=>e = .returned (.tuple #[.int .i64 r1,.bool r2])∧Drawn0 w w':=by
 unfold sBS.f at h
 split at h
 · rename_i h1
   split at h
   · rename_i h2
     simp only [Option.some.injEq,Prod.mk.injEq] at h
     obtain ⟨rfl,rfl⟩:=h
     have ho:=Kd.own_of_R hR
     rcases ho.2 with ⟨hA,hn0⟩ | ⟨g,cap,cur,hA,hbg,hh,hnc,hcm,hsz,htk⟩
     · have hl : l0 = []:=List.eq_nil_of_length_eq_zero hn0
       subst hl
       refine (Tryd.slices_BinarySearch_int_empty A0 c0 a1 w).mono ?_
       rintro e w' ⟨rfl,rfl⟩
       exact ⟨rfl,Drawn0.refl _⟩
     · injection hA with hA _ hc
       subst hA
       refine (Tryd.slices_BinarySearch_int g 0 l0.length c0 l0 a1 w (Nat.le_refl _) h1 (fun j hj=>?_) (by rw [List.take_length];exact h2)).mono ?_
       · rw [Nat.zero_add,ins_cell hh,← Array.getElem?_toList]
         have e1 : (cur.toList.take (l0.length * 1))[j]? = some (.int .i64 (l0.getD j 0)):=by
          rw [htk]
          simp [encs,hj]
         rw [List.getElem?_take,if_pos (by omega)] at e1
         exact e1
       · rintro e w' ⟨rfl,q,rfl⟩
         rw [List.take_length]
         exact ⟨rfl,q,rfl⟩
   · cases h
 · cases h
def sIn.f (l0 : List Int) (a1 : Int) (l2 : List Int) : Option (List Int):=if 0≤a1 then (if a1≤(l0.length : Int) then (if l0.length < 17592186044415 then (match l2 with | [y]=>some (l0.take a1.toNat ++ y :: l0.drop a1.toNat) | _=>none) else none) else none) else none
theorem sIn.calls (A0 : Option Addr) (c0 : Nat) (l0 : List Int) (a1 : Int) (A2 : Option Addr) (c2 : Nat) (l2 : List Int) (r : List Int) (w : World) (base base2 : Nat) (ok ok2 : Nat→Prop)
 (hR : Kd.R (Kd.int .i64) 3 w base ok (.slice A0 l0.length c0) l0) (hR2 : Kd.R (Kd.int .i64) 3 w base2 ok2 (.slice A2 l2.length c2) l2) (hne : ∀ k,(Value.slice A2 l2.length c2).ownBlock = some k→some k≠(Value.slice A0 l0.length c0).ownBlock) (hb : base≤w.heap.size) (h : sIn.f l0 a1 l2 = some r) :
 Calls Tryd.prog 54 #[.slice A0 l0.length c0,.int .i64 a1,.slice A2 l2.length c2] w fun e w'=>∃ v0_ : Value,e = .returned (v0_)∧Kd.R (Kd.int .i64) 3 w' base (fun k=>some k = (Value.slice A0 l0.length c0).ownBlock∨w.heap.size≤k) v0_ r∧w.grownBy w' (Value.slice A0 l0.length c0).ownBlock:=by
 unfold sIn.f at h
 split at h
 · rename_i h1
   split at h
   · rename_i h2
     split at h
     · rename_i h3
       match l2,h with
       | [y],h=>
        simp only [Option.some.injEq] at h
        subst h
        have ho:=Kd.own_of_R hR
        have ho2:=Kd.own_of_R hR2
        rcases ho2.2 with ⟨hA,hn0⟩ | ⟨g,cap,cur,hA,hbg,hh,hnc,hcm,hsz,htk⟩
        · exact absurd hn0 (by simp)
        · injection hA with hA _ hc
          subst hA
          have hv0 : cur[0]? = some (.int .i64 y):=by
           have e1 : (cur.toList.take ([y].length * 1))[0]? = some (.int .i64 y):=by rw [htk];rfl
           rw [List.getElem?_take,if_pos (by simp),Array.getElem?_toList] at e1
           exact e1
          have L:=ins_row w base a1.toNat l0.length c0 g c2 A0 y l0 cur ho hh hv0 (hne g rfl) (by omega) h3 hb
          rw [Int.toNat_of_nonneg h1] at L
          refine Calls.mono L ?_
          rintro e w' ⟨v',rfl,ho',hg,hat⟩
          have hl : l0.length + 1 = (l0.take a1.toNat ++ y :: l0.drop a1.toNat).length:=by simp;omega
          rw [hl] at ho'
          refine ⟨v',rfl,Kd.R_of_own (h1:=fun _=>rfl) ho' (fun k hk=>?_),hg⟩
          rcases hat with hat | ⟨b,hb1,hb2⟩
          · exact .inl (by rw [← hat,hk])
          · rw [hk] at hb1
            injection hb1 with hb1
            exact .inr (by omega)
       | [],h=>cases h
       | _ :: _ :: _,h=>cases h
     · cases h
   · cases h
 · cases h
end Go.Proofs.YtbblomnhobodkaaDoor.PTw
