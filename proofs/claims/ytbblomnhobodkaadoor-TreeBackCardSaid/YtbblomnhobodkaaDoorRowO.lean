/- What this claim reaches of longer texts of this session. -/
import Derived.Test.YtbblomnhobodkaaDoorPureTreeChk
import Derived.Test.YtbblomnhobodkaaDoorPTwx17
import Derived.Test.YtbblomnhobodkaaDoorPTwx10
import Derived.Test.YtbblomnhobodkaaDoorPTwx7
import Derived.Test.YtbblomnhobodkaaDoorPTwx8
import Derived.Test.YtbblomnhobodkaaDoorPTwx5
import Derived.Test.YtbblomnhobodkaaDoorPTwx30
import Derived.Test.YtbblomnhobodkaaDoorPTwx15
import Derived.Test.YtbblomnhobodkaaDoorPTwx1
import Derived.Deep.DeepCutAuto
import Derived.Test.YtbblomnhobodkaaDoorPTwx0
import Derived.Deep.Slices
import Derived.Deep.Fields
import Derived.ChangeSame
import Derived.ChangeShapes
import Derived.WideShapes
import Derived.DataShut
import Derived.OpenShut
import Derived.Shelf.Spec.TrailingZeros
import Derived.Lib.ItoaNum
import Derived.Lib.LaidTab
import Derived.Laws.Bits64
import Derived.Lib.Hide
import Derived.RangeFuncBox
import Derived.Maps.AppendAt
import Derived.Lib.SliceRun
import Derived.Shelf.Spec.SlicesInsert
import Derived.Shelf.Spec.SlicesInsertGrow
set_option linter.unusedVariables false
set_option linter.unusedSimpArgs false
namespace Go.Proofs.YtbblomnhobodkaaDoor.Pure
open Go.RowKit Go.Proofs.YtbblomnhobodkaaDoor Go.Proofs.YtbblomnhobodkaaDoor.PTw Go.Proofs.YtbblomnhobodkaaDoorW.PW
theorem rd_nth {l : List Int} {j : Nat} (h : j < l.length) : rd l (j : Int) = l[j]:=by simp [rd,List.getD_eq_getElem?_getD,List.getElem?_eq_getElem h]
theorem with_done (l : List Int) (i : Int) (hl : l.length≤1000) : ∀ (d j : Nat) (acc : List Int),d + j = l.length→acc.length≤j + 1→Evr (fun k=>r4with.l0 k l i acc true (j : Int)) (acc ++ l.drop j):=by
 intro d
 induction d with
 | zero=>
  intro j acc hd _
  refine .succ (f:=fun _=>some acc) (fun k=>by rw [r4with.l0,if_neg (by omega),if_pos rfl]) (.const fun _=>?_)
  rw [List.drop_eq_nil_of_le (by omega),List.append_nil]
 | succ d ih=>
  intro j acc hd ha
  have hj : j < l.length:=by omega
  rw [List.drop_eq_getElem_cons hj,show acc ++ l[j] :: l.drop (j + 1) = acc ++ [l[j]] ++ l.drop (j + 1) by simp]
  refine .succ (fun k=>?_) (ih (j + 1) (acc ++ [l[j]]) (by omega) (by simp;omega))
  rw [r4with.l0,if_pos (by omega),if_pos rfl,if_pos (by omega),if_pos (by omega),rd_nth hj,wrap_id (by omega),show (j : Int) + 1 = ((j + 1 : Nat) : Int) by omega]
theorem with_open (l : List Int) (i : Int) (hl : l.length≤1000) (hp : l.Pairwise (· < ·)) (hi : i ∉ l) : ∀ (d j : Nat) (acc : List Int),d + j = l.length→acc.length≤j→Evr (fun k=>r4with.l0 k l i acc false (j : Int)) (acc ++ insN (l.drop j) i):=by
 intro d
 induction d with
 | zero=>
  intro j acc hd ha
  refine .succ (f:=fun _=>some (acc ++ [i])) (fun k=>by rw [r4with.l0,if_neg (by omega),if_neg (by decide),if_pos (by omega)]) (.const fun _=>?_)
  rw [List.drop_eq_nil_of_le (by omega)]
  rfl
 | succ d ih=>
  intro j acc hd ha
  have hj : j < l.length:=by omega
  have hne : l[j]≠i:=fun e=>hi (by rw [← e];exact List.getElem_mem hj)
  have hp2 : (l.drop j).Pairwise (· < ·):=hp.sublist (List.drop_sublist _ _)
  rw [List.drop_eq_getElem_cons hj] at hp2 ⊢
  by_cases c : l[j] > i
  · rw [insN_ge hp2 (by omega),show acc ++ i :: l[j] :: l.drop (j + 1) = acc ++ [i] ++ [l[j]] ++ l.drop (j + 1) by simp]
    refine .succ (fun k=>?_) (with_done l i hl d (j + 1) (acc ++ [i] ++ [l[j]]) (by omega) (by simp;omega))
    rw [r4with.l0,if_pos (by omega),if_neg (by decide),if_pos (by omega),rd_nth hj,if_pos c,if_pos (by omega),Option.bind_some,if_pos (by simp;omega),wrap_id (by omega),show (j : Int) + 1 = ((j + 1 : Nat) : Int) by omega]
  · rw [insN_lt (by omega),show acc ++ l[j] :: insN (l.drop (j + 1)) i = acc ++ [l[j]] ++ insN (l.drop (j + 1)) i by simp]
    refine .succ (fun k=>?_) (ih (j + 1) (acc ++ [l[j]]) (by omega) (by simp;omega))
    rw [r4with.l0,if_pos (by omega),if_neg (by decide),if_pos (by omega),rd_nth hj,if_neg c,if_pos (by omega),wrap_id (by omega),show (j : Int) + 1 = ((j + 1 : Nat) : Int) by omega]
theorem with_ev {l : List Int} {i : Int} (hl : l.length≤1000) (hp : l.Pairwise (· < ·)) (hi : i ∉ l) : Evr (fun k=>r4with.f k l i) (insN l i):=by
 have:=with_open l i hl hp hi l.length 0 [] (by omega) (by simp)
 rw [List.drop_zero,List.nil_append] at this
 exact this
theorem radd_l2 {m i : Nat} (hm : m≤5) (hi : i < 2 ^ m) : ∀ (d j : Nat) (g : Nat→S29),2 * d + j = 2 * 2 ^ m - 1→j % 2 = 1→(∀ x,j≤x→(g x).f5.Pairwise (· < ·)∧(g x).f5.length≤1000∧((g x).f0 = true→(i : Int) ∉ (g x).f5))→
 Evr (fun k=>r4Add.l2 k (mkT (2 * 2 ^ m - 1) g) (i : Int) ((2 ^ m : Nat) : Int) (j : Int)) (mkT (2 * 2 ^ m - 1) (fun x=>if j≤x∧x ∈ pathN i m∧(g x).f0 = true then lateIn (g x) i else g x),(i : Int),0):=by
 have hp:=pow_le32 hm
 intro d
 induction d with
 | zero=>
  intro j g hd _ _
  refine .succ (f:=fun _=>some (mkT (2 * 2 ^ m - 1) g,(i : Int),0)) (fun k=>by rw [r4Add.l2,mkT_len,if_neg (by omega)]) (.const fun _=>?_)
  congr 2
  refine mkT_congr fun x hx=>?_
  rw [if_neg (fun hh=>by omega)]
 | succ d ih=>
  intro j g hd ho hg
  have hjN : j < 2 * 2 ^ m - 1:=by omega
  have hstep : ∀ (g' : Nat→S29),(∀ x,x≠j→g' x = g x)→(g' j = if j ∈ pathN i m∧(g j).f0 = true then lateIn (g j) i else g j)→mkT (2 * 2 ^ m - 1) (fun x=>if j + 2≤x∧x ∈ pathN i m∧(g' x).f0 = true then lateIn (g' x) i else g' x) = mkT (2 * 2 ^ m - 1) (fun x=>if j≤x∧x ∈ pathN i m∧(g x).f0 = true then lateIn (g x) i else g x):=fun g' h1 h2=>mkT_congr fun x _=>by
   by_cases c : x = j
   · subst c
     rw [if_neg (fun hh=>by omega),h2]
     by_cases c2 : x ∈ pathN i m∧(g x).f0 = true
     · rw [if_pos c2,if_pos ⟨Nat.le_refl _,c2⟩]
     · rw [if_neg c2,if_neg (fun hh=>c2 hh.2)]
   · rw [h1 x c]
     by_cases c2 : j≤x∧x ∈ pathN i m∧(g x).f0 = true
     · have:=path_odd hm hi c2.2.1
       rw [if_pos c2,if_pos ⟨by omega,c2.2⟩]
     · rw [if_neg c2,if_neg (fun hh=>c2 ⟨by omega,hh.2⟩)]
  have erd : rd_T29 (mkT (2 * 2 ^ m - 1) g) (j : Int) = g j:=mkT_get hjN
  by_cases c0 : (g j).f0 = true
  · have hu:=und_at hm hi (x:=j) hjN
    have hne : j≠2 * i:=by omega
    rw [decide_eq_false hne,Bool.or_false] at hu
    by_cases c1 : j ∈ pathN i m
    · rw [decide_eq_true c1] at hu
      have hw:=with_ev (l:=(g j).f5) (i:=(i : Int)) (hg j (Nat.le_refl _)).2.1 (hg j (Nat.le_refl _)).1 ((hg j (Nat.le_refl _)).2.2 c0)
      rw [← hstep (fun x=>if x = j then lateIn (g j) i else g x) (fun x hx=>by rw [if_neg hx]) (by rw [if_pos rfl,if_pos ⟨c1,c0⟩])]
      have hi2:=ih (j + 2) (fun x=>if x = j then lateIn (g j) i else g x) (by omega) (by omega) (fun x hx=>by
       simp only [if_neg (show ¬ x = j by omega)]
       exact hg x (by omega))
      refine .succ (f:=fun k=>(r3Under.f k (2 * (i : Int)) (j : Int) ((2 ^ m : Nat) : Int)).bind fun t=>if t = true then ((r4with.f k (g j).f5 (i : Int)).bind fun t2=>r4Add.l2 k ((mkT (2 * 2 ^ m - 1) g).set j (⟨(g j).f0,(g j).f1,(g j).f2,(g j).f3,(g j).f4,t2⟩ : S29)) (i : Int) ((2 ^ m : Nat) : Int) ((j + 2 : Nat) : Int)) else r4Add.l2 k (mkT (2 * 2 ^ m - 1) g) (i : Int) ((2 ^ m : Nat) : Int) ((j + 2 : Nat) : Int)) (fun k=>?_) (hu.bind ?_)
      · rw [r4Add.l2,mkT_len,if_pos (by omega),if_pos (by omega),erd,if_pos c0,wrap_id (a:=2 * (i : Int)) (by omega),wrap_id (a:=(j : Int) + 2) (by omega),show (j : Int) + 2 = ((j + 2 : Nat) : Int) by omega,Int.toNat_natCast]
      · simp only [if_true]
        refine hw.bind ?_
        rw [mkT_set]
        exact hi2
    · rw [decide_eq_false c1] at hu
      rw [← hstep g (fun _ _=>rfl) (by rw [if_neg (fun hh=>c1 hh.1)])]
      have hi2:=ih (j + 2) g (by omega) (by omega) (fun x hx=>hg x (by omega))
      refine .succ (f:=fun k=>(r3Under.f k (2 * (i : Int)) (j : Int) ((2 ^ m : Nat) : Int)).bind fun t=>if t = true then ((r4with.f k (g j).f5 (i : Int)).bind fun t2=>r4Add.l2 k ((mkT (2 * 2 ^ m - 1) g).set j (⟨(g j).f0,(g j).f1,(g j).f2,(g j).f3,(g j).f4,t2⟩ : S29)) (i : Int) ((2 ^ m : Nat) : Int) ((j + 2 : Nat) : Int)) else r4Add.l2 k (mkT (2 * 2 ^ m - 1) g) (i : Int) ((2 ^ m : Nat) : Int) ((j + 2 : Nat) : Int)) (fun k=>?_) (hu.bind ?_)
      · rw [r4Add.l2,mkT_len,if_pos (by omega),if_pos (by omega),erd,if_pos c0,wrap_id (a:=2 * (i : Int)) (by omega),wrap_id (a:=(j : Int) + 2) (by omega),show (j : Int) + 2 = ((j + 2 : Nat) : Int) by omega,Int.toNat_natCast]
      · simpa using hi2
  · rw [← hstep g (fun _ _=>rfl) (by rw [if_neg (fun hh=>c0 hh.2)])]
    refine .succ (fun k=>?_) (ih (j + 2) g (by omega) (by omega) (fun x hx=>hg x (by omega)))
    rw [r4Add.l2,mkT_len,if_pos (by omega),if_pos (by omega),erd,if_neg c0,wrap_id (a:=(j : Int) + 2) (by omega),show (j : Int) + 2 = ((j + 2 : Nat) : Int) by omega]
theorem radd_l1 {l : List S29} {n : Nat} (hn : 1≤n) (hn2 : n≤32) (f0 : Bool) (f1 f2 f3 f4 : Int) (l5 : List Int) {r : List S29 × Int × Int} (hr : Evr (fun k=>r4Add.j2 k (mkT (4 * n - 1) (VX l)) (n : Int) f0 f1 f2 f3 f4 l5) r) : ∀ (d N : Nat),d + N = 4 * n - 1→l.length≤N→Evr (fun k=>r4Add.l1 k (mkT N (VX l)) (n : Int) f0 f1 f2 f3 f4 l5) r:=by
 intro d
 induction d with
 | zero=>
  intro N hd hN
  have : N = 4 * n - 1:=by omega
  subst this
  refine .succ (fun k=>?_) hr
  rw [r4Add.l1,mkT_len,wrap_id (a:=4 * (n : Int)) (by omega),wrap_id (by omega),if_neg (by omega)]
 | succ d ih=>
  intro N hd hN
  refine .succ (fun k=>?_) (ih (N + 1) (by omega) (by omega))
  have e : mkT N (VX l) ++ [z29] = mkT (N + 1) (VX l):=mkT_app (M:=1) (fun x hx=>VX_out (by omega))
  rw [r4Add.l1,mkT_len,wrap_id (a:=4 * (n : Int)) (by omega),wrap_id (by omega),if_pos (by omega),if_pos (by omega),← e]
  rfl
theorem radd_j2 {m i : Nat} (hm : m≤5) (hi : i < 2 ^ m) (g : Nat→S29) (hg : ∀ x,(g x).f5.Pairwise (· < ·)∧(g x).f5.length≤1000∧(i : Int) ∉ (g x).f5) (f0 : Bool) (f1 f2 f3 f4 : Int) (l5 : List Int) :
 Evr (fun k=>r4Add.j2 k (mkT (2 * 2 ^ m - 1) g) (i : Int) f0 f1 f2 f3 f4 l5) (mkT (2 * 2 ^ m - 1) (addG g i m ⟨true,f1,f2,f3,f4,[]⟩),(i : Int),0):=by
 have hp:=pow_le32 hm
 have hlo : r4Leaf.f f0 f1 f2 f3 f4 l5 = some (true,f1,f2,f3,f4,[]):=rfl
 obtain ⟨g',hg'⟩ : ∃ g' : Nat→S29,g' = fun x=>if x = 2 * i then (⟨true,f1,f2,f3,f4,[]⟩ : S29) else g x:=⟨_,rfl⟩
 have h:=radd_l2 hm hi (2 ^ m - 1) 1 g' (by omega) (by decide) (fun x _=>by
  rw [hg']
  by_cases c : x = 2 * i
  · simp only [if_pos c]
    exact ⟨List.Pairwise.nil,by simp,fun _=>by simp⟩
  · simp only [if_neg c]
    exact ⟨(hg x).1,(hg x).2.1,fun _=>(hg x).2.2⟩)
 have e : mkT (2 * 2 ^ m - 1) (fun x=>if 1≤x∧x ∈ pathN i m∧(g' x).f0 = true then lateIn (g' x) i else g' x) = mkT (2 * 2 ^ m - 1) (addG g i m ⟨true,f1,f2,f3,f4,[]⟩):=mkT_congr fun x _=>by
  unfold addG
  rw [hg']
  by_cases c : x = 2 * i
  · have hn : x ∉ pathN i m:=fun hh=>by have:=path_odd hm hi hh;omega
    rw [if_neg (fun hh=>hn hh.2.1),if_neg (fun hh=>hn hh.1),if_pos c]
    exact if_pos c
  · simp only [if_neg c]
    by_cases c2 : x ∈ pathN i m∧(g x).f0 = true
    · have:=path_odd hm hi c2.1
      rw [if_pos ⟨by omega,c2⟩,if_pos c2]
    · rw [if_neg (fun hh=>c2 hh.2),if_neg c2]
 rw [e] at h
 refine .succ (fun k=>?_) h
 rw [r4Add.j2,hlo,Option.bind_some,wrap_id (by omega),if_pos (by omega),mkT_len,if_pos (by omega),Option.bind_some,show (2 * (i : Int)).toNat = 2 * i by omega,mkT_set,← hg',(leaves_at (l:=mkT (2 * 2 ^ m - 1) g') (n:=2 ^ m) (mkT_len _ _) hp.1 (by omega)).1,Option.bind_some]
 rfl
theorem radd_l0 {l : List S29} {n : Nat} (h : l.length = 2 * n - 1) (hn : 1≤n) (hn2 : n≤32) (f0 : Bool) (f1 f2 f3 f4 : Int) (l5 : List Int) {i : Nat} (hi : i≤n) (hfull : ∀ j,j < i→(VX l (2 * j)).f0 = true) {r : List S29 × Int × Int} (hr : Evr (fun k=>r4Add.l0 k l (i : Int) f0 f1 f2 f3 f4 l5) r) : ∀ (d j : Nat),d + j = i→Evr (fun k=>r4Add.l0 k l (j : Int) f0 f1 f2 f3 f4 l5) r:=by
 intro d
 induction d with
 | zero=>
  intro j hd
  have : j = i:=by omega
  subst this
  exact hr
 | succ d ih=>
  intro j hd
  refine .succ (fun k=>?_) (ih (j + 1) (by omega))
  have e : fullB l n (j : Int) = true:=by
   unfold fullB
   rw [decide_eq_true (by omega),decide_eq_true (by omega)]
   exact hfull j (by omega)
  rw [r4Add.l0,(full_same h hn (by omega) _).1,e,Option.bind_some,if_pos rfl,wrap_id (by omega),show (j : Int) + 1 = ((j + 1 : Nat) : Int) by omega]
theorem radd_ev {l : List S29} {m m' i : Nat} (hR : RT l m) (hi : i≤2 ^ m) (hfull : ∀ j,j < i→(VX l (2 * j)).f0 = true) (hfree : (VX l (2 * i)).f0 = false) (hm' : (i < 2 ^ m∧m' = m)∨(i = 2 ^ m∧m' = m + 1∧m'≤5)) (f0 : Bool) (f1 f2 f3 f4 : Int) (l5 : List Int) :
 Evr (fun k=>r4Add.f k l f0 f1 f2 f3 f4 l5) (addL l i m' ⟨true,f1,f2,f3,f4,[]⟩,(i : Int),0):=by
 have hm:=hR.hm
 have h:=hR.len
 have hp:=pow_le32 hm
 have h5 : ∀ v ∈ l,v.f5.length < 17592186044416:=fun v hv=>by have:=hR.l5 v hv;omega
 have hgs : ∀ x,(VX l x).f5.Pairwise (· < ·)∧(VX l x).f5.length≤1000∧(i : Int) ∉ (VX l x).f5:=fun x=>⟨hR.rg.up x,by have:=(hR.rg.lates x).2;omega,fun hx=>by
  obtain ⟨j,h1,h2,h3,_⟩:=hR.rg.late x _ hx
  rw [show 2 * i = 2 * j by omega,h3] at hfree
  cases hfree⟩
 refine (copy_ev (by omega) h5).bind ?_
 refine radd_l0 h hp.1 hp.2 f0 f1 f2 f3 f4 l5 hi hfull ?_ i 0 (by omega)
 have enf : fullB l (2 ^ m) (i : Int) = false:=by
  unfold fullB
  by_cases c : i < 2 ^ m
  · have e : (rd_T29 l (2 * (i : Int))).f0 = false:=hfree
    rw [e,Bool.and_false]
  · rw [decide_eq_false (show ¬ (i : Int) < ((2 ^ m : Nat) : Int) by omega),Bool.and_false,Bool.false_and]
 rcases hm' with ⟨hlt,rfl⟩ | ⟨he,rfl,hm5⟩
 · refine .succ (f:=fun k=>r4Add.j2 k l (i : Int) f0 f1 f2 f3 f4 l5) (fun k=>?_) ?_
   · rw [r4Add.l0,(full_same h hp.1 (by omega) _).1,enf,Option.bind_some,if_neg (by decide),(leaves_at h hp.1 (by omega)).1,Option.bind_some,if_neg (by omega)]
   · have:=radd_j2 hm hlt (VX l) hgs f0 f1 f2 f3 f4 l5
     rw [← h,← mkT_self l] at this
     rw [h] at this
     exact this
 · have hp2 : 2 ^ (m + 1) = 2 * 2 ^ m:=by rw [Nat.pow_succ];omega
   have h16 : 2 ^ m≤16:=Nat.le_trans (Nat.pow_le_pow_right (by decide) (show m≤4 by omega)) (by decide)
   refine .succ (f:=fun k=>r4Add.l1 k l (i : Int) f0 f1 f2 f3 f4 l5) (fun k=>?_) ?_
   · rw [r4Add.l0,(full_same h hp.1 (by omega) _).1,enf,Option.bind_some,if_neg (by decide),(leaves_at h hp.1 (by omega)).1,Option.bind_some,if_pos (by omega),if_neg (by omega)]
   · have hj:=radd_j2 hm5 (i:=i) (by omega) (VX l) hgs f0 f1 f2 f3 f4 l5
     rw [show 2 * 2 ^ (m + 1) - 1 = 4 * i - 1 by omega] at hj
     have:=radd_l1 (l:=l) (n:=i) (by omega) (by omega) f0 f1 f2 f3 f4 l5 hj (4 * i - 1 - l.length) l.length (by omega) (Nat.le_refl _)
     rw [← mkT_self l] at this
     have e : mkT (4 * i - 1) (addG (VX l) i (m + 1) ⟨true,f1,f2,f3,f4,[]⟩) = addL l i (m + 1) ⟨true,f1,f2,f3,f4,[]⟩:=by
      unfold addL
      rw [show 2 * 2 ^ (m + 1) - 1 = 4 * i - 1 by omega]
      rfl
     rw [e] at this
     exact this
theorem radd_none {l : List S29} (h : l.length = 63) (h5 : ∀ v ∈ l,v.f5.length≤1000) (hfull : ∀ j,j < 32→(VX l (2 * j)).f0 = true) (f0 : Bool) (f1 f2 f3 f4 : Int) (l5 : List Int) : Evr (fun k=>r4Add.f k l f0 f1 f2 f3 f4 l5) ([],0,41):=by
 refine (copy_ev (by omega) (fun v hv=>by have:=h5 v hv;omega)).bind ?_
 refine radd_l0 (n:=32) (i:=32) (by omega) (by omega) (by omega) f0 f1 f2 f3 f4 l5 (by omega) hfull ?_ 32 0 (by omega)
 refine .succ (f:=fun _=>some (([] : List S29),0,41)) (fun k=>?_) (.const fun _=>rfl)
 have enf : fullB l 32 ((32 : Nat) : Int) = false:=rfl
 rw [r4Add.l0,(full_same (n:=32) (by omega) (by omega) (by omega) _).1,enf,Option.bind_some,if_neg (by decide),(leaves_at (n:=32) (by omega) (by omega) (by omega)).1,Option.bind_some,if_pos rfl]
 exact if_pos (by decide)
theorem rmembers_ev {l : List S29} {n : Nat} (h : l.length = 2 * n - 1) (hn : 1≤n) (hn2 : n≤1000) : Evr (fun k=>r4Members.f k l) (ints (fullN l 0 n)):=by
 have hl0 : ∀ (d j : Nat) (acc : List Nat),d + j = n→acc.length≤j→Evr (fun k=>r4Members.l0 k l (ints acc) (j : Int)) (ints (acc ++ fullN l j d)):=by
  intro d
  induction d with
  | zero=>
   intro j acc hd ha
   refine .succ (f:=fun _=>some (ints acc)) (fun k=>by rw [r4Members.l0,(leaves_at h hn hn2).1,Option.bind_some,if_neg (by omega)]) (.const fun _=>?_)
   simp [fullN]
  | succ d ih=>
   intro j acc hd ha
   have ef : fullB l n (j : Int) = (VX l (2 * j)).f0:=by
    unfold fullB
    rw [decide_eq_true (by omega),decide_eq_true (by omega),Bool.true_and,Bool.true_and]
    rfl
   have e1 : fullN l j (d + 1) = if (VX l (2 * j)).f0 = true then j :: fullN l (j + 1) d else fullN l (j + 1) d:=by
    unfold fullN
    rw [List.range'_succ,List.filter_cons]
   by_cases c : (VX l (2 * j)).f0 = true
   · rw [e1,if_pos c,show acc ++ j :: fullN l (j + 1) d = acc ++ [j] ++ fullN l (j + 1) d by simp]
     refine .succ (fun k=>?_) (ih (j + 1) (acc ++ [j]) (by omega) (by simp;omega))
     rw [r4Members.l0,(leaves_at h hn hn2).1,Option.bind_some,if_pos (by omega),(full_same h hn hn2 _).1,ef,Option.bind_some,if_pos c,ints_len,if_pos (by omega),wrap_id (by omega),show (j : Int) + 1 = ((j + 1 : Nat) : Int) by omega,ints_append]
     rfl
   · rw [e1,if_neg c]
     refine .succ (fun k=>?_) (ih (j + 1) acc (by omega) (by omega))
     rw [r4Members.l0,(leaves_at h hn hn2).1,Option.bind_some,if_pos (by omega),(full_same h hn hn2 _).1,ef,Option.bind_some,if_neg c,wrap_id (by omega),show (j : Int) + 1 = ((j + 1 : Nat) : Int) by omega]
 have:=hl0 n 0 [] (by omega) (by simp)
 rw [List.nil_append] at this
 exact this
theorem tight_both {l : List S29} {n : Nat} (h : l.length = 2 * n - 1) (h1 : 1≤n) (h2 : n≤1000) : ∃ b,Evr (fun k=>tree_tight.f k l) b∧Evr (fun k=>r4Tight.f k l) b:=by
 obtain ⟨b1,t1,t2⟩:=tight_same h h1 (by omega) (n - n / 2) (n / 2) (by omega)
 refine ⟨b1,?_,?_⟩
 · unfold tree_tight.f
   simp only [(leaves_at h h1 (by omega)).2,Option.bind_some]
   rw [Int.tdiv_eq_ediv_of_nonneg (by omega),wrap_id (by omega),show (n : Int) / 2 = ((n / 2 : Nat) : Int) by omega]
   exact t1
 · unfold r4Tight.f
   simp only [(leaves_at h h1 (by omega)).1,Option.bind_some]
   rw [Int.tdiv_eq_ediv_of_nonneg (by omega),wrap_id (by omega),show (n : Int) / 2 = ((n / 2 : Nat) : Int) by omega]
   exact t2
theorem rtight_of {l : List S29} {n : Nat} (h : l.length = 2 * n - 1) (h1 : 1≤n) (h2 : n≤1000) {b : Bool} (ht : Evr (fun k=>tree_tight.f k l) b) : Evr (fun k=>r4Tight.f k l) b:=by
 obtain ⟨b',t1,t2⟩:=tight_both h h1 h2
 rw [ht.uniq t1]
 exact t2
theorem rshrink {g : Nat→S29} {m' : Nat} : ∀ (m : Nat),m≤5→Tops g m m'→Evr (fun k=>r4Remove.l0 k (mkT (2 * 2 ^ m - 1) g)) (mkT (2 * 2 ^ m' - 1) g,0):=by
 intro m
 induction m with
 | zero=>
  intro hm ht
  have : m' = 0:=by have:=ht.le;omega
  subst this
  exact .succ (f:=fun _=>some (mkT (2 * 2 ^ 0 - 1) g,0)) (fun k=>by rw [r4Remove.l0,mkT_len,if_neg (by decide)]) (.const fun _=>rfl)
 | succ m ih=>
  intro hm ht
  have hp:=pow_le32 (m:=m + 1) hm
  have hps : 2 ^ (m + 1) = 2 * 2 ^ m:=by rw [Nat.pow_succ];omega
  have hp0:=Nat.one_le_two_pow (n:=m)
  have hop : ∀ k,r4Remove.l0 (k + 1) (mkT (2 * 2 ^ (m + 1) - 1) g) = (r4Tight.f k (mkT (2 * 2 ^ (m + 1) - 1) g)).bind fun t=>if t = true then some (mkT (2 * 2 ^ (m + 1) - 1) g,0) else r4Remove.l0 k (mkT (2 * 2 ^ m - 1) g):=fun k=>by
   rw [r4Remove.l0,mkT_len,if_pos (by omega),(leaves_at (l:=mkT (2 * 2 ^ (m + 1) - 1) g) (n:=2 ^ (m + 1)) (mkT_len _ _) hp.1 (by omega)).1,Option.bind_some,wrap_id (by omega),if_pos (by omega),if_pos (by omega),mkT_take (by omega),show (((2 ^ (m + 1) : Nat) : Int) - 1).toNat = 2 * 2 ^ m - 1 by omega]
  by_cases c : m' = m + 1
  · subst c
    obtain ⟨i,h1,h2,h3⟩:=ht.yes
    have:=rtight_of (l:=mkT (2 * 2 ^ (m + 1) - 1) g) (n:=2 ^ (m + 1)) (mkT_len _ _) hp.1 (by omega) (tight_yes (l:=mkT (2 * 2 ^ (m + 1) - 1) g) (n:=2 ^ (m + 1)) (mkT_len _ _) hp.1 (by omega) h1 h2 (by rw [mkT_get (by omega)];exact h3))
    exact .succ hop (this.bind (.const fun _=>by rw [if_pos rfl]))
  · have hle : m'≤m:=by have:=ht.le;omega
    have hpm : 2 ^ m'≤2 ^ m:=Nat.pow_le_pow_right (by decide) hle
    have:=rtight_of (l:=mkT (2 * 2 ^ (m + 1) - 1) g) (n:=2 ^ (m + 1)) (mkT_len _ _) hp.1 (by omega) (tight_no (l:=mkT (2 * 2 ^ (m + 1) - 1) g) (n:=2 ^ (m + 1)) (mkT_len _ _) hp.1 (by omega) (fun i h1 h2=>by rw [mkT_get (by omega)];exact ht.no i (by omega) h2))
    have hi:=ih (by omega) ⟨hle,fun i h1 h2=>ht.no i h1 (by omega),ht.yes⟩
    exact .succ hop (this.bind (.congr (fun k=>by rw [if_neg (by decide)]) hi))
theorem rremove_ev {l : List S29} {m m' i : Nat} (hm : m≤5) (h : l.length = 2 * 2 ^ m - 1) (hl : LateOk l) (hi : i < 2 ^ m) (hf : (VX l (2 * i)).f0 = true) (hc : (fullN l 0 (2 ^ m)).length≠1) (ht : Tops (cutG l i m) m m') : Evr (fun k=>r4Remove.f k l (i : Int)) (mkT (2 * 2 ^ m' - 1) (cutG l i m),0):=by
 have hp:=pow_le32 hm
 have h5 : ∀ v ∈ l,v.f5.length < 17592186044416:=fun v hv=>by have:=hl.len v hv;omega
 have hfb : r4Full.f l (i : Int) = some true:=by
  rw [(full_same h hp.1 (by omega) _).1,full_at hm h hi,hf]
 have hms:=rmembers_ev h hp.1 (by omega)
 have hne : 1≤(fullN l 0 (2 ^ m)).length:=by
  have : i ∈ fullN l 0 (2 ^ m):=List.mem_filter.2 ⟨List.mem_range'_1.2 ⟨by omega,by omega⟩,hf⟩
  exact List.length_pos_of_mem this
 have hab:=above_ev hm h hi h5
 have e : (mkT (2 * 2 ^ m - 1) (abvG l i m)).set (2 * i) z29 = mkT (2 * 2 ^ m - 1) (cutG l i m):=by
  rw [mkT_set]
  refine mkT_congr fun x _=>?_
  unfold abvG cutG
  by_cases c : x = 2 * i
  · rw [if_pos c,if_pos c,ite_self]
  · rw [if_neg c,if_neg c]
 refine .congr (f:=fun k=>(r4Members.f k l).bind fun ms=>r4Remove.j0 k l (i : Int) (decide ((ms.length : Int) < 2))) (fun k=>?_) (hms.bind ?_)
 · unfold r4Remove.f
   rw [hfb,Option.bind_some,if_pos rfl]
 · rw [ints_len,decide_eq_false (by omega)]
   refine .succ (f:=fun k=>(r4above.f k l (i : Int)).bind fun t=>if 2 * (i : Int) < (t.length : Int) then r4Remove.l0 k (t.set (2 * i) z29) else none) (fun k=>?_) (hab.bind ?_)
   · rw [r4Remove.j0,if_neg (by decide),wrap_id (by omega),show (2 * (i : Int)).toNat = 2 * i by omega]
     simp only [if_pos (show 0≤2 * (i : Int) by omega)]
     rfl
   · rw [mkT_len,e]
     exact .congr (fun k=>by rw [if_pos (by omega)]) (rshrink m hm ht)
theorem rremove_one {l : List S29} {m : Nat} {i : Int} (hm : m≤5) (h : l.length = 2 * 2 ^ m - 1) (hc : fullB l (2 ^ m) i = true→(fullN l 0 (2 ^ m)).length = 1) : Evr (fun k=>r4Remove.f k l i) ([],40):=by
 have hp:=pow_le32 hm
 have hms:=rmembers_ev h hp.1 (by omega)
 have hj : Evr (fun k=>r4Remove.j0 k l i true) ([],40):=.succ (f:=fun _=>some (([] : List S29),40)) (fun k=>by rw [r4Remove.j0,if_pos rfl]) (.const fun _=>rfl)
 by_cases c : fullB l (2 ^ m) i = true
 · refine .congr (f:=fun k=>(r4Members.f k l).bind fun ms=>r4Remove.j0 k l i (decide ((ms.length : Int) < 2))) (fun k=>?_) (hms.bind ?_)
   · unfold r4Remove.f
     rw [(full_same h hp.1 (by omega) _).1,c,Option.bind_some,if_pos rfl]
   · rw [ints_len,hc c]
     exact hj
 · refine .congr (f:=fun k=>r4Remove.j0 k l i true) (fun k=>?_) hj
   unfold r4Remove.f
   rw [(full_same h hp.1 (by omega) _).1,Option.bind_some,if_neg c]
end Go.Proofs.YtbblomnhobodkaaDoor.Pure
set_option linter.unusedVariables false
set_option linter.unusedSimpArgs false
namespace Go.Proofs.YtbblomnhobodkaaDoor.Pure
open Go.RowKit Go.Proofs.YtbblomnhobodkaaDoor Go.Proofs.YtbblomnhobodkaaDoor.PTw Go.Proofs.YtbblomnhobodkaaDoorW.PW
theorem RG.lateSm {g : Nat→S29} {m : Nat} (h : RG g m) (x : Nat) : (g x).f5.length≤100∧∀ y ∈ (g x).f5,0≤y∧y≤100:=by
 have:=h.lates x
 exact ⟨by omega,fun y hy=>by have:=this.1 y hy;omega⟩
theorem RT.lateSm {l : List S29} {m : Nat} (h : RT l m) : LateSm l:=⟨fun x=>(h.rg.lateSm x).1,fun x=>(h.rg.lateSm x).2⟩
set_option maxRecDepth 100000 in
theorem copN_fin : ∀ m : Fin 6,∀ i : Fin 32,i.val < 2 ^ m.val→∀ x ∈ copN i.val m.val,x < 2 * 2 ^ m.val - 1:=by decide +kernel
theorem copN_lt {m i x : Nat} (hm : m≤5) (hi : i < 2 ^ m) (h : x ∈ copN i m) : x < 2 * 2 ^ m - 1:=by
 have hp:=pow_le32 hm
 exact copN_fin ⟨m,by omega⟩ ⟨i,by omega⟩ hi x h
def filtL (l : List S29) : List Nat→List Nat→List (Nat × Nat)
 | p :: P,c :: C=>if 0 < (resN l (lvN c) c).length then (p,c) :: filtL l P C else filtL l P C
 | _,_=>[]
theorem filtL_sub {l : List S29} : ∀ (P C : List Nat),((filtL l P C).map Prod.fst).Sublist P
 | [],C=>by unfold filtL;simp
 | p :: P,[]=>by unfold filtL;simp
 | p :: P,c :: C=>by
  unfold filtL
  split
  · exact (filtL_sub P C).cons_cons p
  · exact (filtL_sub P C).cons p
theorem tfilt_l0 {l : List S29} {m : Nat} (hR : RT l m) (P C : List Nat) (he : P.length = C.length) (hl : C.length≤1000) (hC : ∀ c ∈ C,c < 2 * 2 ^ m - 1) : ∀ (d j : Nat) (a b : List Nat),d + j = C.length→a.length≤j→b.length≤j→
 Evr (fun k=>tree_Filtered.l0 k l (ints a) (ints b) (ints P) (ints C) ((ints C).length : Int) (j : Int)) (ints (a ++ (filtL l (P.drop j) (C.drop j)).map Prod.fst),ints (b ++ (filtL l (P.drop j) (C.drop j)).map Prod.snd))∧
 Evr (fun k=>r4Filtered.l0 k l (ints a) (ints b) (ints P) (ints C) (j : Int)) (ints (a ++ (filtL l (P.drop j) (C.drop j)).map Prod.fst),ints (b ++ (filtL l (P.drop j) (C.drop j)).map Prod.snd)):=by
 intro d
 induction d with
 | zero=>
  intro j a b hd _ _
  rw [List.drop_eq_nil_of_le (by omega),List.drop_eq_nil_of_le (by omega)]
  refine ⟨.succ (f:=fun _=>some (ints a,ints b)) (fun k=>by rw [tree_Filtered.l0,if_neg (by rw [ints_len];omega)]) (.const fun _=>?_),.succ (f:=fun _=>some (ints a,ints b)) (fun k=>by rw [r4Filtered.l0,ints_len,if_neg (by omega)]) (.const fun _=>?_)⟩
  · simp [filtL]
  · simp [filtL]
 | succ d ih=>
  intro j a b hd ha hb
  have hj : j < C.length:=by omega
  have hjP : j < P.length:=by omega
  have hc:=hC _ (List.getElem_mem hj)
  have h1:=tres_ev hR.hm hR.len hR.lateSm (lvN C[j]) C[j] rfl (by rw [hR.len];exact hc)
  have h2:=rres_ev hR.hm hR.len hR.lateSm (x:=C[j]) (by rw [hR.len];exact hc)
  have et : ∀ k,tree_Filtered.l0 (k + 1) l (ints a) (ints b) (ints P) (ints C) ((ints C).length : Int) (j : Int) = (tree_Resolution.f k l (C[j] : Int)).bind fun t=>if (t.length : Int) > 0 then tree_Filtered.l0 k l (ints (a ++ [P[j]])) (ints (b ++ [C[j]])) (ints P) (ints C) ((ints C).length : Int) ((j + 1 : Nat) : Int) else tree_Filtered.l0 k l (ints a) (ints b) (ints P) (ints C) ((ints C).length : Int) ((j + 1 : Nat) : Int):=fun k=>by
   rw [tree_Filtered.l0,ints_len,if_pos (by omega),if_pos (by omega),if_pos (by omega),ints_at hj,ints_at hjP,wrap_id (by omega),show (j : Int) + 1 = ((j + 1 : Nat) : Int) by omega,ints_len,ints_len,ints_len,if_pos (show (j : Int) < (P.length : Int) by omega),if_pos (show a.length < 17592186044416 by omega),if_pos (show b.length < 17592186044416 by omega),ints_append,ints_append]
   rfl
  have er : ∀ k,r4Filtered.l0 (k + 1) l (ints a) (ints b) (ints P) (ints C) (j : Int) = (r4Resolution.f k l (C[j] : Int)).bind fun t=>if (t.length : Int) > 0 then r4Filtered.l0 k l (ints (a ++ [P[j]])) (ints (b ++ [C[j]])) (ints P) (ints C) ((j + 1 : Nat) : Int) else r4Filtered.l0 k l (ints a) (ints b) (ints P) (ints C) ((j + 1 : Nat) : Int):=fun k=>by
   rw [r4Filtered.l0,ints_len,if_pos (by omega),if_pos (by omega),ints_len,if_pos (by omega),ints_at hj,ints_at hjP,wrap_id (by omega),show (j : Int) + 1 = ((j + 1 : Nat) : Int) by omega,ints_len,ints_len,if_pos (show a.length < 17592186044416 by omega),if_pos (show b.length < 17592186044416 by omega),ints_append,ints_append]
   rfl
  rw [List.drop_eq_getElem_cons hj,List.drop_eq_getElem_cons hjP]
  unfold filtL
  by_cases c : 0 < (resN l (lvN C[j]) C[j]).length
  · rw [if_pos c,List.map_cons,List.map_cons]
    obtain ⟨i1,i2⟩:=ih (j + 1) (a ++ [P[j]]) (b ++ [C[j]]) (by omega) (by simp;omega) (by simp;omega)
    rw [List.append_assoc,List.append_assoc] at i1 i2
    refine ⟨.succ et (h1.bind (.congr (fun k=>by rw [if_pos (by omega)]) i1)),.succ er (h2.bind (.congr (fun k=>by rw [if_pos (by omega)]) i2))⟩
  · rw [if_neg c]
    obtain ⟨i1,i2⟩:=ih (j + 1) a b (by omega) (by omega) (by omega)
    refine ⟨.succ et (h1.bind (.congr (fun k=>by rw [if_neg (by omega)]) i1)),.succ er (h2.bind (.congr (fun k=>by rw [if_neg (by omega)]) i2))⟩
def fP (l : List S29) (i m : Nat) : List Nat:=(filtL l (pathN i m) (copN i m)).map Prod.fst
def fC (l : List S29) (i m : Nat) : List Nat:=(filtL l (pathN i m) (copN i m)).map Prod.snd
theorem fP_sub (l : List S29) (i m : Nat) : (fP l i m).Sublist (pathN i m):=filtL_sub _ _
theorem fP_len (l : List S29) (i m : Nat) : (fP l i m).length≤m:=by
 have:=(fP_sub l i m).length_le
 simpa [pathN] using this
def filtR (l : List S29) (m : Nat) (i : Int) : List Nat × List Nat:=if 0≤i∧i < ((2 ^ m : Nat) : Int) then (fP l i.toNat m,fC l i.toNat m) else ([],[])
theorem cop_at {m i : Nat} (hm : m≤5) (hi : i < 2 ^ m) : heap_Copath.f (2 * (i : Int)) ((2 ^ m : Nat) : Int) = some (ints (copN i m),0)∧Evr (fun k=>r3Path.f k (2 * (i : Int)) ((2 ^ m : Nat) : Int)) (ints (pathN i m))∧Evr (fun k=>r3Copath.f k (2 * (i : Int)) ((2 ^ m : Nat) : Int)) (ints (copN i m)):=by
 have hp:=pow_le32 hm
 obtain ⟨h1,h2,h3⟩:=cop_fin ⟨m,by omega⟩ ⟨i,by omega⟩ hi
 exact ⟨h1,.of_mono (K:=100) (fun k a h=>r3Path.mono _ _ k _ h) h2,.of_mono (K:=100) (fun k a h=>r3Copath.mono _ _ k _ h) h3⟩
theorem filt_ev {l : List S29} {m : Nat} (hR : RT l m) (i : Int) : Evr (fun k=>tree_Filtered.f k l i) (ints (filtR l m i).1,ints (filtR l m i).2)∧Evr (fun k=>r4Filtered.f k l i) (ints (filtR l m i).1,ints (filtR l m i).2):=by
 have hm:=hR.hm
 have hp:=pow_le32 hm
 have h:=hR.len
 unfold filtR tree_Filtered.f r4Filtered.f
 simp only [(leaves_at h hp.1 (by omega)).1,(leaves_at h hp.1 (by omega)).2,Option.bind_some]
 have tj : Evr (fun k=>tree_Filtered.j0 k l i [] [] ((2 ^ m : Nat) : Int) true) (ints [],ints []):=.succ (f:=fun _=>some (([] : List Int),([] : List Int))) (fun k=>by rw [tree_Filtered.j0,if_pos rfl]) (.const fun _=>rfl)
 have rj : Evr (fun k=>r4Filtered.j0 k l i [] [] true) (ints [],ints []):=.succ (f:=fun _=>some (([] : List Int),([] : List Int))) (fun k=>by rw [r4Filtered.j0,if_pos rfl]) (.const fun _=>rfl)
 by_cases c1 : i < 0
 · simp only [if_pos c1,if_neg (show ¬ (0≤i∧i < ((2 ^ m : Nat) : Int)) by omega)]
   exact ⟨tj,rj⟩
 · by_cases c2 : i < ((2 ^ m : Nat) : Int)
   · obtain ⟨n,rfl⟩ : ∃ n : Nat,i = (n : Int):=⟨i.toNat,by omega⟩
     have hn : n < 2 ^ m:=by omega
     simp only [if_neg c1,if_pos (show 0≤(n : Int)∧(n : Int) < ((2 ^ m : Nat) : Int) by omega),Int.toNat_natCast]
     obtain ⟨hc,hp3,hc3⟩:=cop_at hm hn
     have hpa:=path_at hm hn
     have hlen : (pathN n m).length = (copN n m).length:=by simp [pathN,copN]
     obtain ⟨f1,f2⟩:=tfilt_l0 hR (pathN n m) (copN n m) hlen (by simp [copN];omega) (fun c hc=>copN_lt hm hn hc) (copN n m).length 0 [] [] (by omega) (by simp) (by simp)
     rw [List.drop_zero,List.drop_zero,List.nil_append,List.nil_append] at f1 f2
     rw [decide_eq_false (show ¬ (n : Int)≥((2 ^ m : Nat) : Int) by omega)]
     refine ⟨.succ (f:=fun k=>tree_Filtered.l0 k l [] [] (ints (pathN n m)) (ints (copN n m)) ((ints (copN n m)).length : Int) 0) (fun k=>?_) f1,.succ (f:=fun k=>(r3Path.f k (2 * (n : Int)) ((2 ^ m : Nat) : Int)).bind fun t=>(r3Copath.f k (2 * (n : Int)) ((2 ^ m : Nat) : Int)).bind fun u=>r4Filtered.l0 k l [] [] t u 0) (fun k=>?_) (hp3.bind (hc3.bind f2))⟩
     · rw [tree_Filtered.j0,if_neg (by decide),wrap_id (by omega),hpa,Option.bind_some,hc,Option.bind_some]
     · rw [r4Filtered.j0,if_neg (by decide),(leaves_at h hp.1 (by omega)).1,Option.bind_some,wrap_id (by omega)]
   · simp only [if_neg c1,if_neg (show ¬ (0≤i∧i < ((2 ^ m : Nat) : Int)) by omega),decide_eq_true (show i≥((2 ^ m : Nat) : Int) by omega)]
     exact ⟨tj,rj⟩
theorem keys_ev {l : List S29} {m : Nat} (hR : RT l m) (o : Int) (i : Int) (b : Bool) (key c s h : Int) (late : List Int) (more : Int) : Evr (fun k=>w4keys.f k l o i b key c s h late more) (List.replicate ((((filtR l m i).1.length : Nat) : Int) + (if -40≤more∧more≤40 then more else 0)).toNat key):=by
 have hm:=hR.hm
 have hlen : (filtR l m i).1.length≤5:=by
  unfold filtR
  split
  · have:=fP_len l i.toNat m;show (fP l i.toNat m).length≤5;omega
  · simp
 have hl0 : ∀ (q : Int),q≤1000→∀ (d j : Nat),(d : Int) + j = q∨(d = 0∧q < (j : Int))→Evr (fun k=>w4keys.l0 k q (List.replicate j key) (j : Int) o i b key c s h late more) (List.replicate (j + d) key):=by
  intro q hq d
  induction d with
  | zero=>
   intro j hd
   exact .succ (f:=fun _=>some (List.replicate j key)) (fun k=>by rw [w4keys.l0,if_neg (by omega)]) (.const fun _=>rfl)
  | succ d ih=>
   intro j hd
   have:=ih (j + 1) (by omega)
   rw [show j + (d + 1) = j + 1 + d by omega]
   refine .succ (fun k=>?_) this
   rw [w4keys.l0,if_pos (by omega),List.length_replicate,if_pos (by omega),wrap_id (by omega),← List.replicate_succ',show (j : Int) + 1 = ((j + 1 : Nat) : Int) by omega]
 have hj1 : ∀ (q : Int),q≤1000→Evr (fun k=>w4keys.j1 k q o i b key c s h late more) (List.replicate q.toNat key):=fun q hq=>by
  have:=hl0 q hq q.toNat 0 (by omega)
  rw [Nat.zero_add] at this
  exact .succ (f:=fun k=>w4keys.l0 k q [] 0 o i b key c s h late more) (fun k=>by rw [w4keys.j1]) this
 refine .congr (f:=fun k=>(r4Filtered.f k l i).bind fun p=>w4keys.j0 k (p.1.length : Int) (decide (-40≤more∧more≤40)) o i b key c s h late more) (fun k=>?_) ((filt_ev hR i).2.bind ?_)
 · unfold w4keys.f
   congr 1
   funext p
   by_cases c1 : more≥-40
   · rw [if_pos c1]
     congr 1
     by_cases c2 : more≤40
     · rw [decide_eq_true c2,decide_eq_true ⟨c1,c2⟩]
     · rw [decide_eq_false c2,decide_eq_false (fun hh=>c2 hh.2)]
   · rw [if_neg c1,decide_eq_false (fun hh=>c1 hh.1)]
 · rw [ints_len]
   by_cases c1 : -40≤more∧more≤40
   · rw [decide_eq_true c1,if_pos c1]
     exact .succ (fun k=>by rw [w4keys.j0,if_pos rfl,wrap_id (by omega)]) (hj1 _ (by omega))
   · rw [decide_eq_false c1,if_neg c1,Int.add_zero]
     exact .succ (fun k=>by rw [w4keys.j0,if_neg (by decide)]) (hj1 _ (by omega))
def AllKey (F : Nat→S29) : Prop:=∀ x,∃ k h : Int,F x = ⟨true,k,0,0,h,[]⟩
theorem mer_same : ∀ k p ks hs x j,r4Merge.l0 k p ks hs x j = tree_Merge.l0 k p ks hs x j:=by
 intro k
 induction k with
 | zero=>intros;rfl
 | succ k ih=>
  intro p ks hs x j
  rw [r4Merge.l0,tree_Merge.l0,ih]
theorem mer_l0 (P : List Nat) (N : Nat) (hP : ∀ x ∈ P,x < N) (hN : P.Nodup) (ks hs : List Int) (hk : ks.length = P.length) (hh : hs.length = P.length) (hl : P.length≤1000) : ∀ (d j : Nat),d + j = P.length→∃ F : Nat→S29,AllKey F∧∀ g,Evr (fun k=>tree_Merge.l0 k (ints P) ks hs (mkT N g) (j : Int)) (mkT N (fun x=>if x ∈ P.drop j then F x else g x),0):=by
 intro d
 induction d with
 | zero=>
  intro j hd
  refine ⟨fun _=>⟨true,0,0,0,0,[]⟩,fun _=>⟨0,0,rfl⟩,fun g=>?_⟩
  refine .succ (f:=fun _=>some (mkT N g,0)) (fun k=>by rw [tree_Merge.l0,ints_len,if_neg (by omega)]) (.const fun _=>?_)
  rw [List.drop_eq_nil_of_le (by omega)]
  simp only [List.not_mem_nil,if_false]
 | succ d ih=>
  intro j hd
  have hj : j < P.length:=by omega
  have hx:=hP _ (List.getElem_mem hj)
  have mem:=fun x=>mem_cut hj (x:=x)
  have hnot : P[j] ∉ P.drop (j + 1):=by
   have:=hN
   rw [← List.take_append_drop j P,List.drop_eq_getElem_cons hj] at this
   have:=(List.nodup_append.1 this).2.1
   exact (List.nodup_cons.1 this).1
  obtain ⟨F,hF,he⟩:=ih (j + 1) (by omega)
  refine ⟨fun x=>if x = P[j] then ⟨true,rd ks (j : Int),0,0,rd hs (j : Int),[]⟩ else F x,fun x=>?_,fun g=>?_⟩
  · by_cases c : x = P[j]
    · exact ⟨_,_,if_pos c⟩
    · obtain ⟨a,b,h⟩:=hF x
      exact ⟨a,b,(if_neg c).trans h⟩
  · have h1:=he (fun x=>if x = P[j] then ⟨true,rd ks (j : Int),0,0,rd hs (j : Int),[]⟩ else g x)
    have e : mkT N (fun x=>if x ∈ P.drop (j + 1) then F x else if x = P[j] then (⟨true,rd ks (j : Int),0,0,rd hs (j : Int),[]⟩ : S29) else g x) = mkT N (fun x=>if x ∈ P.drop j then (if x = P[j] then (⟨true,rd ks (j : Int),0,0,rd hs (j : Int),[]⟩ : S29) else F x) else g x):=mkT_congr fun x _=>by
     by_cases c1 : x = P[j]
     · rw [if_neg (by rw [c1];exact hnot),if_pos c1,if_pos ((mem x).2 (.inl c1)),if_pos c1]
     · by_cases c2 : x ∈ P.drop (j + 1)
       · rw [if_pos c2,if_pos ((mem x).2 (.inr c2)),if_neg c1]
       · rw [if_neg c2,if_neg c1,if_neg (fun hh=>((mem x).1 hh).elim c1 c2)]
    rw [e] at h1
    refine .succ (fun k=>?_) h1
    rw [tree_Merge.l0,ints_len,if_pos (by omega),if_pos (by omega),if_pos (by omega),if_pos (by omega),ints_at hj,if_pos (by omega),mkT_len,if_pos (by omega),Int.toNat_natCast,mkT_set,wrap_id (by omega),show (j : Int) + 1 = ((j + 1 : Nat) : Int) by omega]
theorem merge_ev {l : List S29} {m i : Nat} (hR : RT l m) (hi : i < 2 ^ m) (hf : (VX l (2 * i)).f0 = true) (f0 : Bool) (f1 f2 f3 f4 : Int) (l5 ks hs : List Int) (hk : ks.length = (fP l i m).length) (hh : hs.length = (fP l i m).length) : ∃ F : Nat→S29,AllKey F∧
 Evr (fun k=>tree_Merge.f k l (i : Int) f0 f1 f2 f3 f4 l5 ks hs) (mkT (2 * 2 ^ m - 1) (merG (VX l) i m ⟨true,f1,f2,f3,f4,[]⟩ (fun x=>if x ∈ fP l i m then F x else z29)),0)∧
 Evr (fun k=>r4Merge.f k l (i : Int) f0 f1 f2 f3 f4 l5 ks hs) (mkT (2 * 2 ^ m - 1) (merG (VX l) i m ⟨true,f1,f2,f3,f4,[]⟩ (fun x=>if x ∈ fP l i m then F x else z29)),0):=by
 have hm:=hR.hm
 have h:=hR.len
 have hp:=pow_le32 hm
 have hok:=pathN_ok hm hi
 have h5 : ∀ v ∈ l,v.f5.length < 17592186044416:=fun v hv=>by have:=hR.l5 v hv;omega
 have hfl:=filt_ev hR (i : Int)
 have hfr : filtR l m (i : Int) = (fP l i m,fC l i m):=by unfold filtR;rw [if_pos (by omega),Int.toNat_natCast]
 rw [hfr] at hfl
 have hPsub : ∀ x ∈ fP l i m,x ∈ pathN i m:=fun x hx=>(fP_sub l i m).subset hx
 obtain ⟨F,hF,he⟩:=mer_l0 (fP l i m) (2 * 2 ^ m - 1) (fun x hx=>(hok.2 x (hPsub x hx)).2) ((fP_sub l i m).nodup hok.1) ks hs hk hh (by have:=fP_len l i m;omega) (fP l i m).length 0 (by omega)
 refine ⟨F,hF,?_⟩
 have h1:=he (fun x=>if x ∈ pathN i m then z29 else if x = 2 * i then (⟨true,f1,f2,f3,f4,[]⟩ : S29) else VX l x)
 rw [List.drop_zero] at h1
 have e : mkT (2 * 2 ^ m - 1) (fun x=>if x ∈ fP l i m then F x else if x ∈ pathN i m then z29 else if x = 2 * i then (⟨true,f1,f2,f3,f4,[]⟩ : S29) else VX l x) = mkT (2 * 2 ^ m - 1) (merG (VX l) i m ⟨true,f1,f2,f3,f4,[]⟩ (fun x=>if x ∈ fP l i m then F x else z29)):=mkT_congr fun x _=>by
  unfold merG
  by_cases c1 : x ∈ fP l i m
  · rw [if_pos c1,if_pos (hPsub x c1)]
    exact (if_pos c1).symm
  · rw [if_neg c1]
    by_cases c2 : x ∈ pathN i m
    · rw [if_pos c2,if_pos c2]
      exact (if_neg c1).symm
    · rw [if_neg c2,if_neg c2]
 rw [e] at h1
 constructor
 · have hcl:=clean_ev hm hi (fun x=>if x = 2 * i then (⟨true,f1,f2,f3,f4,[]⟩ : S29) else VX l x)
   have e2 : l.set (2 * i) (⟨true,f1,f2,f3,f4,[]⟩ : S29) = mkT (2 * 2 ^ m - 1) (fun x=>if x = 2 * i then (⟨true,f1,f2,f3,f4,[]⟩ : S29) else VX l x):=by
    conv=>lhs;rw [mkT_self l]
    rw [mkT_set,h]
   rw [← e2] at hcl
   refine .congr (fun k=>?_) (hfl.1.bind (f:=fun k p=>if ks.length = p.1.length∧hs.length = p.1.length then ((tree_copied.f k l).bind fun t2=>if 0≤(wrap64 (2 * (i : Int))) then (if (wrap64 (2 * (i : Int))) < (t2.length : Int) then ((tree_clean.f k (t2.set ((wrap64 (2 * (i : Int))) : Int).toNat (⟨true,f1,f2,f3,f4,([] : List Int)⟩ : S29)) (i : Int)).bind fun t3=>tree_Merge.l0 k p.1 ks hs t3 0) else none) else none) else some (([] : List S29),30)) (.congr (fun k=>?_) (hcl.bind (f:=fun k t3=>tree_Merge.l0 k (ints (fP l i m)) ks hs t3 0) h1)))
   · unfold tree_Merge.f
     rw [(full_same h hp.1 (by omega) _).2,full_at hm h hi,hf,Option.bind_some,if_pos rfl]
   · rw [ints_len,if_pos (And.intro hk hh),copied_at k (by omega) h5,Option.bind_some,wrap_id (by omega),if_pos (by omega),if_pos (by omega),show (2 * (i : Int)).toNat = 2 * i by omega]
 · have hab:=above_ev hm h hi h5
   have e2 : (mkT (2 * 2 ^ m - 1) (abvG l i m)).set (2 * i) (⟨true,f1,f2,f3,f4,[]⟩ : S29) = mkT (2 * 2 ^ m - 1) (fun x=>if x ∈ pathN i m then z29 else if x = 2 * i then (⟨true,f1,f2,f3,f4,[]⟩ : S29) else VX l x):=by
    rw [mkT_set]
    refine mkT_congr fun x _=>?_
    unfold abvG
    by_cases c : x = 2 * i
    · have hn : x ∉ pathN i m:=fun hh=>by have:=path_odd hm hi hh;omega
      rw [if_pos c,if_neg hn,if_pos c]
    · rw [if_neg c,if_neg c]
   refine .congr (fun k=>?_) (hfl.2.bind (f:=fun k p=>if ks.length = p.1.length∧hs.length = p.1.length then ((r4above.f k l (i : Int)).bind fun t2=>if 0≤(wrap64 (2 * (i : Int))) then (if (wrap64 (2 * (i : Int))) < (t2.length : Int) then r4Merge.l0 k p.1 ks hs (t2.set ((wrap64 (2 * (i : Int))) : Int).toNat (⟨true,f1,f2,f3,f4,([] : List Int)⟩ : S29)) 0 else none) else none) else some (([] : List S29),30)) (.congr (fun k=>?_) (hab.bind (f:=fun k t2=>if 0≤(wrap64 (2 * (i : Int))) then (if (wrap64 (2 * (i : Int))) < (t2.length : Int) then r4Merge.l0 k (ints (fP l i m)) ks hs (t2.set ((wrap64 (2 * (i : Int))) : Int).toNat (⟨true,f1,f2,f3,f4,([] : List Int)⟩ : S29)) 0 else none) else none) (.congr (fun k=>?_) h1))))
   · unfold r4Merge.f
     rw [(full_same h hp.1 (by omega) _).1,full_at hm h hi,hf,Option.bind_some,if_pos rfl]
   · rw [ints_len,if_pos (And.intro hk hh)]
   · rw [wrap_id (by omega),if_pos (by omega),mkT_len,if_pos (by omega),show (2 * (i : Int)).toNat = 2 * i by omega,e2,mer_same]
     rfl
theorem merge_bad {l : List S29} {m i : Nat} (hR : RT l m) (hi : i < 2 ^ m) (hf : (VX l (2 * i)).f0 = true) (f0 : Bool) (f1 f2 f3 f4 : Int) (l5 ks hs : List Int) (hk : ¬ (ks.length = (fP l i m).length∧hs.length = (fP l i m).length)) :
 Evr (fun k=>tree_Merge.f k l (i : Int) f0 f1 f2 f3 f4 l5 ks hs) ([],30)∧Evr (fun k=>r4Merge.f k l (i : Int) f0 f1 f2 f3 f4 l5 ks hs) ([],30):=by
 have hm:=hR.hm
 have h:=hR.len
 have hp:=pow_le32 hm
 have hfl:=filt_ev hR (i : Int)
 have hfr : filtR l m (i : Int) = (fP l i m,fC l i m):=by unfold filtR;rw [if_pos (by omega),Int.toNat_natCast]
 rw [hfr] at hfl
 constructor
 · refine .congr (fun k=>?_) (hfl.1.bind (f:=fun k p=>if ks.length = p.1.length∧hs.length = p.1.length then ((tree_copied.f k l).bind fun t2=>if 0≤(wrap64 (2 * (i : Int))) then (if (wrap64 (2 * (i : Int))) < (t2.length : Int) then ((tree_clean.f k (t2.set ((wrap64 (2 * (i : Int))) : Int).toNat (⟨true,f1,f2,f3,f4,([] : List Int)⟩ : S29)) (i : Int)).bind fun t3=>tree_Merge.l0 k p.1 ks hs t3 0) else none) else none) else some (([] : List S29),30)) (r:=([],30)) (.const fun k=>by rw [ints_len];simp only [if_neg hk]))
   unfold tree_Merge.f
   rw [(full_same h hp.1 (by omega) _).2,full_at hm h hi,hf,Option.bind_some,if_pos rfl]
 · refine .congr (fun k=>?_) (hfl.2.bind (f:=fun k p=>if ks.length = p.1.length∧hs.length = p.1.length then ((r4above.f k l (i : Int)).bind fun t2=>if 0≤(wrap64 (2 * (i : Int))) then (if (wrap64 (2 * (i : Int))) < (t2.length : Int) then r4Merge.l0 k p.1 ks hs (t2.set ((wrap64 (2 * (i : Int))) : Int).toNat (⟨true,f1,f2,f3,f4,([] : List Int)⟩ : S29)) 0 else none) else none) else some (([] : List S29),30)) (r:=([],30)) (.const fun k=>by rw [ints_len];simp only [if_neg hk]))
   unfold r4Merge.f
   rw [(full_same h hp.1 (by omega) _).1,full_at hm h hi,hf,Option.bind_some,if_pos rfl]
theorem merge_none {l : List S29} {m : Nat} {i : Int} (hR : RT l m) (hf : fullB l (2 ^ m) i = false) (f0 : Bool) (f1 f2 f3 f4 : Int) (l5 ks hs : List Int) : Evr (fun k=>tree_Merge.f k l i f0 f1 f2 f3 f4 l5 ks hs) ([],40)∧Evr (fun k=>r4Merge.f k l i f0 f1 f2 f3 f4 l5 ks hs) ([],40):=by
 have hm:=hR.hm
 have h:=hR.len
 have hp:=pow_le32 hm
 refine ⟨.const fun k=>?_,.const fun k=>?_⟩
 · unfold tree_Merge.f
   rw [(full_same h hp.1 (by omega) _).2,hf,Option.bind_some,if_neg (by decide)]
 · unfold r4Merge.f
   rw [(full_same h hp.1 (by omega) _).1,hf,Option.bind_some,if_neg (by decide)]
end Go.Proofs.YtbblomnhobodkaaDoor.Pure
set_option linter.unusedVariables false
set_option linter.unusedSimpArgs false
namespace Go.Proofs.YtbblomnhobodkaaDoor.Pure
open Go.RowKit Go.Proofs.YtbblomnhobodkaaDoor Go.Proofs.YtbblomnhobodkaaDoor.PTw Go.Proofs.YtbblomnhobodkaaDoorW.PW
theorem first_free {bs : Nat→Bool} {n : Nat} (h : bs n = false) : ∃ w,w≤n∧(∀ j,j < w→bs j = true)∧bs w = false:=by
 have h2 : ∀ q,(∀ j,j < q→bs j = true)∨∃ w,w < q∧(∀ j,j < w→bs j = true)∧bs w = false:=by
  intro q
  induction q with
  | zero=>exact .inl fun j hj=>by omega
  | succ q ih=>
   rcases ih with h1 | ⟨w,h1,h2⟩
   · cases hq : bs q with
     | false=>exact .inr ⟨q,by omega,h1,hq⟩
     | true=>
      refine .inl fun j hj=>?_
      rcases Nat.lt_or_ge j q with h | h
      · exact h1 j h
      · rw [show j = q by omega];exact hq
   · exact .inr ⟨w,by omega,h2⟩
 rcases h2 (n + 1) with h1 | ⟨w,h1,h2⟩
 · rw [h1 n (by omega)] at h;cases h
 · exact ⟨w,by omega,h2⟩
section
variable {l : List S29} {m : Nat}
theorem add_cases (hR : RT l m) : (∃ i m',((i < 2 ^ m∧m' = m)∨(i = 2 ^ m∧m' = m + 1∧m'≤5))∧i≤2 ^ m∧i < 2 ^ m'∧m'≤5∧(∀ j,j < i→(VX l (2 * j)).f0 = true)∧(VX l (2 * i)).f0 = false∧(∀ leaf,aLeaf leaf→RT (addL l i m' leaf) m')∧
      ∀ (f0 : Bool) (f1 f2 f3 f4 : Int) (l5 : List Int),Evr (fun k=>tree_Add.f k l f0 f1 f2 f3 f4 l5) (addL l i m' ⟨true,f1,f2,f3,f4,[]⟩,(i : Int),0)∧Evr (fun k=>r4Add.f k l f0 f1 f2 f3 f4 l5) (addL l i m' ⟨true,f1,f2,f3,f4,[]⟩,(i : Int),0))∨
 (m = 5∧(∀ j,j < 32→(VX l (2 * j)).f0 = true)∧∀ (f0 : Bool) (f1 f2 f3 f4 : Int) (l5 : List Int),Evr (fun k=>tree_Add.f k l f0 f1 f2 f3 f4 l5) ([],0,41)∧Evr (fun k=>r4Add.f k l f0 f1 f2 f3 f4 l5) ([],0,41)):=by
 have hm:=hR.hm
 have hp:=pow_le32 hm
 obtain ⟨i,hi,hfull,hfree⟩:=first_free (bs:=fun j=>(VX l (2 * j)).f0) (n:=2 ^ m) (by show (VX l (2 * 2 ^ m)).f0 = false;rw [hR.rg.out _ (by omega)];rfl)
 have go : ∀ m',((i < 2 ^ m∧m' = m)∨(i = 2 ^ m∧m' = m + 1∧m'≤5))→i < 2 ^ m'→m'≤5→(∃ i m',((i < 2 ^ m∧m' = m)∨(i = 2 ^ m∧m' = m + 1∧m'≤5))∧i≤2 ^ m∧i < 2 ^ m'∧m'≤5∧(∀ j,j < i→(VX l (2 * j)).f0 = true)∧(VX l (2 * i)).f0 = false∧(∀ leaf,aLeaf leaf→RT (addL l i m' leaf) m')∧
  ∀ (f0 : Bool) (f1 f2 f3 f4 : Int) (l5 : List Int),Evr (fun k=>tree_Add.f k l f0 f1 f2 f3 f4 l5) (addL l i m' ⟨true,f1,f2,f3,f4,[]⟩,(i : Int),0)∧Evr (fun k=>r4Add.f k l f0 f1 f2 f3 f4 l5) (addL l i m' ⟨true,f1,f2,f3,f4,[]⟩,(i : Int),0)):=fun m' hc h1 h2=>
  ⟨i,m',hc,hi,h1,h2,hfull,hfree,fun leaf hL=>RT.of (hR.rg.add hL hfree hc),fun f0 f1 f2 f3 f4 l5=>⟨add_ev hm hR.len hR.lateOk hi hfull (fun _=>hfree) hc f0 f1 f2 f3 f4 l5,radd_ev hR hi hfull hfree hc f0 f1 f2 f3 f4 l5⟩⟩
 by_cases c : i < 2 ^ m
 · exact .inl (go m (.inl ⟨c,rfl⟩) c hm)
 · have e : i = 2 ^ m:=by omega
   by_cases c5 : m = 5
   · subst c5
     have h32 : i = 32:=e
     subst h32
     exact .inr ⟨rfl,hfull,fun f0 f1 f2 f3 f4 l5=>⟨add_none hR.len hfull f0 f1 f2 f3 f4 l5,radd_none hR.len hR.l5 hfull f0 f1 f2 f3 f4 l5⟩⟩
   · exact .inl (go (m + 1) (.inr ⟨e,rfl,by omega⟩) (by rw [Nat.pow_succ];omega) (by omega))
theorem upd_rt (hR : RT l m) {i : Nat} (hi : i < 2 ^ m) {leaf : S29} (hL : aLeaf leaf) : RT (updL l i m leaf) m:=RT.of (hR.rg.lay hL OkF.none hi)
theorem other_one {L : List Nat} {i : Nat} (hn : L.Nodup) (hi : i ∈ L) (hc : L.length≠1) : ∃ j ∈ L,j≠i:=by
 rcases Classical.em (∃ j ∈ L,j≠i) with h | h
 · exact h
 · exfalso
   have e:=List.eq_replicate_of_mem (a:=i) (l:=L) (fun b hb=>Classical.byContradiction fun hne=>h ⟨b,hb,hne⟩)
   rw [e] at hn
   have:=List.nodup_replicate.1 hn
   have:=List.length_pos_of_mem hi
   omega
theorem fullN_mem {j n : Nat} : j ∈ fullN l 0 n↔j < n∧(VX l (2 * j)).f0 = true:=by
 unfold fullN
 rw [List.mem_filter,List.mem_range'_1]
 exact ⟨fun h=>⟨by omega,h.2⟩,fun h=>⟨by omega,h.2⟩⟩
theorem fullN_nodup {n : Nat} : (fullN l 0 n).Nodup:=(List.nodup_range' (step:=1)).filter _
theorem cut_full (hR : RT l m) {i : Nat} (hi : i < 2 ^ m) (j : Nat) : (cutG l i m (2 * j)).f0 = if j = i then false else (VX l (2 * j)).f0:=by
 unfold cutG
 rw [if_neg (path_even hR.hm hi)]
 by_cases c : j = i
 · rw [if_pos c,if_pos (by omega)];rfl
 · rw [if_neg c,if_neg (by omega)]
theorem rem_cases (hR : RT l m) {i : Nat} (hi : i < 2 ^ m) (hf : (VX l (2 * i)).f0 = true) (hc : (fullN l 0 (2 ^ m)).length≠1) : ∃ m',Tops (cutG l i m) m m'∧RT (mkT (2 * 2 ^ m' - 1) (cutG l i m)) m'∧Evr (fun k=>tree_Remove.f k l (i : Int)) (mkT (2 * 2 ^ m' - 1) (cutG l i m),0)∧Evr (fun k=>r4Remove.f k l (i : Int)) (mkT (2 * 2 ^ m' - 1) (cutG l i m),0):=by
 have hm:=hR.hm
 obtain ⟨j,hj,hne⟩:=other_one fullN_nodup (fullN_mem.2 ⟨hi,hf⟩) hc
 obtain ⟨hj1,hj2⟩:=fullN_mem.1 hj
 obtain ⟨m',h1,h2,h3⟩:=tops_any (g:=cutG l i m) ⟨j,by rw [cut_full hR hi,if_neg hne];exact hj2⟩ m (fun q hq=>by
  rw [cut_full hR hi] at hq
  by_cases c : q = i
  · rw [if_pos c] at hq;cases hq
  · rw [if_neg c] at hq
    rcases Nat.lt_or_ge q (2 ^ m) with h | h
    · exact h
    · rw [hR.rg.out _ (by omega)] at hq;cases hq)
 have ht : Tops (cutG l i m) m m':=⟨h1,fun q hq1 hq2=>by
  cases hh : (cutG l i m (2 * q)).f0 with
  | false=>rfl
  | true=>have:=h2 q hh;omega,h3⟩
 refine ⟨m',ht,?_,remove_ev hm hR.len hR.lateOk hi hf hc ht,rremove_ev hm hR.len hR.lateOk hi hf hc ht⟩
 rw [rem_mk]
 exact RT.of (hR.rg.rem hi ht)
theorem rem_no (hR : RT l m) {i : Int} (hc : fullB l (2 ^ m) i = true→(fullN l 0 (2 ^ m)).length = 1) : Evr (fun k=>tree_Remove.f k l i) ([],40)∧Evr (fun k=>r4Remove.f k l i) ([],40):=⟨remove_one hR.hm hR.len hc,rremove_one hR.hm hR.len hc⟩
theorem okF_of {F : Nat→S29} {P : List Nat} (h : AllKey F) : OkF (fun x=>if x ∈ P then F x else z29):=fun x=>by
 by_cases c : x ∈ P
 · exact .inr ⟨_,_,(if_pos c).trans (h x).choose_spec.choose_spec⟩
 · exact .inl (if_neg c)
theorem mer_rt (hR : RT l m) {i : Nat} (hi : i < 2 ^ m) {leaf : S29} (hL : aLeaf leaf) {F : Nat→S29} (hF : OkF F) : RT (mkT (2 * 2 ^ m - 1) (merG (VX l) i m leaf F)) m:=RT.of (hR.rg.lay hL hF hi)
theorem mer_both (hR : RT l m) (i : Int) (f0 : Bool) (f1 f2 f3 f4 : Int) (l5 ks : List Int) : ∃ r e,(e = 0→RT r m)∧(e≠0→r = [])∧Evr (fun k=>tree_Merge.f k l i f0 f1 f2 f3 f4 l5 ks ks) (r,e)∧Evr (fun k=>r4Merge.f k l i f0 f1 f2 f3 f4 l5 ks ks) (r,e):=by
 have hp:=pow_le32 hR.hm
 cases hf : fullB l (2 ^ m) i with
 | false=>
  obtain ⟨h1,h2⟩:=merge_none hR hf f0 f1 f2 f3 f4 l5 ks ks
  exact ⟨[],40,(fun h=>by cases h),fun _=>rfl,h1,h2⟩
 | true=>
  have hb:=fullB_lt hf
  obtain ⟨n,rfl⟩ : ∃ n : Nat,i = (n : Int):=⟨i.toNat,by omega⟩
  have hn : n < 2 ^ m:=by omega
  rw [full_at hR.hm hR.len hn] at hf
  by_cases hk : ks.length = (fP l n m).length
  · obtain ⟨F,hF,h1,h2⟩:=merge_ev hR hn hf f0 f1 f2 f3 f4 l5 ks ks hk hk
    exact ⟨_,0,fun _=>mer_rt hR hn ⟨rfl,rfl⟩ (okF_of hF),fun h=>absurd rfl h,h1,h2⟩
  · obtain ⟨h1,h2⟩:=merge_bad hR hn hf f0 f1 f2 f3 f4 l5 ks ks (fun hh=>hk hh.1)
    exact ⟨[],30,(fun h=>by cases h),fun _=>rfl,h1,h2⟩
theorem upd_both (hR : RT l m) (i : Int) (f0 : Bool) (f1 f2 f3 f4 : Int) (l5 : List Int) : ∃ r e,(e = 0→RT r m)∧(e≠0→r = [])∧Evr (fun k=>tree_Update.f k l i f0 f1 f2 f3 f4 l5) (r,e)∧Evr (fun k=>r4Update.f k l i f0 f1 f2 f3 f4 l5) (r,e):=by
 have hp:=pow_le32 hR.hm
 cases hf : fullB l (2 ^ m) i with
 | false=>
  obtain ⟨h1,h2⟩:=update_none hR.hm hR.len hf f0 f1 f2 f3 f4 l5
  exact ⟨[],40,(fun h=>by cases h),fun _=>rfl,h1,h2⟩
 | true=>
  have hb:=fullB_lt hf
  obtain ⟨n,rfl⟩ : ∃ n : Nat,i = (n : Int):=⟨i.toNat,by omega⟩
  have hn : n < 2 ^ m:=by omega
  rw [full_at hR.hm hR.len hn] at hf
  exact ⟨_,0,fun _=>upd_rt hR hn ⟨rfl,rfl⟩,fun h=>absurd rfl h,tupdate_ev hR.hm hR.len hR.lateOk hn hf f0 f1 f2 f3 f4 l5,rupdate_ev hR.hm hR.len hR.lateOk hn hf f0 f1 f2 f3 f4 l5⟩
theorem rem_both (hR : RT l m) (i : Int) : ∃ r e m',(e = 0→RT r m')∧(e≠0→r = [])∧Evr (fun k=>tree_Remove.f k l i) (r,e)∧Evr (fun k=>r4Remove.f k l i) (r,e):=by
 have hp:=pow_le32 hR.hm
 by_cases hc : fullB l (2 ^ m) i = true→(fullN l 0 (2 ^ m)).length = 1
 · obtain ⟨h1,h2⟩:=rem_no hR hc
   exact ⟨[],40,0,(fun h=>by cases h),fun _=>rfl,h1,h2⟩
 · have hf : fullB l (2 ^ m) i = true:=Classical.byContradiction fun h=>hc fun h'=>absurd h' h
   have hc1 : (fullN l 0 (2 ^ m)).length≠1:=fun h=>hc fun _=>h
   have hb:=fullB_lt hf
   obtain ⟨n,rfl⟩ : ∃ n : Nat,i = (n : Int):=⟨i.toNat,by omega⟩
   have hn : n < 2 ^ m:=by omega
   rw [full_at hR.hm hR.len hn] at hf
   obtain ⟨m',ht,h1,h2,h3⟩:=rem_cases hR hn hf hc1
   exact ⟨_,0,m',fun _=>h1,fun h=>absurd rfl h,h2,h3⟩
theorem add_both (hR : RT l m) (f0 : Bool) (f1 f2 f3 f4 : Int) (l5 : List Int) : ∃ r i e m',(e = 0→RT r m')∧(e≠0→r = [])∧Evr (fun k=>tree_Add.f k l f0 f1 f2 f3 f4 l5) (r,i,e)∧Evr (fun k=>r4Add.f k l f0 f1 f2 f3 f4 l5) (r,i,e):=by
 rcases add_cases hR with ⟨i,m',_,_,_,_,_,_,hrt,h⟩ | ⟨_,_,h⟩
 · obtain ⟨h1,h2⟩:=h f0 f1 f2 f3 f4 l5
   exact ⟨_,_,0,m',fun _=>hrt _ ⟨rfl,rfl⟩,fun h=>absurd rfl h,h1,h2⟩
 · obtain ⟨h1,h2⟩:=h f0 f1 f2 f3 f4 l5
   exact ⟨[],0,41,0,(fun h=>by cases h),fun _=>rfl,h1,h2⟩
end
theorem one_rt (f1 f2 f3 f4 : Int) : RT [(⟨true,f1,f2,f3,f4,[]⟩ : S29)] 0:=by
 have h0 : ∀ x,x≠0→VX [(⟨true,f1,f2,f3,f4,[]⟩ : S29)] x = z29:=fun x hx=>VX_out (by simp;omega)
 refine ⟨rfl,⟨by decide,fun x hx=>h0 x (by simp at hx;omega),fun x hx=>?_,fun x hx=>?_,fun x hx=>?_,fun x=>?_,fun x y hy=>?_,⟨0,by simp,by simp,rfl⟩⟩⟩
 · by_cases c : x = 0
   · subst c;cases hx
   · exact h0 x c
 · by_cases c : x = 0
   · subst c;rfl
   · rw [h0 x c];rfl
 · rw [h0 x (by omega)];exact ⟨rfl,rfl⟩
 · by_cases c : x = 0
   · subst c;exact List.Pairwise.nil
   · rw [h0 x c];exact List.Pairwise.nil
 · by_cases c : x = 0
   · subst c;cases hy
   · rw [h0 x c] at hy;cases hy
theorem RT.pos {l : List S29} {m : Nat} (h : RT l m) : 0 < l.length:=by
 have:=pow_le32 h.hm
 rw [h.len];omega
theorem grown_l0 (ops : List S32) (n : Int) (hn : n = (ops.length : Int)) : ∀ (d j : Nat) (l : List S29) (m : Nat),d + j = ops.length→RT l m→∃ l' m',RT l' m'∧Evr (fun k=>w4grown.l0 k l ops n (j : Int)) l':=by
 subst hn
 intro d
 induction d with
 | zero=>exact fun j l m hd hR=>⟨l,m,hR,.succ (f:=fun _=>some l) (fun k=>by rw [w4grown.l0,if_neg (by omega)]) (.const fun _=>rfl)⟩
 | succ d ih=>
  intro j l m hd hR
  by_cases c3 : (j : Int)≥300
  · exact ⟨l,m,hR,.succ (f:=fun _=>some l) (fun k=>by rw [w4grown.l0,if_pos (by omega),if_pos (by omega),if_pos (by omega),if_pos c3]) (.const fun _=>rfl)⟩
  · obtain ⟨q,hq⟩ : ∃ q,q = rd_T32 ops (j : Int):=⟨_,rfl⟩
    have hj3 : (j : Int) < 300:=by omega
    have ej : wrap64 ((j : Int) + 1) = ((j + 1 : Nat) : Int):=by rw [wrap_id (by omega)];omega
    have stay : ∀ (r : List S29) (m' : Nat),(r = []∨RT r m')→∃ l' m',RT l' m'∧Evr (fun k=>if (r.length : Int) > 0 then w4grown.l0 k r ops (ops.length : Int) ((j + 1 : Nat) : Int) else w4grown.l0 k l ops (ops.length : Int) ((j + 1 : Nat) : Int)) l':=fun r m' h=>by
     rcases h with rfl | h
     · obtain ⟨l',m'',h1,h2⟩:=ih (j + 1) l m (by omega) hR
       exact ⟨l',m'',h1,.congr (fun k=>by rw [if_neg (by simp)]) h2⟩
     · obtain ⟨l',m'',h1,h2⟩:=ih (j + 1) r m' (by omega) h
       have:=h.pos
       exact ⟨l',m'',h1,.congr (fun k=>by rw [if_pos (by omega)]) h2⟩
    have op : ∀ k,w4grown.l0 (k + 1) l ops (ops.length : Int) (j : Int) = (if q.f0 = 1 then ((r4Add.f k l q.f2.f0 q.f2.f1 q.f2.f2 q.f2.f3 q.f2.f4 q.f2.f5).bind fun t=>if (t.1.length : Int) > 0 then w4grown.l0 k t.1 ops (ops.length : Int) ((j + 1 : Nat) : Int) else w4grown.l0 k l ops (ops.length : Int) ((j + 1 : Nat) : Int)) else if q.f0 = 2 then ((r4Update.f k l q.f1 q.f2.f0 q.f2.f1 q.f2.f2 q.f2.f3 q.f2.f4 q.f2.f5).bind fun t=>if (t.1.length : Int) > 0 then w4grown.l0 k t.1 ops (ops.length : Int) ((j + 1 : Nat) : Int) else w4grown.l0 k l ops (ops.length : Int) ((j + 1 : Nat) : Int)) else if q.f0 = 3 then ((r4Remove.f k l q.f1).bind fun t=>if (t.1.length : Int) > 0 then w4grown.l0 k t.1 ops (ops.length : Int) ((j + 1 : Nat) : Int) else w4grown.l0 k l ops (ops.length : Int) ((j + 1 : Nat) : Int)) else if q.f0 = 4 then ((w4keys.f k l q.f0 q.f1 q.f2.f0 q.f2.f1 q.f2.f2 q.f2.f3 q.f2.f4 q.f2.f5 0).bind fun ks=>(r4Merge.f k l q.f1 q.f2.f0 q.f2.f1 q.f2.f2 q.f2.f3 q.f2.f4 q.f2.f5 ks ks).bind fun t=>if (t.1.length : Int) > 0 then w4grown.l0 k t.1 ops (ops.length : Int) ((j + 1 : Nat) : Int) else w4grown.l0 k l ops (ops.length : Int) ((j + 1 : Nat) : Int)) else if (([] : List S29).length : Int) > 0 then w4grown.l0 k [] ops (ops.length : Int) ((j + 1 : Nat) : Int) else w4grown.l0 k l ops (ops.length : Int) ((j + 1 : Nat) : Int)):=fun k=>by
     rw [w4grown.l0,if_pos (by omega),if_pos (by omega),if_pos (by omega),if_neg c3,← hq,ej]
    clear hq
    by_cases q1 : q.f0 = 1
    · obtain ⟨r,i,e,m',h1,h2,_,h4⟩:=add_both hR q.f2.f0 q.f2.f1 q.f2.f2 q.f2.f3 q.f2.f4 q.f2.f5
      obtain ⟨l',m'',s1,s2⟩:=stay r m' (by by_cases c : e = 0;exact .inr (h1 c);exact .inl (h2 c))
      exact ⟨l',m'',s1,.succ op (.congr (fun k=>by rw [if_pos q1]) (h4.bind s2))⟩
    · by_cases q2 : q.f0 = 2
      · obtain ⟨r,e,h1,h2,_,h4⟩:=upd_both hR q.f1 q.f2.f0 q.f2.f1 q.f2.f2 q.f2.f3 q.f2.f4 q.f2.f5
        obtain ⟨l',m'',s1,s2⟩:=stay r m (by by_cases c : e = 0;exact .inr (h1 c);exact .inl (h2 c))
        exact ⟨l',m'',s1,.succ op (.congr (fun k=>by rw [if_neg q1,if_pos q2]) (h4.bind s2))⟩
      · by_cases q3 : q.f0 = 3
        · obtain ⟨r,e,m',h1,h2,_,h4⟩:=rem_both hR q.f1
          obtain ⟨l',m'',s1,s2⟩:=stay r m' (by by_cases c : e = 0;exact .inr (h1 c);exact .inl (h2 c))
          exact ⟨l',m'',s1,.succ op (.congr (fun k=>by rw [if_neg q1,if_neg q2,if_pos q3]) (h4.bind s2))⟩
        · by_cases q4 : q.f0 = 4
          · have hk:=keys_ev hR q.f0 q.f1 q.f2.f0 q.f2.f1 q.f2.f2 q.f2.f3 q.f2.f4 q.f2.f5 0
            obtain ⟨r,e,h1,h2,_,h4⟩:=mer_both hR q.f1 q.f2.f0 q.f2.f1 q.f2.f2 q.f2.f3 q.f2.f4 q.f2.f5 _
            obtain ⟨l',m'',s1,s2⟩:=stay r m (by by_cases c : e = 0;exact .inr (h1 c);exact .inl (h2 c))
            exact ⟨l',m'',s1,.succ op (.congr (fun k=>by rw [if_neg q1,if_neg q2,if_neg q3,if_pos q4]) (hk.bind (h4.bind s2)))⟩
          · obtain ⟨l',m'',s1,s2⟩:=stay [] m (.inl rfl)
            exact ⟨l',m'',s1,.succ op (.congr (fun k=>by rw [if_neg q1,if_neg q2,if_neg q3,if_neg q4]) s2)⟩
theorem grown_ev (f0 : Bool) (f1 f2 f3 f4 : Int) (l5 : List Int) (ops : List S32) : ∃ l m,RT l m∧Evr (fun k=>w4grown.f k f0 f1 f2 f3 f4 l5 ops) l:=by
 obtain ⟨l',m',h1,h2⟩:=grown_l0 ops _ rfl ops.length 0 _ 0 (by omega) (one_rt f1 f2 f3 f4)
 exact ⟨l',m',h1,h2⟩
end Go.Proofs.YtbblomnhobodkaaDoor.Pure
set_option linter.unusedVariables false
set_option linter.unusedSimpArgs false
namespace Go.Proofs.YtbblomnhobodkaaDoor.Pure
open Go.RowKit Go.Proofs.YtbblomnhobodkaaDoor Go.Proofs.YtbblomnhobodkaaDoor.PTw Go.Proofs.YtbblomnhobodkaaDoorW.PW
theorem newpath_fin : ∀ m : Fin 5,∀ x ∈ pathN (2 ^ m.val) (m.val + 1),2 * 2 ^ m.val - 1≤x:=by decide +kernel
section
variable {l : List S29} {m : Nat}
theorem back_rem (hR : RT l m) {i m' : Nat} {leaf : S29} (hL : aLeaf leaf) (hc : (i < 2 ^ m∧m' = m)∨(i = 2 ^ m∧m' = m + 1∧m'≤5)) (hi : i < 2 ^ m') (hfree : (VX l (2 * i)).f0 = false) :
 ∃ b,RT b m∧Evr (fun k=>tree_Remove.f k (addL l i m' leaf) (i : Int)) (b,0)∧∀ x,x < 2 * 2 ^ m - 1→(i < 2 ^ m∧(x ∈ pathN i m∨x = 2 * i)→(VX b x).f0 = false)∧(¬ (i < 2 ^ m∧(x ∈ pathN i m∨x = 2 * i))→VX b x = VX l x):=by
 have hm:=hR.hm
 have hm5 : m'≤5:=by omega
 have hle : m≤m':=by omega
 have hpp : 2 ^ m≤2 ^ m':=Nat.pow_le_pow_right (by decide) hle
 have hG:=hR.rg.add hL hfree hc
 have hA : RT (addL l i m' leaf) m':=RT.of hG
 have hV : VX (addL l i m' leaf) = addG (VX l) i m' leaf:=VX_mkT hG.out
 have hfi : (VX (addL l i m' leaf) (2 * i)).f0 = true:=by
  rw [hV]
  unfold addG
  rw [if_neg (fun h=>path_even hm5 hi h.1),if_pos rfl]
  exact hL.1
 obtain ⟨j,hj1,hj2,hj3⟩:=hR.rg.top
 have hji : j≠i:=fun e=>by rw [e,hfree] at hj3;cases hj3
 have hfj : (VX (addL l i m' leaf) (2 * j)).f0 = true:=by
  rw [hV]
  unfold addG
  rw [if_neg (fun h=>path_even hm5 hi h.1),if_neg (by omega)]
  exact hj3
 have hne : (fullN (addL l i m' leaf) 0 (2 ^ m')).length≠1:=fun h=>by
  obtain ⟨z,hz⟩:=List.length_eq_one_iff.1 h
  have h1 : i ∈ fullN (addL l i m' leaf) 0 (2 ^ m'):=fullN_mem.2 ⟨hi,hfi⟩
  have h2 : j ∈ fullN (addL l i m' leaf) 0 (2 ^ m'):=fullN_mem.2 ⟨by omega,hfj⟩
  rw [hz] at h1 h2
  exact hji ((List.mem_singleton.1 h2).trans (List.mem_singleton.1 h1).symm)
 obtain ⟨m'',ht,hB,he,_⟩:=rem_cases hA hi hfi hne
 have hg : ∀ x,cutG (addL l i m' leaf) i m' x = if x ∈ pathN i m' then z29 else if x = 2 * i then z29 else VX l x:=fun x=>by
  unfold cutG
  by_cases c : x ∈ pathN i m'
  · rw [if_pos c,if_pos c]
  · rw [if_neg c,if_neg c]
    by_cases c2 : x = 2 * i
    · rw [if_pos c2,if_pos c2]
    · rw [if_neg c2,if_neg c2,hV]
      unfold addG
      rw [if_neg (fun h=>c h.1),if_neg c2]
 have hfull : ∀ q,(cutG (addL l i m' leaf) i m' (2 * q)).f0 = true→q < 2 ^ m∧q≠i:=fun q hq=>by
  rw [hg,if_neg (path_even hm5 hi)] at hq
  by_cases c : 2 * q = 2 * i
  · rw [if_pos c] at hq;cases hq
  · rw [if_neg c] at hq
    refine ⟨?_,by omega⟩
    rcases Nat.lt_or_ge q (2 ^ m) with h | h
    · exact h
    · rw [hR.rg.out _ (by omega)] at hq;cases hq
 have hjc : (cutG (addL l i m' leaf) i m' (2 * j)).f0 = true:=by
  rw [hg,if_neg (path_even hm5 hi),if_neg (by omega)]
  exact hj3
 have hmm : m'' = m:=by
  rcases Nat.lt_trichotomy m'' m with h | h | h
  · exfalso
    have h2 : 2 * 2 ^ m''≤2 ^ m:=by
     have:=Nat.pow_le_pow_right (show 0 < 2 by decide) (show m'' + 1≤m from h)
     rw [Nat.pow_succ] at this;omega
    have:=ht.no j (by omega) (by omega)
    rw [hjc] at this
    cases this
  · exact h
  · exfalso
    have h2 : 2 * 2 ^ m≤2 ^ m'':=by
     have:=Nat.pow_le_pow_right (show 0 < 2 by decide) (show m + 1≤m'' from h)
     rw [Nat.pow_succ] at this;omega
    obtain ⟨q,hq1,hq2,hq3⟩:=hB.rg.top
    rw [show VX (mkT (2 * 2 ^ m'' - 1) (cutG (addL l i m' leaf) i m')) (2 * q) = cutG (addL l i m' leaf) i m' (2 * q) from mkT_get (by omega)] at hq3
    have:=(hfull q hq3).1
    omega
 subst hmm
 refine ⟨_,hB,he,fun x hx=>?_⟩
 rw [show VX (mkT (2 * 2 ^ m'' - 1) (cutG (addL l i m' leaf) i m')) x = cutG (addL l i m' leaf) i m' x from mkT_get hx,hg]
 refine ⟨fun h=>?_,fun h=>?_⟩
 · obtain ⟨h1,h2⟩:=h
   obtain rfl : m' = m'':=by omega
   rcases h2 with h2 | h2
   · rw [if_pos h2];rfl
   · by_cases c : x ∈ pathN i m'
     · rw [if_pos c];rfl
     · rw [if_neg c,if_pos h2];rfl
 · rcases hc with ⟨h1,rfl⟩ | ⟨h1,h2,h3⟩
   · rw [if_neg (fun c=>h ⟨h1,.inl c⟩),if_neg (fun c=>h ⟨h1,.inr c⟩)]
   · subst h1 h2
     have : x ∉ pathN (2 ^ m'') (m'' + 1):=fun c=>by
      have:=newpath_fin ⟨m'',by omega⟩ x c
      simp only at this
      omega
     rw [if_neg this,if_neg (by omega)]
end
theorem back_facts (f0 : Bool) (f1 f2 f3 f4 : Int) (l5 : List Int) (ops : List S32) (g0 : Bool) (g1 g2 g3 g4 : Int) (q5 : List Int) :
 ∃ t m,RT t m∧Evr (fun k=>w4grown.f k f0 f1 f2 f3 f4 l5 ops) t∧
  ((Evr (fun k=>tree_Add.f k t g0 g1 g2 g3 g4 q5) ([],0,41)∧(ints (fullN t 0 (2 ^ m))).length = 32)∨
   ∃ (a b : List S29) (i m' : Nat),RT a m'∧RT b m∧i < 2 ^ m'∧Evr (fun k=>tree_Add.f k t g0 g1 g2 g3 g4 q5) (a,(i : Int),0)∧Evr (fun k=>tree_Remove.f k a (i : Int)) (b,0)∧
    ∀ x,x < 2 * 2 ^ m - 1→(i < 2 ^ m∧(x ∈ pathN i m∨x = 2 * i)→(VX b x).f0 = false)∧(¬ (i < 2 ^ m∧(x ∈ pathN i m∨x = 2 * i))→VX b x = VX t x)):=by
 obtain ⟨t,m,hR,hg⟩:=grown_ev f0 f1 f2 f3 f4 l5 ops
 refine ⟨t,m,hR,hg,?_⟩
 rcases add_cases hR with ⟨i,m',hc,h1,h2,h3,h4,h5,h6,h7⟩ | ⟨h1,h2,h3⟩
 · refine .inr ?_
   have hL : aLeaf (⟨true,g1,g2,g3,g4,[]⟩ : S29):=⟨rfl,rfl⟩
   obtain ⟨b,hb1,hb2,hb3⟩:=back_rem hR hL hc h2 h5
   exact ⟨_,b,i,m',h6 _ hL,hb1,h2,(h7 g0 g1 g2 g3 g4 q5).1,hb2,hb3⟩
 · refine .inl ⟨(h3 g0 g1 g2 g3 g4 q5).1,?_⟩
   subst h1
   rw [ints_len]
   unfold fullN
   rw [List.filter_eq_self.2 (fun x hx=>?_)]
   · simp
   · have:=List.mem_range'.1 hx
     exact h2 x (by omega)
theorem back_round {t b : List S29} {m i m' : Nat} (hR : RT t m) (hB : RT b m) (hm' : m'≤5) (hi : i < 2 ^ m') (hx : ∀ x,x < 2 * 2 ^ m - 1→(i < 2 ^ m∧(x ∈ pathN i m∨x = 2 * i)→(VX b x).f0 = false)∧(¬ (i < 2 ^ m∧(x ∈ pathN i m∨x = 2 * i))→VX b x = VX t x)) :
 ∀ x : Int,0≤x→x < (b.length : Int)→(((i : Int) < ((2 ^ m : Nat) : Int)∧∃ u k,r3Under.f k (wrap64 (2 * (i : Int))) x ((2 ^ m : Nat) : Int) = some u∧(u = true→(rd_T29 b x).f0 = false)∧(u = false→rd_T29 b x = rd_T29 t x))∨(¬ (i : Int) < ((2 ^ m : Nat) : Int)∧rd_T29 b x = rd_T29 t x))∧(rd_T29 b x).f5.length≤1000∧∃ k,r4Same.f k [rd_T29 b x] [rd_T29 b x] = some true:=by
 intro x h0 h1
 obtain ⟨n,rfl⟩ : ∃ n : Nat,x = (n : Int):=⟨x.toNat,by omega⟩
 have hn : n < 2 * 2 ^ m - 1:=by have:=hB.len;omega
 have hl5 : (rd_T29 b (n : Int)).f5.length≤1000:=(hB.lateOk.at n).1
 refine ⟨?_,hl5,?_⟩
 · have hp:=pow_le32 hm'
   obtain ⟨e1,e2⟩:=hx n hn
   by_cases c : i < 2 ^ m
   · refine .inl ⟨by omega,?_⟩
     obtain ⟨K,hK⟩:=und_at hR.hm c hn
     refine ⟨_,K,by rw [wrap_id (by omega)];exact hK K (Nat.le_refl _),fun hu=>?_,fun hu=>?_⟩
     · simp only [Bool.or_eq_true,decide_eq_true_eq] at hu
       exact e1 ⟨c,hu⟩
     · simp only [Bool.or_eq_false_iff,decide_eq_false_iff_not] at hu
       exact e2 (fun h=>h.2.elim hu.1 hu.2)
   · exact .inr ⟨by omega,e2 (fun h=>c h.1)⟩
 · obtain ⟨K,hK⟩:=same_refl (l:=[rd_T29 b (n : Int)]) (by simp) (fun v hv=>by rw [List.mem_singleton.1 hv];omega)
   exact ⟨K,hK K (Nat.le_refl _)⟩
end Go.Proofs.YtbblomnhobodkaaDoor.Pure
namespace Go.Proofs.YtbblomnhobodkaaDoor.PTw
open Go.RowKit Go.Proofs.YtbblomnhobodkaaDoorW.PW Go.Proofs.YtbblomnhobodkaaDoorW.PL Go.Proofs.YtbblomnhobodkaaDoorW.PM
attribute [local go_sem] max2_int min2_int max_two min_two max_three min_three max_four min_four
set_option linter.unusedVariables false
set_option linter.unusedSimpArgs false
open Go.Proofs.YtbblomnhobodkaaDoor.Pure (RT back_facts leaves_at und_at ints fullN pow_le32 pathN VX)
theorem Evr.at {α : Type} {g : Nat→Option α} {r : α} (h : Go.Proofs.YtbblomnhobodkaaDoor.Pure.Evr g r) : ∃ k,g k = some r:=by
 obtain ⟨K,hK⟩:=h
 exact ⟨K,hK K (Nat.le_refl _)⟩
theorem back_box {w2 w3 : World} {g t : Nat} {z0 z1 z2 z3 z4 z5 v0 v1 v2 v3 v4 v5 : Value} (hw : w3 = ((((((w2.setCell ⟨g,0,none⟩ v0).setCell ⟨g,1,none⟩ v1).setCell ⟨g,2,none⟩ v2).setCell ⟨g,3,none⟩ v3).setCell ⟨g,4,none⟩ v4).setCell ⟨g,5,none⟩ v5)) (h : w2.heap[g]? = some (.cells #[z0,z1,z2,z3,z4,z5] t (0,0))) : w3.heap[g]? = some (.cells #[v0,v1,v2,v3,v4,v5] t (0,0)):=by
 subst hw
 have h0:=blk_put h 0 v0 (cs':=#[v0,z1,z2,z3,z4,z5]) rfl
 have h1:=blk_put h0 1 v1 (cs':=#[v0,v1,z2,z3,z4,z5]) rfl
 have h2:=blk_put h1 2 v2 (cs':=#[v0,v1,v2,z3,z4,z5]) rfl
 have h3:=blk_put h2 3 v3 (cs':=#[v0,v1,v2,v3,z4,z5]) rfl
 have h4:=blk_put h3 4 v4 (cs':=#[v0,v1,v2,v3,v4,z5]) rfl
 have h5:=blk_put h4 5 v5 (cs':=#[v0,v1,v2,v3,v4,v5]) rfl
 exact h5
theorem back_below {w w2 w3 : World} {g : Nat} {v0 v1 v2 v3 v4 v5 : Value} (hw : w3 = ((((((w2.setCell ⟨g,0,none⟩ v0).setCell ⟨g,1,none⟩ v1).setCell ⟨g,2,none⟩ v2).setCell ⟨g,3,none⟩ v3).setCell ⟨g,4,none⟩ v4).setCell ⟨g,5,none⟩ v5)) (hb : Below w.heap.size w w2) (hg : w.heap.size≤g) : Below w.heap.size w w3:=by
 subst hw
 exact (bwS (bwS (bwS (bwS (bwS (bwS hb hg) hg) hg) hg) hg) hg)
theorem back_held {w w' : World} {p0 p1 p2 p3 p4 p5 p6 p7 p8 p9 p10 p11 : Addr} {u0 u1 u2 u3 u4 u5 u6 u7 u8 u9 u10 u11 : Value} (hb : Below w.heap.size w w') (h : w.cell? p0 = some u0∧w.cell? p1 = some u1∧w.cell? p2 = some u2∧w.cell? p3 = some u3∧w.cell? p4 = some u4∧w.cell? p5 = some u5∧w.cell? p6 = some u6∧w.cell? p7 = some u7∧w.cell? p8 = some u8∧w.cell? p9 = some u9∧w.cell? p10 = some u10∧w.cell? p11 = some u11) : w'.cell? p0 = some u0∧w'.cell? p1 = some u1∧w'.cell? p2 = some u2∧w'.cell? p3 = some u3∧w'.cell? p4 = some u4∧w'.cell? p5 = some u5∧w'.cell? p6 = some u6∧w'.cell? p7 = some u7∧w'.cell? p8 = some u8∧w'.cell? p9 = some u9∧w'.cell? p10 = some u10∧w'.cell? p11 = some u11:=by
 have mv : ∀ {p : Addr} {u : Value},w.cell? p = some u→w'.cell? p = some u:=fun h=>(hb.cell (World.block_lt_of_cell? w _ h)).trans h
 obtain ⟨h0,h1,h2,h3,h4,h5,h6,h7,h8,h9,h10,h11⟩:=h
 exact ⟨mv h0,mv h1,mv h2,mv h3,mv h4,mv h5,mv h6,mv h7,mv h8,mv h9,mv h10,mv h11⟩
def back_T17 : Bool × List (List Nat × List Nat):=(true,[([],[]),([0],[0]),([],[]),([],[]),([2,3],[2,3]),([4],[4]),([5],[5]),([1,6],[1,6]),([7],[7])])
def back_B17 : List Nat:=[0,1,0,0,12,28,60,127,255]
theorem back_tab17 : rtab .any (opsOf Tryd.f8 17) = back_T17:=by kernel_rfl
theorem back_bits17 : waitsOk back_T17.2 back_B17 = true:=by kernel_rfl
set_option maxHeartbeats 8000000 in
set_option maxRecDepth 100000 in
theorem treeBack_walk (a0_0 : Bool) (a0_1 : Int) (a0_2 : Int) (a0_3 : Int) (a0_4 : Int) (A0_5 : Option Addr) (c0_5 : Nat) (l0_5 : List Int) (A1 : Option Addr) (c1 : Nat) (l1 : List S32) (a2_0 : Bool) (a2_1 : Int) (a2_2 : Int) (a2_3 : Int) (a2_4 : Int) (A2_5 : Option Addr) (c2_5 : Nat) (l2_5 : List Int) (w : World) (hrG : TabG w) (hr0_5 : Kd.C (Kd.int .i64) w A0_5 l0_5.length l0_5) (hc0_5 : l0_5.length≤c0_5) (hr1 : Kd.C k32 w A1 l1.length l1) (hc1 : l1.length≤c1) (hr2_5 : Kd.C (Kd.int .i64) w A2_5 l2_5.length l2_5) (hc2_5 : l2_5.length≤c2_5) :
 Calls Tryd.prog 8 #[.agg #[.bool a0_0,.int .i64 a0_1,.int .i64 a0_2,.int .i64 a0_3,.int .i64 a0_4,.slice A0_5 l0_5.length c0_5],.slice A1 l1.length c1,.agg #[.bool a2_0,.int .i64 a2_1,.int .i64 a2_2,.int .i64 a2_3,.int .i64 a2_4,.slice A2_5 l2_5.length c2_5]] w fun e w'=>e = .returned (.bool true)∧Below w.heap.size w w':=by
 have hu29:=Tryd.underlying29
 have hu32:=Tryd.underlying32
 obtain ⟨t,m,hR,hg,hcase⟩:=back_facts a0_0 a0_1 a0_2 a0_3 a0_4 l0_5 l1 a2_0 a2_1 a2_2 a2_3 a2_4 l2_5
 obtain ⟨kg,hkg⟩:=Evr.at hg
 have HRT:=Az.mk hR
 have HKG:=Az.mk hkg
 have HCASE:=Az.mk hcase
 clear hR hg hkg hcase
 have HRG:=Az.mk hrG
 have HI0:=Az.mk hr0_5
 have HL0:=Az.mk hc0_5
 have HI1:=Az.mk hr1
 have HL1:=Az.mk hc1
 have HI2:=Az.mk hr2_5
 have HL2:=Az.mk hc2_5
 clear hrG hr0_5 hc0_5 hr1 hc1 hr2_5 hc2_5
 go_enter Tryd.func8,Tryd.ntmps8
 go_upto_region 3 with (first
  | ((with_reducible refine gate_dst (N:=3) rfl ?_);refine box_event ?hg (N:=3) ?hd (cs:=#[.bool a0_0,.int .i64 a0_1,.int .i64 a0_2,.int .i64 a0_3,.int .i64 a0_4,.slice A0_5 l0_5.length c0_5]) (t:=29) ?hr ?_;(case hd=>rfl);(case hg=>rfl);(case hr=>first | (go_simp;done) | (go_simp;rfl));intro g3 hg w1 hbox hb;have BK3:=Az.mk hbox;have HB1:=Az.mk (show Below w.heap.size w w1 from hb);clear hb hbox hg)
  | ((with_reducible refine gate_dst (N:=5) rfl ?_);refine box_event ?hg (N:=5) ?hd (cs:=#[.bool a2_0,.int .i64 a2_1,.int .i64 a2_2,.int .i64 a2_3,.int .i64 a2_4,.slice A2_5 l2_5.length c2_5]) (t:=29) ?hr ?_;(case hd=>rfl);(case hg=>rfl);(case hr=>first | (go_simp;done) | (go_simp;rfl));intro g5 hg w2 hbox hb;have BK5:=Az.mk hbox;have HB2:=Az.mk (bwT (bmv HB1.out) hb);replace BK3:=Az.mk (kB (blk_mv BK3.out) hb);clear hb hbox hg HB1)
  | (go_at_call 13;(with_reducible refine (w4anchor.calls 0 true _ (TabG.below HRG.out (bmv HB2.out)) rfl).mono ?_);rintro e w3 ⟨rfl,hb⟩;replace BK3:=Az.mk (kB (blk_mv BK3.out) hb);replace BK5:=Az.mk (kB (blk_mv BK5.out) hb);have HB3:=Az.mk (bwT (bmv HB2.out) hb);clear hb HB2))
 obtain ⟨⟨hz0,hz1,hz2,hz3,hz4,hz5⟩,hy0,hy1,hy2,hy3,hy4,hy5⟩:=cells6 BK3.out
 go_upto_region 4 with (go_at_call 18;(with_reducible refine (w4grown.calls kg a0_0 a0_1 a0_2 a0_3 a0_4 A0_5 c0_5 l0_5 (fun _=>True) A1 c1 l1 t _ (C_mv (Kd.C_below HI0.out HB3.out)) HL0.out (Kd.V_mk HL1.out (Kd.F_below (Kd.F_mono (Kd.C_F k32_heap HI1.out) (fun _ _=>trivial)) (bmv HB3.out))) HKG.out).mono ?_);rintro e w4 ⟨v7,rfl,hN,hb⟩;replace BK5:=Az.mk (kB (blk_mv BK5.out) hb);have HB4:=Az.mk (bwT (bmv HB3.out) hb);have HN4:=Az.mk hN;clear hb hN HB3 BK3)
 clear hz0 hz1 hz2 hz3 hz4 hz5 hy0 hy1 hy2 hy3 hy4 hy5
 obtain ⟨A7,c7,rfl⟩:=Kd.N_slice HN4.out
 have HT:=Az.mk (Kd.N_reads' HN4.out).2.2
 have HTL:=Az.mk (Kd.N_reads' HN4.out).2.1
 clear HN4 HI0 HL0 HI1 HL1 HKG
 obtain ⟨⟨hz0,hz1,hz2,hz3,hz4,hz5⟩,hy0,hy1,hy2,hy3,hy4,hy5⟩:=cells6 BK5.out
 have hlen:=HRT.out.len
 have hp:=pow_le32 HRT.out.hm
 rcases HCASE.out with ⟨hadd,hfull⟩ | ⟨a,b,i,m',hA,hB,hi,hadd,hrem,hx⟩
 · obtain ⟨ka,hka⟩:=Evr.at hadd
   obtain ⟨km,hkm⟩:=Evr.at (Go.Proofs.YtbblomnhobodkaaDoor.Pure.rmembers_ev hlen hp.1 (by omega))
   generalize ints (fullN t 0 (2 ^ m)) = M at hfull hkm
   have HKA:=Az.mk hka
   have HKM:=Az.mk hkm
   have HF:=Az.mk hfull
   clear HCASE hka hkm hfull hadd hlen hp HRT
   go_upto_region 6 with (go_at_call 19;(with_reducible refine (tree_Add.calls ka A7 c7 t a2_0 a2_1 a2_2 a2_3 a2_4 (fun _=>True) A2_5 c2_5 l2_5 [] 0 41 _ (TabG.below HRG.out (bmv HB4.out)) (C_mv HT.out) HTL.out (V_int HL2.out (C_mv (Kd.C_below HI2.out HB4.out))) HKA.out).mono ?_);rintro e w5 ⟨v8,rfl,hS,hb⟩;have HB5:=Az.mk (bwT (bmv HB4.out) hb);have HT5:=Az.mk (Kd.C_below (C_mv HT.out) hb);clear hS hb)
   go_wp2_with (go_at_call 27;(with_reducible refine (r4Members.calls km A7 c7 t M _ (C_mv HT5.out) HTL.out HKM.out).mono ?_);rintro e w6 ⟨v9,rfl,hR,hb⟩;obtain ⟨A9,c9,e9⟩:=Kd.R_slice hR;rw [HF.out] at e9;subst e9;have HB6:=Az.mk (bwT (bmv HB5.out) hb);clear hR hb)
   go_ret
   exact ⟨rfl,bmv HB6.out⟩
 have hbl : b.length = t.length:=by rw [hB.len,hlen]
 have hround:=Go.Proofs.YtbblomnhobodkaaDoor.Pure.back_round HRT.out hB hA.hm hi hx
 have hb63 : (b.length : Int)≤63:=by rw [hB.len];omega
 have hlv:=(leaves_at hlen hp.1 (by omega)).1
 obtain ⟨n,hn⟩ : ∃ n : Int,n = ((2 ^ m : Nat) : Int):=⟨_,rfl⟩
 obtain ⟨ii,hii⟩ : ∃ z : Int,z = (i : Int):=⟨_,rfl⟩
 rw [← hn] at hround hlv
 rw [← hii] at hround hadd hrem
 clear hn hii hx hi
 have HLV:=Az.mk hlv
 have HROUND:=Az.mk hround
 have HB63:=Az.mk hb63
 clear hlv hround hb63
 obtain ⟨ka,hka⟩:=Evr.at hadd
 obtain ⟨kr,hkr⟩:=Evr.at hrem
 have HKA:=Az.mk hka
 have HKR:=Az.mk hkr
 have HBL:=Az.mk hbl
 clear HCASE hka hkr hadd hrem hlen hp hA hB hbl HRT
 go_upto_region 5 with (go_at_call 19;(with_reducible refine (tree_Add.calls ka A7 c7 t a2_0 a2_1 a2_2 a2_3 a2_4 (fun _=>True) A2_5 c2_5 l2_5 a ii 0 _ (TabG.below HRG.out (bmv HB4.out)) (C_mv HT.out) HTL.out (V_int HL2.out (C_mv (Kd.C_below HI2.out HB4.out))) HKA.out).mono ?_);rintro e w5 ⟨v8,rfl,hS,hb⟩;have HB5:=Az.mk (bwT (bmv HB4.out) hb);have HT5:=Az.mk (Kd.C_below (C_mv HT.out) hb);have HN5:=Az.mk (Kd.S_N hS);clear hS hb HB4)
 clear hz0 hz1 hz2 hz3 hz4 hz5 hy0 hy1 hy2 hy3 hy4 hy5 HT BK5 HI2 HL2 HKA
 obtain ⟨A8,c8,rfl⟩:=Kd.N_slice HN5.out
 go_upto_region 8 with (go_at_call 32;(with_reducible refine (tree_Remove.calls kr _ A8 c8 a ii b 0 _ (TabG.below HRG.out (bmv HB5.out)) (Kd.N_V (N_mv HN5.out)) HKR.out).mono ?_);rintro e w6 ⟨v11,rfl,hV,hb⟩;have HB6:=Az.mk (bwT (bmv HB5.out) hb);have HT6:=Az.mk (Kd.C_below (C_mv HT5.out) hb);have HV6:=Az.mk hV;clear hV hb)
 obtain ⟨A11,c11,e11⟩:=Kd.V_slice HV6.out
 subst e11
 have HC6:=Az.mk (Kd.V_reads' HV6.out).2.2
 clear HV6 HB5 HT5 HN5 HKR
 have hne : ((b.length : Int) != (t.length : Int)) = false:=by rw [HBL.out];simp
 go_upto_region 10 with (fail)
 go_upto_region 11 with (go_at_call 21;(with_reducible refine (r4Leaves.calls A7 c7 t n _ (C_mv HT6.out) HTL.out HLV.out).mono ?_);rintro e w' ⟨rfl,⟨nd,rfl⟩⟩)
 clear HLV hne
 go_wp2
 have HNE:=Az.mk (show (0 : Int)≤b.length from by omega)
 go_loopg [57] b.length (fun q v57 w'=>∃ x : Int,v57 = .int .i64 x∧Az (0≤x∧(q : Int) + x = b.length)∧Az (Below w.heap.size w w')∧Az (Kd.C k29 w' A7 t.length t)∧Az (Kd.C k29 w' A11 b.length b))
 case atStart=>exact ⟨0,rfl,⟨by omega⟩,⟨bmv HB6.out⟩,⟨C_mv HT6.out⟩,⟨C_mv HC6.out⟩⟩
 case round=>
  clear HB6 HT6 HC6 HNE
  obtain ⟨x,rfl,HQ,HBx,HTx,HCx⟩:=hrel
  by_cases c : x < (b.length : Int)
  case neg=>
   have cb : decide (x < (b.length : Int)) = false:=decide_eq_false c
   clear c
   go_wp2
   go_ret
   exact ⟨rfl,bmv HBx.out⟩
  have cb : decide (x < (b.length : Int)) = true:=decide_eq_true c
  have c0 : 0≤x:=HQ.out.1
  have HRD:=Az.mk (HROUND.out x c0 c)
  obtain ⟨ad,A5,c5,e0,hx0,hx1,hx2,hx3,hx4,hx5,hl5,hi5⟩:=at_T29 HCx.out x c0 c
  cases e0
  have p1:=eq_true c
  have p2:=eq_true c0
  have HL5:=Az.mk hl5
  have HI5:=Az.mk hi5
  clear hl5 hi5
  generalize hv : rd_T29 b x = v at *
  clear hv
  go_upto_region 14 with (first
   | ((with_reducible refine gate_dst (N:=15) rfl ?_);refine box_event ?hg (N:=15) ?hd (cs:=#[.bool false,.int .i64 0,.int .i64 0,.int .i64 0,.int .i64 0,.slice none 0 0]) (t:=29) ?hr ?_;(case hd=>rfl);(case hg=>rfl);(case hr=>first | (go_simp;done) | (go_simp;rfl));intro g hg w2 hbox hb;have BK:=Az.mk hbox;have HB2:=Az.mk (show Below wr.heap.size wr w2 from hb);have GE:=Az.mk (show wr.heap.size≤g from Nat.le_of_eq hg.symm);clear hb hbox hg;obtain ⟨⟨hz0,hz1,hz2,hz3,hz4,hz5⟩,hy0,hy1,hy2,hy3,hy4,hy5⟩:=cells6 BK.out)
   | ((with_reducible refine gate_store (t:=29) (p:=15) rfl ?_);refine store_event (t:=29) (p:=15) (v:=?vo_w23) (w1:=((((((w2.setCell ⟨g,0,none⟩ (.bool v.f0)).setCell ⟨g,1,none⟩ (.int .i64 v.f1)).setCell ⟨g,2,none⟩ (.int .i64 v.f2)).setCell ⟨g,3,none⟩ (.int .i64 v.f3)).setCell ⟨g,4,none⟩ (.int .i64 v.f4)).setCell ⟨g,5,none⟩ (.slice A5 v.f5.length c5))) ?hg ?ho ?hn ?hr ?_;(case ho=>rfl);(case hg=>rfl);(case hn=>rfl);(case hr=>first | (go_simp;done) | (go_simp;rfl));intro w3 hw;have BK3:=Az.mk (back_box hw BK.out);have HB3:=Az.mk (back_below hw HB2.out GE.out);clear hw hz0 hz1 hz2 hz3 hz4 hz5 hy0 hy1 hy2 hy3 hy4 hy5 BK HB2))
  clear hx0 hx1 hx2 hx3 hx4 hx5
  have HBY:=Az.mk (bwT HBx.out HB3.out)
  have HTY:=Az.mk (Kd.C_below HTx.out HB3.out)
  have HCY:=Az.mk (Kd.C_below HCx.out HB3.out)
  have HIY:=Az.mk (Kd.C_below HI5.out HB3.out)
  have HSM:=Az.mk HRD.out.2.2
  have HX3:=Az.mk HRD.out.1
  clear HRD HBx HTx HCx HI5 HB3
  go_cut [71] (fun v71 wc=>∃ y : Bool,v71 = .bool y∧Az (y = true→v.f0 = false)∧Az (y = false→v = rd_T29 t x)∧Az (Below w.heap.size w wc)∧Az (Kd.C k29 wc A7 t.length t)∧Az (Kd.C k29 wc (some ad) b.length b)∧Az (Kd.C (Kd.int .i64) wc A5 v.f5.length v.f5)∧Az (wc.heap[g]? = some (.cells #[.bool v.f0,.int .i64 v.f1,.int .i64 v.f2,.int .i64 v.f3,.int .i64 v.f4,.slice A5 v.f5.length c5] 29 (0,0))))
  case first=>
   rcases HX3.out with ⟨hin,u,k,hk,h1,h2⟩ | ⟨hin,h2⟩
   · have hinb : decide (ii < n) = true:=decide_eq_true hin
     have HK:=Az.mk hk
     have H1:=Az.mk h1
     have H2:=Az.mk h2
     clear hin hk h1 h2
     go_wp2_with (go_at_call 26;(with_reducible refine (r3Under.calls k (wrap64 (2 * ii)) x n u _ HK.out).mono ?_);rintro e w' ⟨rfl,⟨nd,rfl⟩⟩)
     go_meet
     exact ⟨u,rfl,H1,H2,⟨bmv HBY.out⟩,⟨C_mv HTY.out⟩,⟨C_mv HCY.out⟩,⟨C_mv HIY.out⟩,⟨blk_mv BK3.out⟩⟩
   · have hinb : decide (ii < n) = false:=decide_eq_false (by omega)
     have H2:=Az.mk h2
     clear hin h2
     go_wp2
     go_meet
     exact ⟨false,rfl,⟨fun h=>by cases h⟩,⟨fun _=>H2.out⟩,⟨bmv HBY.out⟩,⟨C_mv HTY.out⟩,⟨C_mv HCY.out⟩,⟨C_mv HIY.out⟩,⟨blk_mv BK3.out⟩⟩
  case rest=>
  clear HBY HTY HCY HIY BK3 HX3
  obtain ⟨y,rfl,HY1,HY2,HBY,HTY,HCY,HIY,BK3⟩:=hcut
  have hw : wrap64 (x + 1) = x + 1:=Go.Proofs.YtbblomnhobodkaaDoor.Pure.wrap_id (by have:=HB63.out;omega)
  obtain ⟨⟨hz0,hz1,hz2,hz3,hz4,hz5⟩,hy0,hy1,hy2,hy3,hy4,hy5⟩:=cells6 BK3.out
  cases gk with
  | zero=>exact absurd HQ.out.2 (by omega)
  | succ q=>
  cases y with
  | true=>
   rw [HY1.out rfl] at hz0
   go_wp2
   go_roundg q
   case measure=>omega
   case rel=>exact ⟨_,rfl,⟨by have:=HQ.out;omega⟩,⟨bmv HBY.out⟩,⟨C_mv HTY.out⟩,⟨C_mv HCY.out⟩⟩
  | false=>
  have hxt : x < (t.length : Int):=by rw [← HBL.out];exact c
  obtain ⟨ad2,A6,c6,e1,hu0,hu1,hu2,hu3,hu4,hu5,hl6,hi6⟩:=at_T29 HTY.out x c0 hxt
  cases e1
  have hev:=HY2.out rfl
  rw [← hev] at hu0 hu1 hu2 hu3 hu4 hu5 hl6 hi6
  clear hev
  have HL6:=Az.mk hl6
  have p3:=eq_true hxt
  obtain ⟨ks,hks⟩:=HSM.out
  have HKS:=Az.mk hks
  have HB4:=Az.mk (show Below w.heap.size w wc.drew from bmv HBY.out)
  have HT4:=Az.mk (show Kd.C k29 wc.drew (some ad2) t.length t from C_mv HTY.out)
  have HC4:=Az.mk (show Kd.C k29 wc.drew (some ad) b.length b from C_mv HCY.out)
  have HI4:=Az.mk (show Kd.C (Kd.int .i64) wc.drew A5 v.f5.length v.f5 from C_mv HIY.out)
  have HI6:=Az.mk (show Kd.C (Kd.int .i64) wc.drew A6 v.f5.length v.f5 from C_mv hi6)
  clear hl6 hi6 hks hxt HBY HTY HCY HIY HY1 HY2
  go_upto_region 17 with (fail)
  refine start_ (n:=9) (S:=fun w'=>w'.cell? ⟨g,0,none⟩ = some (.bool v.f0)∧w'.cell? ⟨g,1,none⟩ = some (.int .i64 v.f1)∧w'.cell? ⟨g,2,none⟩ = some (.int .i64 v.f2)∧w'.cell? ⟨g,3,none⟩ = some (.int .i64 v.f3)∧w'.cell? ⟨g,4,none⟩ = some (.int .i64 v.f4)∧w'.cell? ⟨g,5,none⟩ = some (.slice A5 v.f5.length c5)∧w'.cell? (ad2.add (x.toNat * 6)) = some (.bool v.f0)∧w'.cell? ⟨(ad2.add (x.toNat * 6)).block,(ad2.add (x.toNat * 6)).off + 1,none⟩ = some (.int .i64 v.f1)∧w'.cell? ⟨(ad2.add (x.toNat * 6)).block,(ad2.add (x.toNat * 6)).off + 2,none⟩ = some (.int .i64 v.f2)∧w'.cell? ⟨(ad2.add (x.toNat * 6)).block,(ad2.add (x.toNat * 6)).off + 3,none⟩ = some (.int .i64 v.f3)∧w'.cell? ⟨(ad2.add (x.toNat * 6)).block,(ad2.add (x.toNat * 6)).off + 4,none⟩ = some (.int .i64 v.f4)∧w'.cell? ⟨(ad2.add (x.toNat * 6)).block,(ad2.add (x.toNat * 6)).off + 5,none⟩ = some (.slice A6 v.f5.length c6)) (ds:=[]) #[false,false,false,false,false,false,false,false,false] (by kernel_rfl) rfl rfl ⟨hz0,hz1,hz2,hz3,hz4,hz5,hu0,hu1,hu2,hu3,hu4,hu5⟩ (fun hHeld=>?_)
  refine with_tabW back_tab17 back_bits17 (fun HT_ HW_=>?_)
  clear hz0 hz1 hz2 hz3 hz4 hz5 hy0 hy1 hy2 hy3 hy4 hy5 hu0 hu1 hu2 hu3 hu4 hu5 BK3
  generalize wc.drew = w4 at HB4 HT4 HC4 HI4 HI6 hHeld ⊢
  refine pure_ (i:=2) (N:=some 76) (v:=?_) (a':=?_) #[false,false,true,false,false,false,false,false,false] rfl rfl (any_of HT_.out (by kernel_rfl)) (fun _ _ _ h=>h) (Or.inl ⟨by rfl,?_⟩) ?_ ?_
  rotate_left;(intro w';go_simp;with_reducible rfl);rotate_left;(simp only [Act.put,List.setIfInBounds_toArray,List.set_cons_zero,List.set_cons_succ,i64_w,i32_w];rfl)
  refine pure_ (i:=3) (N:=some 77) (v:=?_) (a':=?_) #[false,false,true,true,false,false,false,false,false] rfl rfl (any_of HT_.out (by kernel_rfl)) (fun _ _ _ h=>h) (Or.inl ⟨by rfl,?_⟩) ?_ ?_
  rotate_left;(intro w';go_simp;with_reducible rfl);rotate_left;(simp only [Act.put,List.setIfInBounds_toArray,List.set_cons_zero,List.set_cons_succ,i64_w,i32_w];rfl)
  refine pure_ (i:=4) (N:=some 78) (v:=?_) (a':=?_) #[false,false,true,true,true,false,false,false,false] rfl rfl (any_of HT_.out (by kernel_rfl)) (fun _ _ _ h=>h) (Or.inl ⟨by rfl,?_⟩) ?_ ?_
  rotate_left;(intro w';go_simp;with_reducible rfl);rotate_left;(simp only [Act.put,List.setIfInBounds_toArray,List.set_cons_zero,List.set_cons_succ,i64_w,i32_w];rfl)
  refine take_ (i:=0) (N:=some 74) (v:=?_) (a':=?_) #[true,false,true,true,true,false,false,false,false] rfl rfl (take_ofW HT_.out HW_.out (by kernel_rfl)) (fun _ _ _ h=>h) (Or.inl ⟨by rfl,?_⟩) hHeld ?_ ?_
  rotate_left;(rintro w' ⟨s0,s1,s2,s3,s4,s5,s6,s7,s8,s9,s10,s11⟩;go_simp;with_reducible rfl);rotate_left;(simp only [Act.put,List.setIfInBounds_toArray,List.set_cons_zero,List.set_cons_succ,i64_w,i32_w];rfl)
  refine take_ (i:=5) (N:=some 79) (v:=?_) (a':=?_) #[true,false,true,true,true,true,false,false,false] rfl rfl (take_ofW HT_.out HW_.out (by kernel_rfl)) (fun _ _ _ h=>h) (Or.inl ⟨by rfl,?_⟩) hHeld ?_ ?_
  rotate_left;(rintro w' ⟨s0,s1,s2,s3,s4,s5,s6,s7,s8,s9,s10,s11⟩;go_simp;with_reducible rfl);rotate_left;(simp only [Act.put,List.setIfInBounds_toArray,List.set_cons_zero,List.set_cons_succ,i64_w,i32_w];rfl)
  refine join_ (σ:=Value × Value) 2 #[true,true,true,true,true,true,true,false,false] (fun s_=>[(75,s_.1),(80,s_.2)]) (fun s_ w'=>(w'.cell? ⟨g,0,none⟩ = some (.bool v.f0)∧w'.cell? ⟨g,1,none⟩ = some (.int .i64 v.f1)∧w'.cell? ⟨g,2,none⟩ = some (.int .i64 v.f2)∧w'.cell? ⟨g,3,none⟩ = some (.int .i64 v.f3)∧w'.cell? ⟨g,4,none⟩ = some (.int .i64 v.f4)∧w'.cell? ⟨g,5,none⟩ = some (.slice A5 v.f5.length c5)∧w'.cell? (ad2.add (x.toNat * 6)) = some (.bool v.f0)∧w'.cell? ⟨(ad2.add (x.toNat * 6)).block,(ad2.add (x.toNat * 6)).off + 1,none⟩ = some (.int .i64 v.f1)∧w'.cell? ⟨(ad2.add (x.toNat * 6)).block,(ad2.add (x.toNat * 6)).off + 2,none⟩ = some (.int .i64 v.f2)∧w'.cell? ⟨(ad2.add (x.toNat * 6)).block,(ad2.add (x.toNat * 6)).off + 3,none⟩ = some (.int .i64 v.f3)∧w'.cell? ⟨(ad2.add (x.toNat * 6)).block,(ad2.add (x.toNat * 6)).off + 4,none⟩ = some (.int .i64 v.f4)∧w'.cell? ⟨(ad2.add (x.toNat * 6)).block,(ad2.add (x.toNat * 6)).off + 5,none⟩ = some (.slice A6 v.f5.length c6))∧Below w.heap.size w w'∧Kd.C k29 w' (some ad2) t.length t∧Kd.C k29 w' (some ad) b.length b∧(∃ Ap cp,s_.1 = .slice Ap 1 cp∧1≤cp∧Kd.C k29 w' Ap 1 [v])∧(∃ Ap cp,s_.2 = .slice Ap 1 cp∧1≤cp∧Kd.C k29 w' Ap 1 [v])) ?_ ?_
  rotate_left
  · intro hCont
    refine two_ (i:=1) (j:=6) (Ni:=some 75) (Nj:=some 80) #[true,true,true,true,true,true,false,false,false] #[true,false,true,true,true,true,true,false,false] rfl rfl rfl rfl (two_of HT_.out (by kernel_rfl)) (by decide) (by decide) (fun K hK=>?_) (fun K hK=>?_)
    · skip
      refine Kd.N_lit_step k29 _ 29 ?hg (N':=75) ?hd (xs:=[v]) (inner:=[.bool v.f0,.int .i64 v.f1,.int .i64 v.f2,.int .i64 v.f3,.int .i64 v.f4,.slice A5 v.f5.length c5]) (ok:=fun _=>True) (okp:=fun _=>True) ?hr ?hp (fun _ hk=>hk) trivial (Below.refl _ _) (Nat.le_refl _) (by simp) ?_
      (case hd=>rfl);(case hg=>rfl);(case hr=>first | (go_simp;done) | (go_simp;rfl));(case hp=>exact Reps.c6 (show Kd.FK k29 _ (fun _=>True) v [.bool v.f0,.int .i64 v.f1,.int .i64 v.f2,.int .i64 v.f3,.int .i64 v.f4,.slice A5 v.f5.length c5] from k29_mkF _ _ v HL5.out (Kd.F_mono (Kd.C_F (Kd.heap_int .i64) HI4.out) (fun _ _=>trivial))) (Reps.none _ _))
      intro v75 w5 ho hb hg_ hnew_
      clear hg_ hnew_
      replace HB4:=Az.mk (bwT HB4.out hb);replace HT4:=Az.mk (Kd.C_below HT4.out hb);replace HC4:=Az.mk (Kd.C_below HC4.out hb);replace HI4:=Az.mk (Kd.C_below HI4.out hb);replace HI6:=Az.mk (Kd.C_below HI6.out hb)
      obtain ⟨Ap,cp,ep⟩:=Kd.N_slice ho
      subst ep
      have HP:=Az.mk (Kd.N_reads' ho)
      refine hK.out _ _ (back_held hb hHeld) (fun hHeld=>?_)
      clear hK K
      clear hb ho
      refine norm_ (a':=?_) ?_ ?_
      rotate_left
      · show Act.put _ (some 75) _ = _
        simp only [Act.put,List.setIfInBounds_toArray,List.set_cons_zero,List.set_cons_succ,i64_w,i32_w]
        rfl
      refine one_ (i:=6) (N:=some 80) #[true,true,true,true,true,true,true,false,false] rfl rfl (one_of HT_.out (by kernel_rfl)) (by decide) (fun K hK=>?_)
      refine Kd.N_lit_step k29 _ 29 ?hg (N':=80) ?hd (xs:=[v]) (inner:=[.bool v.f0,.int .i64 v.f1,.int .i64 v.f2,.int .i64 v.f3,.int .i64 v.f4,.slice A6 v.f5.length c6]) (ok:=fun _=>True) (okp:=fun _=>True) ?hr ?hp (fun _ hk=>hk) trivial (Below.refl _ _) (Nat.le_refl _) (by simp) ?_
      (case hd=>rfl);(case hg=>rfl);(case hr=>first | (go_simp;done) | (go_simp;rfl));(case hp=>exact Reps.c6 (show Kd.FK k29 _ (fun _=>True) v [.bool v.f0,.int .i64 v.f1,.int .i64 v.f2,.int .i64 v.f3,.int .i64 v.f4,.slice A6 v.f5.length c6] from k29_mkF _ _ v HL6.out (Kd.F_mono (Kd.C_F (Kd.heap_int .i64) HI6.out) (fun _ _=>trivial))) (Reps.none _ _))
      intro v80 w6 ho hb hg_ hnew_
      clear hg_ hnew_
      replace HB4:=Az.mk (bwT HB4.out hb);replace HT4:=Az.mk (Kd.C_below HT4.out hb);replace HC4:=Az.mk (Kd.C_below HC4.out hb);replace HI4:=Az.mk (Kd.C_below HI4.out hb);replace HI6:=Az.mk (Kd.C_below HI6.out hb)
      obtain ⟨Aq,cq,eq_⟩:=Kd.N_slice ho
      subst eq_
      have HQ2:=Az.mk (Kd.N_reads' ho)
      have HP2:=Az.mk (Kd.C_below HP.out.2.2 hb)
      refine hK.out _ _ (back_held hb hHeld) (fun hHeld=>?_)
      clear hK K
      clear hb ho
      refine norm_ (a':=?_) ?_ ?_
      rotate_left
      · show Act.put _ (some 80) _ = _
        simp only [Act.put,List.setIfInBounds_toArray,List.set_cons_zero,List.set_cons_succ,i64_w,i32_w]
        rfl
      exact norm_ (by first | (simp only [putAll,Act.put,List.setIfInBounds_toArray,List.set_cons_zero,List.set_cons_succ];done) | (simp only [putAll,Act.put,List.setIfInBounds_toArray,List.set_cons_zero,List.set_cons_succ];rfl)) (hCont (.slice Ap 1 cp,.slice Aq 1 cq) _ ⟨hHeld,HB4.out,HT4.out,HC4.out,⟨_,_,rfl,HP.out.2.1,HP2.out⟩,⟨_,_,rfl,HQ2.out.2.1,HQ2.out.2.2⟩⟩)
    · skip
      refine Kd.N_lit_step k29 _ 29 ?hg (N':=80) ?hd (xs:=[v]) (inner:=[.bool v.f0,.int .i64 v.f1,.int .i64 v.f2,.int .i64 v.f3,.int .i64 v.f4,.slice A6 v.f5.length c6]) (ok:=fun _=>True) (okp:=fun _=>True) ?hr ?hp (fun _ hk=>hk) trivial (Below.refl _ _) (Nat.le_refl _) (by simp) ?_
      (case hd=>rfl);(case hg=>rfl);(case hr=>first | (go_simp;done) | (go_simp;rfl));(case hp=>exact Reps.c6 (show Kd.FK k29 _ (fun _=>True) v [.bool v.f0,.int .i64 v.f1,.int .i64 v.f2,.int .i64 v.f3,.int .i64 v.f4,.slice A6 v.f5.length c6] from k29_mkF _ _ v HL6.out (Kd.F_mono (Kd.C_F (Kd.heap_int .i64) HI6.out) (fun _ _=>trivial))) (Reps.none _ _))
      intro v80 w5 ho hb hg_ hnew_
      clear hg_ hnew_
      replace HB4:=Az.mk (bwT HB4.out hb);replace HT4:=Az.mk (Kd.C_below HT4.out hb);replace HC4:=Az.mk (Kd.C_below HC4.out hb);replace HI4:=Az.mk (Kd.C_below HI4.out hb);replace HI6:=Az.mk (Kd.C_below HI6.out hb)
      obtain ⟨Ap,cp,ep⟩:=Kd.N_slice ho
      subst ep
      have HP:=Az.mk (Kd.N_reads' ho)
      refine hK.out _ _ (back_held hb hHeld) (fun hHeld=>?_)
      clear hK K
      clear hb ho
      refine norm_ (a':=?_) ?_ ?_
      rotate_left
      · show Act.put _ (some 80) _ = _
        simp only [Act.put,List.setIfInBounds_toArray,List.set_cons_zero,List.set_cons_succ,i64_w,i32_w]
        rfl
      refine one_ (i:=1) (N:=some 75) #[true,true,true,true,true,true,true,false,false] rfl rfl (one_of HT_.out (by kernel_rfl)) (by decide) (fun K hK=>?_)
      refine Kd.N_lit_step k29 _ 29 ?hg (N':=75) ?hd (xs:=[v]) (inner:=[.bool v.f0,.int .i64 v.f1,.int .i64 v.f2,.int .i64 v.f3,.int .i64 v.f4,.slice A5 v.f5.length c5]) (ok:=fun _=>True) (okp:=fun _=>True) ?hr ?hp (fun _ hk=>hk) trivial (Below.refl _ _) (Nat.le_refl _) (by simp) ?_
      (case hd=>rfl);(case hg=>rfl);(case hr=>first | (go_simp;done) | (go_simp;rfl));(case hp=>exact Reps.c6 (show Kd.FK k29 _ (fun _=>True) v [.bool v.f0,.int .i64 v.f1,.int .i64 v.f2,.int .i64 v.f3,.int .i64 v.f4,.slice A5 v.f5.length c5] from k29_mkF _ _ v HL5.out (Kd.F_mono (Kd.C_F (Kd.heap_int .i64) HI4.out) (fun _ _=>trivial))) (Reps.none _ _))
      intro v75 w6 ho hb hg_ hnew_
      clear hg_ hnew_
      replace HB4:=Az.mk (bwT HB4.out hb);replace HT4:=Az.mk (Kd.C_below HT4.out hb);replace HC4:=Az.mk (Kd.C_below HC4.out hb);replace HI4:=Az.mk (Kd.C_below HI4.out hb);replace HI6:=Az.mk (Kd.C_below HI6.out hb)
      obtain ⟨Aq,cq,eq_⟩:=Kd.N_slice ho
      subst eq_
      have HQ2:=Az.mk (Kd.N_reads' ho)
      have HP2:=Az.mk (Kd.C_below HP.out.2.2 hb)
      refine hK.out _ _ (back_held hb hHeld) (fun hHeld=>?_)
      clear hK K
      clear hb ho
      refine norm_ (a':=?_) ?_ ?_
      rotate_left
      · show Act.put _ (some 75) _ = _
        simp only [Act.put,List.setIfInBounds_toArray,List.set_cons_zero,List.set_cons_succ,i64_w,i32_w]
        rfl
      exact norm_ (by first | (simp only [putAll,Act.put,List.setIfInBounds_toArray,List.set_cons_zero,List.set_cons_succ];done) | (simp only [putAll,Act.put,List.setIfInBounds_toArray,List.set_cons_zero,List.set_cons_succ];rfl)) (hCont (.slice Aq 1 cq,.slice Ap 1 cp) _ ⟨hHeld,HB4.out,HT4.out,HC4.out,⟨_,_,rfl,HQ2.out.2.1,HQ2.out.2.2⟩,⟨_,_,rfl,HP.out.2.1,HP2.out⟩⟩)
  rintro ⟨v75,v80⟩ w7 ⟨hHeld,h1,h2,h3,⟨Ap,cp,e75,hlp,hcp⟩,⟨Aq,cq,e80,hlq,hcq⟩⟩
  have e75' : v75 = .slice Ap 1 cp:=e75
  have e80' : v80 = .slice Aq 1 cq:=e80
  clear e75 e80
  subst e75' e80'
  have HB7:=Az.mk h1
  have HT7:=Az.mk h2
  have HC7:=Az.mk h3
  have HP7 : Az (Kd.C k29 w7 Ap ([v] : List S29).length [v]):=⟨hcp⟩
  have HPL : Az (([v] : List S29).length≤cp):=⟨hlp⟩
  have HQ7 : Az (Kd.C k29 w7 Aq ([v] : List S29).length [v]):=⟨hcq⟩
  have HQL : Az (([v] : List S29).length≤cq):=⟨hlq⟩
  clear h1 h2 h3 hcp hlp hcq hlq HB4 HT4 HC4 HI4 HI6
  refine norm_ (a':=?_) ?_ ?_
  rotate_left
  · simp only [putAll,Act.put,List.setIfInBounds_toArray,List.set_cons_zero,List.set_cons_succ]
    rfl
  refine one_ (i:=7) (N:=some 81) #[true,true,true,true,true,true,true,true,false] rfl rfl (one_of HT_.out (by kernel_rfl)) (by decide) (fun K hK=>?_)
  refine goes_ Tryd.func17 (by kernel_rfl) rfl #[.slice Ap ([v] : List S29).length cp,.slice Aq ([v] : List S29).length cq] (by rfl) rfl rfl (by (try simp only [List.map_toArray,List.map_cons,List.map_nil]);first | done | rfl | (simp only [List.length_drop,List.length_take];rfl)) ?_
  with_reducible refine (r4Same.calls ks Ap cp [v] Aq cq [v] true _ HP7.out HPL.out HQ7.out HQL.out HKS.out).mono ?_
  rintro e w8 ⟨rfl,hb⟩
  refine ⟨_,rfl,?_⟩
  refine hK.out _ _ (back_held hb hHeld) (fun hHeld=>?_)
  have HB8:=Az.mk (bwT HB7.out hb)
  have HT8:=Az.mk (Kd.C_below HT7.out hb)
  have HC8:=Az.mk (Kd.C_below HC7.out hb)
  clear hK K hb
  refine norm_ (a':=?_) ?_ ?_
  rotate_left
  · show Act.put _ (some 81) _ = _
    simp only [Act.put,List.setIfInBounds_toArray,List.set_cons_zero,List.set_cons_succ,i64_w,i32_w]
    rfl
  refine pure_ (i:=8) (N:=some 82) (v:=?_) (a':=?_) #[true,true,true,true,true,true,true,true,true] rfl rfl (any_of HT_.out (by kernel_rfl)) (fun _ _ _ h=>h) (Or.inl ⟨by rfl,?_⟩) ?_ ?_
  rotate_left;(intro w';go_simp;with_reducible rfl);rotate_left;(simp only [Act.put,List.setIfInBounds_toArray,List.set_cons_zero,List.set_cons_succ,i64_w,i32_w];rfl)
  refine done_ (done_of HT_.out (by kernel_rfl)) ?_
  go_wp2
  go_roundg q
  case measure=>omega
  case rel=>exact ⟨_,rfl,⟨by have:=HQ.out;omega⟩,⟨bmv HB8.out⟩,⟨C_mv HT8.out⟩,⟨C_mv HC8.out⟩⟩
end Go.Proofs.YtbblomnhobodkaaDoor.PTw
set_option linter.unusedVariables false
set_option linter.unusedSimpArgs false
namespace Go.Proofs.YtbblomnhobodkaaDoor
open Go.ChangeShapes Go.WideShapes Go.Deep Go.RowKit Go.Proofs.YtbblomnhobodkaaDoorW.PW Go.Proofs.YtbblomnhobodkaaDoor.PTw
section
variable {H : Type} {enc : TypeId × Value→H} {P : Program} {w : World} {base b0 : Nat} {r : Reach} {spare : Nat→Bool} {held : Bool}
theorem open_agg_fields {t : TypeId} {fs : Array Field} {v : Value} {d : DataW H} {p : List MemPlace} (hs : P.underlying t = some (.struct fs)) (hone : oneCellFields P fs = true) (hC : P.cellsOf t = fs.size)
 (hv : Value.okWide P w r b0 t v) (h : DataW.Trod enc P w base spare held t v d p) :
 ∃ cs : Array Value,v = .agg cs∧cs.size = fs.size∧∀ (j : Nat) (f : Field),fs[j]? = some f→∃ (u : Value) (y : DataW H × List MemPlace) (n : Nat),cs[j]? = some u∧DataW.trod enc P w base spare held n f.type [u] = some y:=by
 obtain ⟨cs,rfl,hsz⟩:=okWide_struct hs hv
 obtain ⟨fuel,hf⟩:=h
 obtain ⟨ys,n',hn',hy,hlen,hyl,hfl⟩:=DataW.trod_struct hs hf
 refine ⟨cs,rfl,hsz.trans hC,fun j f hj=>?_⟩
 obtain ⟨ho,hk⟩:=hone_of hone j f hj
 have hjl : j < fs.size:=(Array.getElem?_eq_some_iff.1 hj).1
 have hcl : cs.size = fs.size:=hsz.trans hC
 have h1:=hfl j f hj
 rw [ho,hk] at h1
 have e : ((Value.agg cs).cells.toList.drop j).take 1 = [cs[j]'(by omega)]:=by
  simp only [Value.cells]
  rw [List.drop_eq_getElem_cons (by simp;omega)]
  simp
 rw [e] at h1
 exact ⟨cs[j]'(by omega),_,n',Array.getElem?_eq_getElem (by omega),h1.trans (List.getElem?_eq_getElem (by omega))⟩
end
section
variable {H : Type} {enc : TypeId × Value→H} {W : World}
theorem inner_ints {n : Nat} {v : Value} {y : DataW H × List MemPlace} (h : DataW.trod enc Tryd.prog W 0 (fun _=>true) true n 27 [v] = some y) :
 ∃ (A : Option Addr) (c : Nat) (l : List Int),v = .slice A l.length c∧l.length≤c∧(Kd.int .i64).C W A l.length l∧l.length≤maxLen∧∀ x ∈ l,(Lit.int .i64 x).wf = true:=by
 obtain ⟨A,L,c,zs,rfl,hw⟩ : ∃ A L c zs,v = .slice A L c∧((A = none∧L = 0∧c = 0∧zs = [])∨∃ x,A = some x∧L≤c∧c≤maxLen∧zs.length = c∧(∀ i,i < zs.length→W.cell? (x.add i) = some (.int .i64 (zs.getD i 0)))∧∀ n ∈ zs,(Lit.int .i64 n).wf = true):=by
  rcases open_ints Tryd.underlying27 Tryd.underlying3 (by kernel_rfl) h with ⟨hcs,_⟩ | ⟨x,l,c,zs,hcs,_,hl,hm,hz,_,hcell,hwz⟩
  · simp at hcs
    exact ⟨none,0,0,[],hcs,.inl ⟨rfl,rfl,rfl,rfl⟩⟩
  · simp at hcs
    exact ⟨some x,l,c,zs,hcs,.inr ⟨_,rfl,hl,hm,by simpa using hz,hcell,hwz⟩⟩
 obtain ⟨l,rfl,h1,h2,h3,h4⟩:=ReadsInt.ofRowC hw
 exact ⟨A,c,l,rfl,h4,Kd.C_of_reads (d:=(0 : Int)) (h1:=fun _=>rfl) h1,h2,h3⟩
end
end Go.Proofs.YtbblomnhobodkaaDoor
namespace Go.Proofs.YtbblomnhobodkaaDoor.PTw
open Go.RowKit Go.Proofs.YtbblomnhobodkaaDoorW.PW Go.Proofs.YtbblomnhobodkaaDoorW.PL Go.Proofs.YtbblomnhobodkaaDoorW.PM
attribute [local go_sem] max2_int min2_int max_two min_two max_three min_three max_four min_four   -- for this text's walks alone
set_option linter.unusedVariables false
set_option linter.unusedSimpArgs false
structure WfOp (o : S32) : Prop where
 f0 : (Lit.int .i64 o.f0).wf = true
 f1 : (Lit.int .i64 o.f1).wf = true
 v1 : (Lit.int .i64 o.f2.f1).wf = true
 v2 : (Lit.int .i64 o.f2.f2).wf = true
 v3 : (Lit.int .i64 o.f2.f3).wf = true
 v4 : (Lit.int .i64 o.f2.f4).wf = true
 f3 : (Lit.int .i64 o.f3).wf = true
 late : o.f2.f5.length≤maxLen∧∀ x ∈ o.f2.f5,(Lit.int .i64 x).wf = true
end Go.Proofs.YtbblomnhobodkaaDoor.PTw
set_option linter.unusedVariables false
set_option linter.unusedSimpArgs false
namespace Go.Proofs.YtbblomnhobodkaaDoor
open Go.ChangeShapes Go.WideShapes Go.Deep Go.RowKit Go.Proofs.YtbblomnhobodkaaDoorW.PW Go.Proofs.YtbblomnhobodkaaDoor.PTw
def WfX (v : S29) : Prop:=(Lit.int .i64 v.f1).wf = true∧(Lit.int .i64 v.f2).wf = true∧(Lit.int .i64 v.f3).wf = true∧(Lit.int .i64 v.f4).wf = true∧v.f5.length≤maxLen∧∀ x ∈ v.f5,(Lit.int .i64 x).wf = true
theorem nine {α : Type} : ∀ (l : List α),l.length = 9→∃ a b c d e f g h i,l = [a,b,c,d,e,f,g,h,i]
 | [a,b,c,d,e,f,g,h,i],_=>⟨a,b,c,d,e,f,g,h,i,rfl⟩
section
variable {H : Type} {enc : TypeId × Value→H} {W : World}
theorem some_at {α β : Type} {ys : List β} {j : Nat} {o : Option β} (h : o = ys[j]?) (hj : j < ys.length) : ∃ y,o = some y:=⟨_,h.trans (List.getElem?_eq_getElem hj)⟩
theorem vertex_cells {n : Nat} {c0 c1 c2 c3 c4 c5 : Value} {y : DataW H × List MemPlace} (h : DataW.trod enc Tryd.prog W 0 (fun _=>true) true n 29 [c0,c1,c2,c3,c4,c5] = some y) :
 ∃ v : S29,k29.K W v [c0,c1,c2,c3,c4,c5]∧WfX v:=by
 obtain ⟨ys,n',_,_,_,hyl,hf⟩:=DataW.trod_struct Tryd.underlying29 h
 have e3 : Tryd.prog.cellsOf 3 = 1:=by kernel_rfl
 have e4 : Tryd.prog.cellsOf 4 = 1:=by kernel_rfl
 have eI : Tryd.prog.cellsOf 27 = 1:=by kernel_rfl
 have u0 : DataW.trod enc Tryd.prog W 0 (fun _=>true) true n' 4 [c0] = ys[0]?:=by
  have h_ : DataW.trod enc Tryd.prog W 0 (fun _=>true) true n' 4 (([c0,c1,c2,c3,c4,c5].drop 0).take (Tryd.prog.cellsOf 4)) = ys[0]?:=hf 0 _ rfl
  rw [e4] at h_
  exact h_
 have u1 : DataW.trod enc Tryd.prog W 0 (fun _=>true) true n' 3 [c1] = ys[1]?:=by
  have h_ : DataW.trod enc Tryd.prog W 0 (fun _=>true) true n' 3 (([c0,c1,c2,c3,c4,c5].drop 1).take (Tryd.prog.cellsOf 3)) = ys[1]?:=hf 1 _ rfl
  rw [e3] at h_
  exact h_
 have u2 : DataW.trod enc Tryd.prog W 0 (fun _=>true) true n' 3 [c2] = ys[2]?:=by
  have h_ : DataW.trod enc Tryd.prog W 0 (fun _=>true) true n' 3 (([c0,c1,c2,c3,c4,c5].drop 2).take (Tryd.prog.cellsOf 3)) = ys[2]?:=hf 2 _ rfl
  rw [e3] at h_
  exact h_
 have u3 : DataW.trod enc Tryd.prog W 0 (fun _=>true) true n' 3 [c3] = ys[3]?:=by
  have h_ : DataW.trod enc Tryd.prog W 0 (fun _=>true) true n' 3 (([c0,c1,c2,c3,c4,c5].drop 3).take (Tryd.prog.cellsOf 3)) = ys[3]?:=hf 3 _ rfl
  rw [e3] at h_
  exact h_
 have u4 : DataW.trod enc Tryd.prog W 0 (fun _=>true) true n' 3 [c4] = ys[4]?:=by
  have h_ : DataW.trod enc Tryd.prog W 0 (fun _=>true) true n' 3 (([c0,c1,c2,c3,c4,c5].drop 4).take (Tryd.prog.cellsOf 3)) = ys[4]?:=hf 4 _ rfl
  rw [e3] at h_
  exact h_
 have u5 : DataW.trod enc Tryd.prog W 0 (fun _=>true) true n' 27 [c5] = ys[5]?:=by
  have h_ : DataW.trod enc Tryd.prog W 0 (fun _=>true) true n' 27 (([c0,c1,c2,c3,c4,c5].drop 5).take (Tryd.prog.cellsOf 27)) = ys[5]?:=hf 5 _ rfl
  rw [eI] at h_
  exact h_
 have hy : ys.length = 6:=hyl
 obtain ⟨y0,t0⟩:=some_at (α:=Nat) u0 (by omega)
 obtain ⟨y1,t1⟩:=some_at (α:=Nat) u1 (by omega)
 obtain ⟨y2,t2⟩:=some_at (α:=Nat) u2 (by omega)
 obtain ⟨y3,t3⟩:=some_at (α:=Nat) u3 (by omega)
 obtain ⟨y4,t4⟩:=some_at (α:=Nat) u4 (by omega)
 obtain ⟨y5,t5⟩:=some_at (α:=Nat) u5 (by omega)
 obtain ⟨b,hb,_⟩:=DataW.trod_bool Tryd.underlying4 t0
 obtain ⟨n1,h1,_,w1⟩:=DataW.trod_int Tryd.underlying3 t1
 obtain ⟨n2,h2,_,w2⟩:=DataW.trod_int Tryd.underlying3 t2
 obtain ⟨n3,h3,_,w3⟩:=DataW.trod_int Tryd.underlying3 t3
 obtain ⟨n4,h4,_,w4⟩:=DataW.trod_int Tryd.underlying3 t4
 obtain ⟨A5,k5,l5,rfl,hle,hc5,hm5,hw5⟩:=inner_ints t5
 simp at hb h1 h2 h3 h4
 subst hb h1 h2 h3 h4
 exact ⟨⟨b,n1,n2,n3,n4,l5⟩,k29_mk W ⟨b,n1,n2,n3,n4,l5⟩ hle hc5,w1,w2,w3,w4,hm5,hw5⟩
theorem op_cells {n : Nat} {cs : List Value} {y : DataW H × List MemPlace} (hl : cs.length = 9) (h : DataW.trod enc Tryd.prog W 0 (fun _=>true) true n 32 cs = some y) :
 ∃ o : S32,k32.K W o cs∧WfOp o:=by
 obtain ⟨c0,c1,c2,c3,c4,c5,c6,c7,c8,rfl⟩:=nine cs hl
 obtain ⟨ys,n',_,_,_,hyl,hf⟩:=DataW.trod_struct Tryd.underlying32 h
 have e3 : Tryd.prog.cellsOf 3 = 1:=by kernel_rfl
 have eV : Tryd.prog.cellsOf 29 = 6:=by kernel_rfl
 have u0 : DataW.trod enc Tryd.prog W 0 (fun _=>true) true n' 3 [c0] = ys[0]?:=by
  have h_ : DataW.trod enc Tryd.prog W 0 (fun _=>true) true n' 3 (([c0,c1,c2,c3,c4,c5,c6,c7,c8].drop 0).take (Tryd.prog.cellsOf 3)) = ys[0]?:=hf 0 _ rfl
  rw [e3] at h_
  exact h_
 have u1 : DataW.trod enc Tryd.prog W 0 (fun _=>true) true n' 3 [c1] = ys[1]?:=by
  have h_ : DataW.trod enc Tryd.prog W 0 (fun _=>true) true n' 3 (([c0,c1,c2,c3,c4,c5,c6,c7,c8].drop 1).take (Tryd.prog.cellsOf 3)) = ys[1]?:=hf 1 _ rfl
  rw [e3] at h_
  exact h_
 have u2 : DataW.trod enc Tryd.prog W 0 (fun _=>true) true n' 29 [c2,c3,c4,c5,c6,c7] = ys[2]?:=by
  have h_ : DataW.trod enc Tryd.prog W 0 (fun _=>true) true n' 29 (([c0,c1,c2,c3,c4,c5,c6,c7,c8].drop 2).take (Tryd.prog.cellsOf 29)) = ys[2]?:=hf 2 _ rfl
  rw [eV] at h_
  exact h_
 have u3 : DataW.trod enc Tryd.prog W 0 (fun _=>true) true n' 3 [c8] = ys[3]?:=by
  have h_ : DataW.trod enc Tryd.prog W 0 (fun _=>true) true n' 3 (([c0,c1,c2,c3,c4,c5,c6,c7,c8].drop 8).take (Tryd.prog.cellsOf 3)) = ys[3]?:=hf 3 _ rfl
  rw [e3] at h_
  exact h_
 have hy : ys.length = 4:=hyl
 obtain ⟨y0,t0⟩:=some_at (α:=Nat) u0 (by omega)
 obtain ⟨y1,t1⟩:=some_at (α:=Nat) u1 (by omega)
 obtain ⟨y2,t2⟩:=some_at (α:=Nat) u2 (by omega)
 obtain ⟨y3,t3⟩:=some_at (α:=Nat) u3 (by omega)
 obtain ⟨n0,h0,_,w0⟩:=DataW.trod_int Tryd.underlying3 t0
 obtain ⟨n1,h1,_,w1⟩:=DataW.trod_int Tryd.underlying3 t1
 obtain ⟨v,hK,hv⟩:=vertex_cells t2
 obtain ⟨n8,h8,_,w8⟩:=DataW.trod_int Tryd.underlying3 t3
 simp at h0 h1 h8
 subst h0 h1 h8
 refine ⟨⟨n0,n1,v,n8⟩,⟨[.int .i64 n0],[.int .i64 n1,c2,c3,c4,c5,c6,c7,.int .i64 n8],rfl,rfl,⟨[.int .i64 n1],[c2,c3,c4,c5,c6,c7,.int .i64 n8],rfl,rfl,⟨[c2,c3,c4,c5,c6,c7],[.int .i64 n8],rfl,hK,rfl⟩⟩⟩,⟨w0,w1,hv.1,hv.2.1,hv.2.2.1,hv.2.2.2.1,w8,hv.2.2.2.2⟩⟩
theorem open_ops {fuel : Nat} {A : Option Addr} {len cap : Nat} {x : DataW H × List MemPlace} (h : DataW.trod enc Tryd.prog W 0 (fun _=>true) true fuel 30 (Value.cells (.slice A len cap)).toList = some x) :
 ∃ z : List S32,len = z.length∧Kd.C k32 W A z.length z∧(∀ o ∈ z,WfOp o)∧z.length≤cap:=by
 have eO : Tryd.prog.cellsOf 32 = 9:=by kernel_rfl
 rcases open_slice (show Tryd.prog.underlying 30 = some (.slice 32) by kernel_rfl) h with ⟨hcs,_⟩ | ⟨a,l,c,m,n,D,Pl,hcs,_,hl,hm,hmm,_,hi⟩
 · simp [Value.cells] at hcs
   obtain ⟨rfl,rfl,rfl⟩:=hcs
   exact ⟨[],rfl,Kd.C_nil _ _,(fun o ho=>by cases ho),by simp⟩
 · simp [Value.cells] at hcs
   obtain ⟨rfl,rfl,rfl⟩:=hcs
   simp only [if_true] at hmm
   subst hmm
   have each : ∀ i,i < len→∃ (o : S32) (cs : List Value),cs.length = 9∧k32.K W o cs∧(∀ j u,cs[j]? = some u→W.cell? (a.add (i * 9 + j)) = some u)∧WfOp o:=by
    intro i hil
    obtain ⟨cs',hc,ht'⟩:=hi i (by omega)
    rw [eO] at hc
    obtain ⟨_,hcl,hat⟩:=World.cells?_some hc
    obtain ⟨o,hK,hw⟩:=op_cells hcl ht'
    refine ⟨o,cs',hcl,hK,fun j u hu=>?_,hw⟩
    have hj : j < 9:=by
     rcases Nat.lt_or_ge j 9 with hh | hh
     · exact hh
     · rw [List.getElem?_eq_none (by omega)] at hu;cases hu
    rw [← Go.Deep.add_add,hat j (by omega),hu]
   let f : Nat→S32:=fun i=>if h : i < len then (each i h).choose else z32
   have hf : ∀ i (h : i < len),f i = (each i h).choose:=fun i h=>by simp only [f,h,dif_pos]
   have hmax : len≤9223372036854775807:=by unfold maxLen at hm;omega
   refine ⟨(List.range len).map f,by simp,⟨by simp,by simpa using hmax,fun hn=>⟨a,rfl,fun j p hj=>?_⟩⟩,fun v hv=>?_,by simpa using hl⟩
   · rw [List.getElem?_map] at hj
     have hjl : j < len:=by
      rcases Nat.lt_or_ge j len with h | h
      · exact h
      · rw [List.getElem?_eq_none (by simpa using h)] at hj;cases hj
     rw [List.getElem?_range hjl,Option.map_some] at hj
     cases hj
     rw [hf j hjl]
     obtain ⟨cs,q1,q2,q3,_⟩:=(each j hjl).choose_spec
     exact ⟨cs,q1,q2,fun i u hu=>q3 i u hu⟩
   · rw [List.mem_map] at hv
     obtain ⟨j,hj,rfl⟩:=hv
     have hjl : j < len:=List.mem_range.1 hj
     rw [hf j hjl]
     obtain ⟨cs,_,_,_,q⟩:=(each j hjl).choose_spec
     exact q
end
end Go.Proofs.YtbblomnhobodkaaDoor
