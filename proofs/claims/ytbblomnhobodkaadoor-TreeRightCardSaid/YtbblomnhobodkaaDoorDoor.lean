/- What this claim reaches of longer texts of this session. -/
import Derived.Test.YtbblomnhobodkaaDoorPureTreeChk
import Derived.Test.YtbblomnhobodkaaDoorPTwx17
import Derived.Test.YtbblomnhobodkaaDoorPTwx24
import Derived.Test.YtbblomnhobodkaaDoorPTwx8
import Derived.Test.YtbblomnhobodkaaDoorPTwx39
import Derived.Test.YtbblomnhobodkaaDoorPTwx40
import Derived.Test.YtbblomnhobodkaaDoorRows
import Derived.ProofKit
import Derived.LaidMore
import Derived.OpenShut
import Derived.Stop.Joined
import Derived.Lib.TrailingZeros
set_option linter.unusedVariables false
set_option linter.unusedSimpArgs false
namespace Go.Proofs.YtbblomnhobodkaaDoor.Pure
open Go.RowKit Go.Proofs.YtbblomnhobodkaaDoor Go.Proofs.YtbblomnhobodkaaDoor.PTw Go.Proofs.YtbblomnhobodkaaDoorW.PW
theorem rd_nth {l : List Int} {j : Nat} (h : j < l.length) : rd l (j : Int) = l[j]:=by simp [rd,List.getD_eq_getElem?_getD,List.getElem?_eq_getElem h]
theorem with_done (l : List Int) (i : Int) (hl : l.length≤1000) : ∀ (d j : Nat) (acc : List Int),d + j = l.length→acc.length≤j + 1→Evr (fun k=>r4with.l0 k l i acc true (j : Int)) (acc ++ l.drop j):=by
 intro d
 induction d with
 | zero=>
  intro j acc hd _;refine .succ (f:=fun _=>some acc) (fun k=>by rw [r4with.l0,if_neg (by omega),if_pos rfl]) (.const fun _=>?_);rw [List.drop_eq_nil_of_le (by omega),List.append_nil]
 | succ d ih=>
  intro j acc hd ha
  have hj : j < l.length:=by omega
  rw [List.drop_eq_getElem_cons hj,show acc ++ l[j] :: l.drop (j + 1) = acc ++ [l[j]] ++ l.drop (j + 1) by simp];refine .succ (fun k=>?_) (ih (j + 1) (acc ++ [l[j]]) (by omega) (by simp;omega));rw [r4with.l0,if_pos (by omega),if_pos rfl,if_pos (by omega),if_pos (by omega),rd_nth hj,wrap_id (by omega),show (j : Int) + 1 = ((j + 1 : Nat) : Int) by omega]
theorem with_open (l : List Int) (i : Int) (hl : l.length≤1000) (hp : l.Pairwise (· < ·)) (hi : i ∉ l) : ∀ (d j : Nat) (acc : List Int),d + j = l.length→acc.length≤j→Evr (fun k=>r4with.l0 k l i acc false (j : Int)) (acc ++ insN (l.drop j) i):=by
 intro d
 induction d with
 | zero=>
  intro j acc hd ha;refine .succ (f:=fun _=>some (acc ++ [i])) (fun k=>by rw [r4with.l0,if_neg (by omega),if_neg (by decide),if_pos (by omega)]) (.const fun _=>?_);rw [List.drop_eq_nil_of_le (by omega)]
  rfl
 | succ d ih=>
  intro j acc hd ha
  have hj : j < l.length:=by omega
  have hne : l[j]≠i:=fun e=>hi (by rw [← e];exact List.getElem_mem hj)
  have hp2 : (l.drop j).Pairwise (· < ·):=hp.sublist (List.drop_sublist _ _);rw [List.drop_eq_getElem_cons hj] at hp2 ⊢
  by_cases c : l[j] > i
  · rw [insN_ge hp2 (by omega),show acc ++ i :: l[j] :: l.drop (j + 1) = acc ++ [i] ++ [l[j]] ++ l.drop (j + 1) by simp]
    refine .succ (fun k=>?_) (with_done l i hl d (j + 1) (acc ++ [i] ++ [l[j]]) (by omega) (by simp;omega));rw [r4with.l0,if_pos (by omega),if_neg (by decide),if_pos (by omega),rd_nth hj,if_pos c,if_pos (by omega),Option.bind_some,if_pos (by simp;omega),wrap_id (by omega),show (j : Int) + 1 = ((j + 1 : Nat) : Int) by omega]
  · rw [insN_lt (by omega),show acc ++ l[j] :: insN (l.drop (j + 1)) i = acc ++ [l[j]] ++ insN (l.drop (j + 1)) i by simp]
    refine .succ (fun k=>?_) (ih (j + 1) (acc ++ [l[j]]) (by omega) (by simp;omega));rw [r4with.l0,if_pos (by omega),if_neg (by decide),if_pos (by omega),rd_nth hj,if_neg c,if_pos (by omega),wrap_id (by omega),show (j : Int) + 1 = ((j + 1 : Nat) : Int) by omega]
theorem with_ev {l : List Int} {i : Int} (hl : l.length≤1000) (hp : l.Pairwise (· < ·)) (hi : i ∉ l) : Evr (fun k=>r4with.f k l i) (insN l i):=by
 have:=with_open l i hl hp hi l.length 0 [] (by omega) (by simp)
 rw [List.drop_zero,List.nil_append] at this;exact this
theorem radd_l2 {m i : Nat} (hm : m≤5) (hi : i < 2 ^ m) : ∀ (d j : Nat) (g : Nat→S29),2 * d + j = 2 * 2 ^ m - 1→j % 2 = 1→(∀ x,j≤x→(g x).f5.Pairwise (· < ·)∧(g x).f5.length≤1000∧((g x).f0 = true→(i : Int) ∉ (g x).f5))→
 Evr (fun k=>r4Add.l2 k (mkT (2 * 2 ^ m - 1) g) (i : Int) ((2 ^ m : Nat) : Int) (j : Int)) (mkT (2 * 2 ^ m - 1) (fun x=>if j≤x∧x ∈ pathN i m∧(g x).f0 = true then lateIn (g x) i else g x),(i : Int),0):=by
 have hp:=pow_le32 hm;intro d
 induction d with
 | zero=>
  intro j g hd _ _;refine .succ (f:=fun _=>some (mkT (2 * 2 ^ m - 1) g,(i : Int),0)) (fun k=>by rw [r4Add.l2,mkT_len,if_neg (by omega)]) (.const fun _=>?_)
  congr 2
  refine mkT_congr fun x hx=>?_
  rw [if_neg (fun hh=>by omega)]
 | succ d ih=>
  intro j g hd ho hg
  have hjN : j < 2 * 2 ^ m - 1:=by omega
  have hstep : ∀ (g' : Nat→S29),(∀ x,x≠j→g' x = g x)→(g' j = if j ∈ pathN i m∧(g j).f0 = true then lateIn (g j) i else g j)→mkT (2 * 2 ^ m - 1) (fun x=>if j + 2≤x∧x ∈ pathN i m∧(g' x).f0 = true then lateIn (g' x) i else g' x) = mkT (2 * 2 ^ m - 1) (fun x=>if j≤x∧x ∈ pathN i m∧(g x).f0 = true then lateIn (g x) i else g x):=fun g' h1 h2=>mkT_congr fun x _=>by
   by_cases c : x = j
   · subst c
     rw [if_neg (fun hh=>by omega),h2]
     by_cases c2 : x ∈ pathN i m∧(g x).f0 = true
     · rw [if_pos c2,if_pos ⟨Nat.le_refl _,c2⟩]
     · rw [if_neg c2,if_neg (fun hh=>c2 hh.2)]
   · rw [h1 x c]
     by_cases c2 : j≤x∧x ∈ pathN i m∧(g x).f0 = true
     · have:=path_odd hm hi c2.2.1
       rw [if_pos c2,if_pos ⟨by omega,c2.2⟩]
     · rw [if_neg c2,if_neg (fun hh=>c2 ⟨by omega,hh.2⟩)]
  have erd : rd_T29 (mkT (2 * 2 ^ m - 1) g) (j : Int) = g j:=mkT_get hjN
  by_cases c0 : (g j).f0 = true
  · have hu:=und_at hm hi (x:=j) hjN
    have hne : j≠2 * i:=by omega
    rw [decide_eq_false hne,Bool.or_false] at hu
    by_cases c1 : j ∈ pathN i m
    · rw [decide_eq_true c1] at hu
      have hw:=with_ev (l:=(g j).f5) (i:=(i : Int)) (hg j (Nat.le_refl _)).2.1 (hg j (Nat.le_refl _)).1 ((hg j (Nat.le_refl _)).2.2 c0);rw [← hstep (fun x=>if x = j then lateIn (g j) i else g x) (fun x hx=>by rw [if_neg hx]) (by rw [if_pos rfl,if_pos ⟨c1,c0⟩])]
      have hi2:=ih (j + 2) (fun x=>if x = j then lateIn (g j) i else g x) (by omega) (by omega) (fun x hx=>by
       simp only [if_neg (show ¬ x = j by omega)]
       exact hg x (by omega))
      refine .succ (f:=fun k=>(r3Under.f k (2 * (i : Int)) (j : Int) ((2 ^ m : Nat) : Int)).bind fun t=>if t = true then ((r4with.f k (g j).f5 (i : Int)).bind fun t2=>r4Add.l2 k ((mkT (2 * 2 ^ m - 1) g).set j (⟨(g j).f0,(g j).f1,(g j).f2,(g j).f3,(g j).f4,t2⟩ : S29)) (i : Int) ((2 ^ m : Nat) : Int) ((j + 2 : Nat) : Int)) else r4Add.l2 k (mkT (2 * 2 ^ m - 1) g) (i : Int) ((2 ^ m : Nat) : Int) ((j + 2 : Nat) : Int)) (fun k=>?_) (hu.bind ?_)
      · rw [r4Add.l2,mkT_len,if_pos (by omega),if_pos (by omega),erd,if_pos c0,wrap_id (a:=2 * (i : Int)) (by omega),wrap_id (a:=(j : Int) + 2) (by omega),show (j : Int) + 2 = ((j + 2 : Nat) : Int) by omega,Int.toNat_natCast]
      · simp only [if_true]
        refine hw.bind ?_;rw [mkT_set];exact hi2
    · rw [decide_eq_false c1] at hu
      rw [← hstep g (fun _ _=>rfl) (by rw [if_neg (fun hh=>c1 hh.1)])];have hi2:=ih (j + 2) g (by omega) (by omega) (fun x hx=>hg x (by omega));refine .succ (f:=fun k=>(r3Under.f k (2 * (i : Int)) (j : Int) ((2 ^ m : Nat) : Int)).bind fun t=>if t = true then ((r4with.f k (g j).f5 (i : Int)).bind fun t2=>r4Add.l2 k ((mkT (2 * 2 ^ m - 1) g).set j (⟨(g j).f0,(g j).f1,(g j).f2,(g j).f3,(g j).f4,t2⟩ : S29)) (i : Int) ((2 ^ m : Nat) : Int) ((j + 2 : Nat) : Int)) else r4Add.l2 k (mkT (2 * 2 ^ m - 1) g) (i : Int) ((2 ^ m : Nat) : Int) ((j + 2 : Nat) : Int)) (fun k=>?_) (hu.bind ?_)
      · rw [r4Add.l2,mkT_len,if_pos (by omega),if_pos (by omega),erd,if_pos c0,wrap_id (a:=2 * (i : Int)) (by omega),wrap_id (a:=(j : Int) + 2) (by omega),show (j : Int) + 2 = ((j + 2 : Nat) : Int) by omega,Int.toNat_natCast]
      · simpa using hi2
  · rw [← hstep g (fun _ _=>rfl) (by rw [if_neg (fun hh=>c0 hh.2)])]
    refine .succ (fun k=>?_) (ih (j + 2) g (by omega) (by omega) (fun x hx=>hg x (by omega)));rw [r4Add.l2,mkT_len,if_pos (by omega),if_pos (by omega),erd,if_neg c0,wrap_id (a:=(j : Int) + 2) (by omega),show (j : Int) + 2 = ((j + 2 : Nat) : Int) by omega]
theorem radd_l1 {l : List S29} {n : Nat} (hn : 1≤n) (hn2 : n≤32) (f0 : Bool) (f1 f2 f3 f4 : Int) (l5 : List Int) {r : List S29 × Int × Int} (hr : Evr (fun k=>r4Add.j2 k (mkT (4 * n - 1) (VX l)) (n : Int) f0 f1 f2 f3 f4 l5) r) : ∀ (d N : Nat),d + N = 4 * n - 1→l.length≤N→Evr (fun k=>r4Add.l1 k (mkT N (VX l)) (n : Int) f0 f1 f2 f3 f4 l5) r:=by
 intro d
 induction d with
 | zero=>
  intro N hd hN
  have : N = 4 * n - 1:=by omega
  subst this;refine .succ (fun k=>?_) hr;rw [r4Add.l1,mkT_len,wrap_id (a:=4 * (n : Int)) (by omega),wrap_id (by omega),if_neg (by omega)]
 | succ d ih=>
  intro N hd hN;refine .succ (fun k=>?_) (ih (N + 1) (by omega) (by omega));have e : mkT N (VX l) ++ [z29] = mkT (N + 1) (VX l):=mkT_app (M:=1) (fun x hx=>VX_out (by omega));rw [r4Add.l1,mkT_len,wrap_id (a:=4 * (n : Int)) (by omega),wrap_id (by omega),if_pos (by omega),if_pos (by omega),← e]
  rfl
theorem radd_j2 {m i : Nat} (hm : m≤5) (hi : i < 2 ^ m) (g : Nat→S29) (hg : ∀ x,(g x).f5.Pairwise (· < ·)∧(g x).f5.length≤1000∧(i : Int) ∉ (g x).f5) (f0 : Bool) (f1 f2 f3 f4 : Int) (l5 : List Int) :
 Evr (fun k=>r4Add.j2 k (mkT (2 * 2 ^ m - 1) g) (i : Int) f0 f1 f2 f3 f4 l5) (mkT (2 * 2 ^ m - 1) (addG g i m ⟨true,f1,f2,f3,f4,[]⟩),(i : Int),0):=by
 have hp:=pow_le32 hm;have hlo : r4Leaf.f f0 f1 f2 f3 f4 l5 = some (true,f1,f2,f3,f4,[]):=rfl
 obtain ⟨g',hg'⟩ : ∃ g' : Nat→S29,g' = fun x=>if x = 2 * i then (⟨true,f1,f2,f3,f4,[]⟩ : S29) else g x:=⟨_,rfl⟩
 have h:=radd_l2 hm hi (2 ^ m - 1) 1 g' (by omega) (by decide) (fun x _=>by
  rw [hg']
  by_cases c : x = 2 * i
  · simp only [if_pos c]
    exact ⟨List.Pairwise.nil,by simp,fun _=>by simp⟩
  · simp only [if_neg c]
    exact ⟨(hg x).1,(hg x).2.1,fun _=>(hg x).2.2⟩)
 have e : mkT (2 * 2 ^ m - 1) (fun x=>if 1≤x∧x ∈ pathN i m∧(g' x).f0 = true then lateIn (g' x) i else g' x) = mkT (2 * 2 ^ m - 1) (addG g i m ⟨true,f1,f2,f3,f4,[]⟩):=mkT_congr fun x _=>by
  unfold addG;rw [hg']
  by_cases c : x = 2 * i
  · have hn : x ∉ pathN i m:=fun hh=>by have:=path_odd hm hi hh;omega
    rw [if_neg (fun hh=>hn hh.2.1),if_neg (fun hh=>hn hh.1),if_pos c];exact if_pos c
  · simp only [if_neg c]
    by_cases c2 : x ∈ pathN i m∧(g x).f0 = true
    · have:=path_odd hm hi c2.1
      rw [if_pos ⟨by omega,c2⟩,if_pos c2]
    · rw [if_neg (fun hh=>c2 hh.2),if_neg c2]
 rw [e] at h;refine .succ (fun k=>?_) h;rw [r4Add.j2,hlo,Option.bind_some,wrap_id (by omega),if_pos (by omega),mkT_len,if_pos (by omega),Option.bind_some,show (2 * (i : Int)).toNat = 2 * i by omega,mkT_set,← hg',(leaves_at (l:=mkT (2 * 2 ^ m - 1) g') (n:=2 ^ m) (mkT_len _ _) hp.1 (by omega)).1,Option.bind_some]
 rfl
theorem radd_l0 {l : List S29} {n : Nat} (h : l.length = 2 * n - 1) (hn : 1≤n) (hn2 : n≤32) (f0 : Bool) (f1 f2 f3 f4 : Int) (l5 : List Int) {i : Nat} (hi : i≤n) (hfull : ∀ j,j < i→(VX l (2 * j)).f0 = true) {r : List S29 × Int × Int} (hr : Evr (fun k=>r4Add.l0 k l (i : Int) f0 f1 f2 f3 f4 l5) r) : ∀ (d j : Nat),d + j = i→Evr (fun k=>r4Add.l0 k l (j : Int) f0 f1 f2 f3 f4 l5) r:=by
 intro d
 induction d with
 | zero=>
  intro j hd
  have : j = i:=by omega
  subst this;exact hr
 | succ d ih=>
  intro j hd;refine .succ (fun k=>?_) (ih (j + 1) (by omega))
  have e : fullB l n (j : Int) = true:=by
   unfold fullB;rw [decide_eq_true (by omega),decide_eq_true (by omega)];exact hfull j (by omega)
  rw [r4Add.l0,(full_same h hn (by omega) _).1,e,Option.bind_some,if_pos rfl,wrap_id (by omega),show (j : Int) + 1 = ((j + 1 : Nat) : Int) by omega]
theorem radd_ev {l : List S29} {m m' i : Nat} (hR : RT l m) (hi : i≤2 ^ m) (hfull : ∀ j,j < i→(VX l (2 * j)).f0 = true) (hfree : (VX l (2 * i)).f0 = false) (hm' : (i < 2 ^ m∧m' = m)∨(i = 2 ^ m∧m' = m + 1∧m'≤5)) (f0 : Bool) (f1 f2 f3 f4 : Int) (l5 : List Int) :
 Evr (fun k=>r4Add.f k l f0 f1 f2 f3 f4 l5) (addL l i m' ⟨true,f1,f2,f3,f4,[]⟩,(i : Int),0):=by
 have hm:=hR.hm;have h:=hR.len;have hp:=pow_le32 hm
 have h5 : ∀ v ∈ l,v.f5.length < 17592186044416:=fun v hv=>by have:=hR.l5 v hv;omega
 have hgs : ∀ x,(VX l x).f5.Pairwise (· < ·)∧(VX l x).f5.length≤1000∧(i : Int) ∉ (VX l x).f5:=fun x=>⟨hR.rg.up x,by have:=(hR.rg.lates x).2;omega,fun hx=>by
  obtain ⟨j,h1,h2,h3,_⟩:=hR.rg.late x _ hx;rw [show 2 * i = 2 * j by omega,h3] at hfree
  cases hfree⟩
 refine (copy_ev (by omega) h5).bind ?_;refine radd_l0 h hp.1 hp.2 f0 f1 f2 f3 f4 l5 hi hfull ?_ i 0 (by omega)
 have enf : fullB l (2 ^ m) (i : Int) = false:=by
  unfold fullB
  by_cases c : i < 2 ^ m
  · have e : (rd_T29 l (2 * (i : Int))).f0 = false:=hfree
    rw [e,Bool.and_false]
  · rw [decide_eq_false (show ¬ (i : Int) < ((2 ^ m : Nat) : Int) by omega),Bool.and_false,Bool.false_and]
 rcases hm' with ⟨hlt,rfl⟩ | ⟨he,rfl,hm5⟩
 · refine .succ (f:=fun k=>r4Add.j2 k l (i : Int) f0 f1 f2 f3 f4 l5) (fun k=>?_) ?_
   · rw [r4Add.l0,(full_same h hp.1 (by omega) _).1,enf,Option.bind_some,if_neg (by decide),(leaves_at h hp.1 (by omega)).1,Option.bind_some,if_neg (by omega)]
   · have:=radd_j2 hm hlt (VX l) hgs f0 f1 f2 f3 f4 l5
     rw [← h,← mkT_self l] at this;rw [h] at this;exact this
 · have hp2 : 2 ^ (m + 1) = 2 * 2 ^ m:=by rw [Nat.pow_succ];omega
   have h16 : 2 ^ m≤16:=Nat.le_trans (Nat.pow_le_pow_right (by decide) (show m≤4 by omega)) (by decide);refine .succ (f:=fun k=>r4Add.l1 k l (i : Int) f0 f1 f2 f3 f4 l5) (fun k=>?_) ?_
   · rw [r4Add.l0,(full_same h hp.1 (by omega) _).1,enf,Option.bind_some,if_neg (by decide),(leaves_at h hp.1 (by omega)).1,Option.bind_some,if_pos (by omega),if_neg (by omega)]
   · have hj:=radd_j2 hm5 (i:=i) (by omega) (VX l) hgs f0 f1 f2 f3 f4 l5
     rw [show 2 * 2 ^ (m + 1) - 1 = 4 * i - 1 by omega] at hj
     have:=radd_l1 (l:=l) (n:=i) (by omega) (by omega) f0 f1 f2 f3 f4 l5 hj (4 * i - 1 - l.length) l.length (by omega) (Nat.le_refl _)
     rw [← mkT_self l] at this
     have e : mkT (4 * i - 1) (addG (VX l) i (m + 1) ⟨true,f1,f2,f3,f4,[]⟩) = addL l i (m + 1) ⟨true,f1,f2,f3,f4,[]⟩:=by
      unfold addL;rw [show 2 * 2 ^ (m + 1) - 1 = 4 * i - 1 by omega]
      rfl
     rw [e] at this;exact this
theorem radd_none {l : List S29} (h : l.length = 63) (h5 : ∀ v ∈ l,v.f5.length≤1000) (hfull : ∀ j,j < 32→(VX l (2 * j)).f0 = true) (f0 : Bool) (f1 f2 f3 f4 : Int) (l5 : List Int) : Evr (fun k=>r4Add.f k l f0 f1 f2 f3 f4 l5) ([],0,41):=by
 refine (copy_ev (by omega) (fun v hv=>by have:=h5 v hv;omega)).bind ?_;refine radd_l0 (n:=32) (i:=32) (by omega) (by omega) (by omega) f0 f1 f2 f3 f4 l5 (by omega) hfull ?_ 32 0 (by omega);refine .succ (f:=fun _=>some (([] : List S29),0,41)) (fun k=>?_) (.const fun _=>rfl);have enf : fullB l 32 ((32 : Nat) : Int) = false:=rfl;rw [r4Add.l0,(full_same (n:=32) (by omega) (by omega) (by omega) _).1,enf,Option.bind_some,if_neg (by decide),(leaves_at (n:=32) (by omega) (by omega) (by omega)).1,Option.bind_some,if_pos rfl];exact if_pos (by decide)
theorem rmembers_ev {l : List S29} {n : Nat} (h : l.length = 2 * n - 1) (hn : 1≤n) (hn2 : n≤1000) : Evr (fun k=>r4Members.f k l) (ints (fullN l 0 n)):=by
 have hl0 : ∀ (d j : Nat) (acc : List Nat),d + j = n→acc.length≤j→Evr (fun k=>r4Members.l0 k l (ints acc) (j : Int)) (ints (acc ++ fullN l j d)):=by
  intro d
  induction d with
  | zero=>
   intro j acc hd ha;refine .succ (f:=fun _=>some (ints acc)) (fun k=>by rw [r4Members.l0,(leaves_at h hn hn2).1,Option.bind_some,if_neg (by omega)]) (.const fun _=>?_)
   simp [fullN]
  | succ d ih=>
   intro j acc hd ha
   have ef : fullB l n (j : Int) = (VX l (2 * j)).f0:=by
    unfold fullB;rw [decide_eq_true (by omega),decide_eq_true (by omega),Bool.true_and,Bool.true_and]
    rfl
   have e1 : fullN l j (d + 1) = if (VX l (2 * j)).f0 = true then j :: fullN l (j + 1) d else fullN l (j + 1) d:=by
    unfold fullN;rw [List.range'_succ,List.filter_cons]
   by_cases c : (VX l (2 * j)).f0 = true
   · rw [e1,if_pos c,show acc ++ j :: fullN l (j + 1) d = acc ++ [j] ++ fullN l (j + 1) d by simp]
     refine .succ (fun k=>?_) (ih (j + 1) (acc ++ [j]) (by omega) (by simp;omega));rw [r4Members.l0,(leaves_at h hn hn2).1,Option.bind_some,if_pos (by omega),(full_same h hn hn2 _).1,ef,Option.bind_some,if_pos c,ints_len,if_pos (by omega),wrap_id (by omega),show (j : Int) + 1 = ((j + 1 : Nat) : Int) by omega,ints_append]
     rfl
   · rw [e1,if_neg c]
     refine .succ (fun k=>?_) (ih (j + 1) acc (by omega) (by omega));rw [r4Members.l0,(leaves_at h hn hn2).1,Option.bind_some,if_pos (by omega),(full_same h hn hn2 _).1,ef,Option.bind_some,if_neg c,wrap_id (by omega),show (j : Int) + 1 = ((j + 1 : Nat) : Int) by omega]
 have:=hl0 n 0 [] (by omega) (by simp)
 rw [List.nil_append] at this;exact this
theorem tight_both {l : List S29} {n : Nat} (h : l.length = 2 * n - 1) (h1 : 1≤n) (h2 : n≤1000) : ∃ b,Evr (fun k=>tree_tight.f k l) b∧Evr (fun k=>r4Tight.f k l) b:=by
 obtain ⟨b1,t1,t2⟩:=tight_same h h1 (by omega) (n - n / 2) (n / 2) (by omega);refine ⟨b1,?_,?_⟩
 · unfold tree_tight.f
   simp only [(leaves_at h h1 (by omega)).2,Option.bind_some];rw [Int.tdiv_eq_ediv_of_nonneg (by omega),wrap_id (by omega),show (n : Int) / 2 = ((n / 2 : Nat) : Int) by omega];exact t1
 · unfold r4Tight.f
   simp only [(leaves_at h h1 (by omega)).1,Option.bind_some];rw [Int.tdiv_eq_ediv_of_nonneg (by omega),wrap_id (by omega),show (n : Int) / 2 = ((n / 2 : Nat) : Int) by omega];exact t2
theorem rtight_of {l : List S29} {n : Nat} (h : l.length = 2 * n - 1) (h1 : 1≤n) (h2 : n≤1000) {b : Bool} (ht : Evr (fun k=>tree_tight.f k l) b) : Evr (fun k=>r4Tight.f k l) b:=by
 obtain ⟨b',t1,t2⟩:=tight_both h h1 h2;rw [ht.uniq t1];exact t2
theorem rshrink {g : Nat→S29} {m' : Nat} : ∀ (m : Nat),m≤5→Tops g m m'→Evr (fun k=>r4Remove.l0 k (mkT (2 * 2 ^ m - 1) g)) (mkT (2 * 2 ^ m' - 1) g,0):=by
 intro m
 induction m with
 | zero=>
  intro hm ht
  have : m' = 0:=by have:=ht.le;omega
  subst this;exact .succ (f:=fun _=>some (mkT (2 * 2 ^ 0 - 1) g,0)) (fun k=>by rw [r4Remove.l0,mkT_len,if_neg (by decide)]) (.const fun _=>rfl)
 | succ m ih=>
  intro hm ht;have hp:=pow_le32 (m:=m + 1) hm
  have hps : 2 ^ (m + 1) = 2 * 2 ^ m:=by rw [Nat.pow_succ];omega
  have hp0:=Nat.one_le_two_pow (n:=m)
  have hop : ∀ k,r4Remove.l0 (k + 1) (mkT (2 * 2 ^ (m + 1) - 1) g) = (r4Tight.f k (mkT (2 * 2 ^ (m + 1) - 1) g)).bind fun t=>if t = true then some (mkT (2 * 2 ^ (m + 1) - 1) g,0) else r4Remove.l0 k (mkT (2 * 2 ^ m - 1) g):=fun k=>by
   rw [r4Remove.l0,mkT_len,if_pos (by omega),(leaves_at (l:=mkT (2 * 2 ^ (m + 1) - 1) g) (n:=2 ^ (m + 1)) (mkT_len _ _) hp.1 (by omega)).1,Option.bind_some,wrap_id (by omega),if_pos (by omega),if_pos (by omega),mkT_take (by omega),show (((2 ^ (m + 1) : Nat) : Int) - 1).toNat = 2 * 2 ^ m - 1 by omega]
  by_cases c : m' = m + 1
  · subst c
    obtain ⟨i,h1,h2,h3⟩:=ht.yes
    have:=rtight_of (l:=mkT (2 * 2 ^ (m + 1) - 1) g) (n:=2 ^ (m + 1)) (mkT_len _ _) hp.1 (by omega) (tight_yes (l:=mkT (2 * 2 ^ (m + 1) - 1) g) (n:=2 ^ (m + 1)) (mkT_len _ _) hp.1 (by omega) h1 h2 (by rw [mkT_get (by omega)];exact h3))
    exact .succ hop (this.bind (.const fun _=>by rw [if_pos rfl]))
  · have hle : m'≤m:=by have:=ht.le;omega
    have hpm : 2 ^ m'≤2 ^ m:=Nat.pow_le_pow_right (by decide) hle
    have:=rtight_of (l:=mkT (2 * 2 ^ (m + 1) - 1) g) (n:=2 ^ (m + 1)) (mkT_len _ _) hp.1 (by omega) (tight_no (l:=mkT (2 * 2 ^ (m + 1) - 1) g) (n:=2 ^ (m + 1)) (mkT_len _ _) hp.1 (by omega) (fun i h1 h2=>by rw [mkT_get (by omega)];exact ht.no i (by omega) h2))
    have hi:=ih (by omega) ⟨hle,fun i h1 h2=>ht.no i h1 (by omega),ht.yes⟩;exact .succ hop (this.bind (.congr (fun k=>by rw [if_neg (by decide)]) hi))
theorem rremove_ev {l : List S29} {m m' i : Nat} (hm : m≤5) (h : l.length = 2 * 2 ^ m - 1) (hl : LateOk l) (hi : i < 2 ^ m) (hf : (VX l (2 * i)).f0 = true) (hc : (fullN l 0 (2 ^ m)).length≠1) (ht : Tops (cutG l i m) m m') : Evr (fun k=>r4Remove.f k l (i : Int)) (mkT (2 * 2 ^ m' - 1) (cutG l i m),0):=by
 have hp:=pow_le32 hm
 have h5 : ∀ v ∈ l,v.f5.length < 17592186044416:=fun v hv=>by have:=hl.len v hv;omega
 have hfb : r4Full.f l (i : Int) = some true:=by
  rw [(full_same h hp.1 (by omega) _).1,full_at hm h hi,hf]
 have hms:=rmembers_ev h hp.1 (by omega)
 have hne : 1≤(fullN l 0 (2 ^ m)).length:=by
  have : i ∈ fullN l 0 (2 ^ m):=List.mem_filter.2 ⟨List.mem_range'_1.2 ⟨by omega,by omega⟩,hf⟩
  exact List.length_pos_of_mem this
 have hab:=above_ev hm h hi h5
 have e : (mkT (2 * 2 ^ m - 1) (abvG l i m)).set (2 * i) z29 = mkT (2 * 2 ^ m - 1) (cutG l i m):=by
  rw [mkT_set]
  refine mkT_congr fun x _=>?_
  unfold abvG cutG
  by_cases c : x = 2 * i
  · rw [if_pos c,if_pos c,ite_self]
  · rw [if_neg c,if_neg c]
 refine .congr (f:=fun k=>(r4Members.f k l).bind fun ms=>r4Remove.j0 k l (i : Int) (decide ((ms.length : Int) < 2))) (fun k=>?_) (hms.bind ?_)
 · unfold r4Remove.f
   rw [hfb,Option.bind_some,if_pos rfl]
 · rw [ints_len,decide_eq_false (by omega)]
   refine .succ (f:=fun k=>(r4above.f k l (i : Int)).bind fun t=>if 2 * (i : Int) < (t.length : Int) then r4Remove.l0 k (t.set (2 * i) z29) else none) (fun k=>?_) (hab.bind ?_)
   · rw [r4Remove.j0,if_neg (by decide),wrap_id (by omega),show (2 * (i : Int)).toNat = 2 * i by omega]
     simp only [if_pos (show 0≤2 * (i : Int) by omega)]
     rfl
   · rw [mkT_len,e]
     exact .congr (fun k=>by rw [if_pos (by omega)]) (rshrink m hm ht)
theorem rremove_one {l : List S29} {m : Nat} {i : Int} (hm : m≤5) (h : l.length = 2 * 2 ^ m - 1) (hc : fullB l (2 ^ m) i = true→(fullN l 0 (2 ^ m)).length = 1) : Evr (fun k=>r4Remove.f k l i) ([],40):=by
 have hp:=pow_le32 hm;have hms:=rmembers_ev h hp.1 (by omega);have hj : Evr (fun k=>r4Remove.j0 k l i true) ([],40):=.succ (f:=fun _=>some (([] : List S29),40)) (fun k=>by rw [r4Remove.j0,if_pos rfl]) (.const fun _=>rfl)
 by_cases c : fullB l (2 ^ m) i = true
 · refine .congr (f:=fun k=>(r4Members.f k l).bind fun ms=>r4Remove.j0 k l i (decide ((ms.length : Int) < 2))) (fun k=>?_) (hms.bind ?_)
   · unfold r4Remove.f
     rw [(full_same h hp.1 (by omega) _).1,c,Option.bind_some,if_pos rfl]
   · rw [ints_len,hc c]
     exact hj
 · refine .congr (f:=fun k=>r4Remove.j0 k l i true) (fun k=>?_) hj
   unfold r4Remove.f;rw [(full_same h hp.1 (by omega) _).1,Option.bind_some,if_neg c]
end Go.Proofs.YtbblomnhobodkaaDoor.Pure
set_option linter.unusedVariables false
set_option linter.unusedSimpArgs false
namespace Go.Proofs.YtbblomnhobodkaaDoor.Pure
open Go.RowKit Go.Proofs.YtbblomnhobodkaaDoor Go.Proofs.YtbblomnhobodkaaDoor.PTw Go.Proofs.YtbblomnhobodkaaDoorW.PW
theorem RG.lateSm {g : Nat→S29} {m : Nat} (h : RG g m) (x : Nat) : (g x).f5.length≤100∧∀ y ∈ (g x).f5,0≤y∧y≤100:=by
 have:=h.lates x
 exact ⟨by omega,fun y hy=>by have:=this.1 y hy;omega⟩
theorem RT.lateSm {l : List S29} {m : Nat} (h : RT l m) : LateSm l:=⟨fun x=>(h.rg.lateSm x).1,fun x=>(h.rg.lateSm x).2⟩
set_option maxRecDepth 100000 in
theorem copN_fin : ∀ m : Fin 6,∀ i : Fin 32,i.val < 2 ^ m.val→∀ x ∈ copN i.val m.val,x < 2 * 2 ^ m.val - 1:=by decide +kernel
theorem copN_lt {m i x : Nat} (hm : m≤5) (hi : i < 2 ^ m) (h : x ∈ copN i m) : x < 2 * 2 ^ m - 1:=by
 have hp:=pow_le32 hm;exact copN_fin ⟨m,by omega⟩ ⟨i,by omega⟩ hi x h
def filtL (l : List S29) : List Nat→List Nat→List (Nat × Nat)
 | p :: P,c :: C=>if 0 < (resN l (lvN c) c).length then (p,c) :: filtL l P C else filtL l P C
 | _,_=>[]
theorem filtL_sub {l : List S29} : ∀ (P C : List Nat),((filtL l P C).map Prod.fst).Sublist P
 | [],C=>by unfold filtL;simp
 | p :: P,[]=>by unfold filtL;simp
 | p :: P,c :: C=>by
  unfold filtL
  split
  · exact (filtL_sub P C).cons_cons p
  · exact (filtL_sub P C).cons p
theorem tfilt_l0 {l : List S29} {m : Nat} (hR : RT l m) (P C : List Nat) (he : P.length = C.length) (hl : C.length≤1000) (hC : ∀ c ∈ C,c < 2 * 2 ^ m - 1) : ∀ (d j : Nat) (a b : List Nat),d + j = C.length→a.length≤j→b.length≤j→
 Evr (fun k=>tree_Filtered.l0 k l (ints a) (ints b) (ints P) (ints C) ((ints C).length : Int) (j : Int)) (ints (a ++ (filtL l (P.drop j) (C.drop j)).map Prod.fst),ints (b ++ (filtL l (P.drop j) (C.drop j)).map Prod.snd))∧
 Evr (fun k=>r4Filtered.l0 k l (ints a) (ints b) (ints P) (ints C) (j : Int)) (ints (a ++ (filtL l (P.drop j) (C.drop j)).map Prod.fst),ints (b ++ (filtL l (P.drop j) (C.drop j)).map Prod.snd)):=by
 intro d
 induction d with
 | zero=>
  intro j a b hd _ _;rw [List.drop_eq_nil_of_le (by omega),List.drop_eq_nil_of_le (by omega)];refine ⟨.succ (f:=fun _=>some (ints a,ints b)) (fun k=>by rw [tree_Filtered.l0,if_neg (by rw [ints_len];omega)]) (.const fun _=>?_),.succ (f:=fun _=>some (ints a,ints b)) (fun k=>by rw [r4Filtered.l0,ints_len,if_neg (by omega)]) (.const fun _=>?_)⟩
  · simp [filtL]
  · simp [filtL]
 | succ d ih=>
  intro j a b hd ha hb
  have hj : j < C.length:=by omega
  have hjP : j < P.length:=by omega
  have hc:=hC _ (List.getElem_mem hj);have h1:=tres_ev hR.hm hR.len hR.lateSm (lvN C[j]) C[j] rfl (by rw [hR.len];exact hc);have h2:=rres_ev hR.hm hR.len hR.lateSm (x:=C[j]) (by rw [hR.len];exact hc)
  have et : ∀ k,tree_Filtered.l0 (k + 1) l (ints a) (ints b) (ints P) (ints C) ((ints C).length : Int) (j : Int) = (tree_Resolution.f k l (C[j] : Int)).bind fun t=>if (t.length : Int) > 0 then tree_Filtered.l0 k l (ints (a ++ [P[j]])) (ints (b ++ [C[j]])) (ints P) (ints C) ((ints C).length : Int) ((j + 1 : Nat) : Int) else tree_Filtered.l0 k l (ints a) (ints b) (ints P) (ints C) ((ints C).length : Int) ((j + 1 : Nat) : Int):=fun k=>by
   rw [tree_Filtered.l0,ints_len,if_pos (by omega),if_pos (by omega),if_pos (by omega),ints_at hj,ints_at hjP,wrap_id (by omega),show (j : Int) + 1 = ((j + 1 : Nat) : Int) by omega,ints_len,ints_len,ints_len,if_pos (show (j : Int) < (P.length : Int) by omega),if_pos (show a.length < 17592186044416 by omega),if_pos (show b.length < 17592186044416 by omega),ints_append,ints_append]
   rfl
  have er : ∀ k,r4Filtered.l0 (k + 1) l (ints a) (ints b) (ints P) (ints C) (j : Int) = (r4Resolution.f k l (C[j] : Int)).bind fun t=>if (t.length : Int) > 0 then r4Filtered.l0 k l (ints (a ++ [P[j]])) (ints (b ++ [C[j]])) (ints P) (ints C) ((j + 1 : Nat) : Int) else r4Filtered.l0 k l (ints a) (ints b) (ints P) (ints C) ((j + 1 : Nat) : Int):=fun k=>by
   rw [r4Filtered.l0,ints_len,if_pos (by omega),if_pos (by omega),ints_len,if_pos (by omega),ints_at hj,ints_at hjP,wrap_id (by omega),show (j : Int) + 1 = ((j + 1 : Nat) : Int) by omega,ints_len,ints_len,if_pos (show a.length < 17592186044416 by omega),if_pos (show b.length < 17592186044416 by omega),ints_append,ints_append]
   rfl
  rw [List.drop_eq_getElem_cons hj,List.drop_eq_getElem_cons hjP];unfold filtL
  by_cases c : 0 < (resN l (lvN C[j]) C[j]).length
  · rw [if_pos c,List.map_cons,List.map_cons]
    obtain ⟨i1,i2⟩:=ih (j + 1) (a ++ [P[j]]) (b ++ [C[j]]) (by omega) (by simp;omega) (by simp;omega);rw [List.append_assoc,List.append_assoc] at i1 i2;refine ⟨.succ et (h1.bind (.congr (fun k=>by rw [if_pos (by omega)]) i1)),.succ er (h2.bind (.congr (fun k=>by rw [if_pos (by omega)]) i2))⟩
  · rw [if_neg c]
    obtain ⟨i1,i2⟩:=ih (j + 1) a b (by omega) (by omega) (by omega);refine ⟨.succ et (h1.bind (.congr (fun k=>by rw [if_neg (by omega)]) i1)),.succ er (h2.bind (.congr (fun k=>by rw [if_neg (by omega)]) i2))⟩
def fP (l : List S29) (i m : Nat) : List Nat:=(filtL l (pathN i m) (copN i m)).map Prod.fst
def fC (l : List S29) (i m : Nat) : List Nat:=(filtL l (pathN i m) (copN i m)).map Prod.snd
theorem fP_sub (l : List S29) (i m : Nat) : (fP l i m).Sublist (pathN i m):=filtL_sub _ _
theorem fP_len (l : List S29) (i m : Nat) : (fP l i m).length≤m:=by
 have:=(fP_sub l i m).length_le
 simpa [pathN] using this
def filtR (l : List S29) (m : Nat) (i : Int) : List Nat × List Nat:=if 0≤i∧i < ((2 ^ m : Nat) : Int) then (fP l i.toNat m,fC l i.toNat m) else ([],[])
theorem cop_at {m i : Nat} (hm : m≤5) (hi : i < 2 ^ m) : heap_Copath.f (2 * (i : Int)) ((2 ^ m : Nat) : Int) = some (ints (copN i m),0)∧Evr (fun k=>r3Path.f k (2 * (i : Int)) ((2 ^ m : Nat) : Int)) (ints (pathN i m))∧Evr (fun k=>r3Copath.f k (2 * (i : Int)) ((2 ^ m : Nat) : Int)) (ints (copN i m)):=by
 have hp:=pow_le32 hm;obtain ⟨h1,h2,h3⟩:=cop_fin ⟨m,by omega⟩ ⟨i,by omega⟩ hi;exact ⟨h1,.of_mono (K:=100) (fun k a h=>r3Path.mono _ _ k _ h) h2,.of_mono (K:=100) (fun k a h=>r3Copath.mono _ _ k _ h) h3⟩
theorem filt_ev {l : List S29} {m : Nat} (hR : RT l m) (i : Int) : Evr (fun k=>tree_Filtered.f k l i) (ints (filtR l m i).1,ints (filtR l m i).2)∧Evr (fun k=>r4Filtered.f k l i) (ints (filtR l m i).1,ints (filtR l m i).2):=by
 have hm:=hR.hm;have hp:=pow_le32 hm;have h:=hR.len;unfold filtR tree_Filtered.f r4Filtered.f;simp only [(leaves_at h hp.1 (by omega)).1,(leaves_at h hp.1 (by omega)).2,Option.bind_some];have tj : Evr (fun k=>tree_Filtered.j0 k l i [] [] ((2 ^ m : Nat) : Int) true) (ints [],ints []):=.succ (f:=fun _=>some (([] : List Int),([] : List Int))) (fun k=>by rw [tree_Filtered.j0,if_pos rfl]) (.const fun _=>rfl);have rj : Evr (fun k=>r4Filtered.j0 k l i [] [] true) (ints [],ints []):=.succ (f:=fun _=>some (([] : List Int),([] : List Int))) (fun k=>by rw [r4Filtered.j0,if_pos rfl]) (.const fun _=>rfl)
 by_cases c1 : i < 0
 · simp only [if_pos c1,if_neg (show ¬ (0≤i∧i < ((2 ^ m : Nat) : Int)) by omega)]
   exact ⟨tj,rj⟩
 · by_cases c2 : i < ((2 ^ m : Nat) : Int)
   · obtain ⟨n,rfl⟩ : ∃ n : Nat,i = (n : Int):=⟨i.toNat,by omega⟩
     have hn : n < 2 ^ m:=by omega
     simp only [if_neg c1,if_pos (show 0≤(n : Int)∧(n : Int) < ((2 ^ m : Nat) : Int) by omega),Int.toNat_natCast];obtain ⟨hc,hp3,hc3⟩:=cop_at hm hn;have hpa:=path_at hm hn
     have hlen : (pathN n m).length = (copN n m).length:=by simp [pathN,copN]
     obtain ⟨f1,f2⟩:=tfilt_l0 hR (pathN n m) (copN n m) hlen (by simp [copN];omega) (fun c hc=>copN_lt hm hn hc) (copN n m).length 0 [] [] (by omega) (by simp) (by simp);rw [List.drop_zero,List.drop_zero,List.nil_append,List.nil_append] at f1 f2;rw [decide_eq_false (show ¬ (n : Int)≥((2 ^ m : Nat) : Int) by omega)];refine ⟨.succ (f:=fun k=>tree_Filtered.l0 k l [] [] (ints (pathN n m)) (ints (copN n m)) ((ints (copN n m)).length : Int) 0) (fun k=>?_) f1,.succ (f:=fun k=>(r3Path.f k (2 * (n : Int)) ((2 ^ m : Nat) : Int)).bind fun t=>(r3Copath.f k (2 * (n : Int)) ((2 ^ m : Nat) : Int)).bind fun u=>r4Filtered.l0 k l [] [] t u 0) (fun k=>?_) (hp3.bind (hc3.bind f2))⟩
     · rw [tree_Filtered.j0,if_neg (by decide),wrap_id (by omega),hpa,Option.bind_some,hc,Option.bind_some]
     · rw [r4Filtered.j0,if_neg (by decide),(leaves_at h hp.1 (by omega)).1,Option.bind_some,wrap_id (by omega)]
   · simp only [if_neg c1,if_neg (show ¬ (0≤i∧i < ((2 ^ m : Nat) : Int)) by omega),decide_eq_true (show i≥((2 ^ m : Nat) : Int) by omega)]
     exact ⟨tj,rj⟩
theorem keys_ev {l : List S29} {m : Nat} (hR : RT l m) (o : Int) (i : Int) (b : Bool) (key c s h : Int) (late : List Int) (more : Int) : Evr (fun k=>w4keys.f k l o i b key c s h late more) (List.replicate ((((filtR l m i).1.length : Nat) : Int) + (if -40≤more∧more≤40 then more else 0)).toNat key):=by
 have hm:=hR.hm
 have hlen : (filtR l m i).1.length≤5:=by
  unfold filtR
  split
  · have:=fP_len l i.toNat m;show (fP l i.toNat m).length≤5;omega
  · simp
 have hl0 : ∀ (q : Int),q≤1000→∀ (d j : Nat),(d : Int) + j = q∨(d = 0∧q < (j : Int))→Evr (fun k=>w4keys.l0 k q (List.replicate j key) (j : Int) o i b key c s h late more) (List.replicate (j + d) key):=by
  intro q hq d
  induction d with
  | zero=>
   intro j hd;exact .succ (f:=fun _=>some (List.replicate j key)) (fun k=>by rw [w4keys.l0,if_neg (by omega)]) (.const fun _=>rfl)
  | succ d ih=>
   intro j hd
   have:=ih (j + 1) (by omega)
   rw [show j + (d + 1) = j + 1 + d by omega];refine .succ (fun k=>?_) this;rw [w4keys.l0,if_pos (by omega),List.length_replicate,if_pos (by omega),wrap_id (by omega),← List.replicate_succ',show (j : Int) + 1 = ((j + 1 : Nat) : Int) by omega]
 have hj1 : ∀ (q : Int),q≤1000→Evr (fun k=>w4keys.j1 k q o i b key c s h late more) (List.replicate q.toNat key):=fun q hq=>by
  have:=hl0 q hq q.toNat 0 (by omega)
  rw [Nat.zero_add] at this;exact .succ (f:=fun k=>w4keys.l0 k q [] 0 o i b key c s h late more) (fun k=>by rw [w4keys.j1]) this
 refine .congr (f:=fun k=>(r4Filtered.f k l i).bind fun p=>w4keys.j0 k (p.1.length : Int) (decide (-40≤more∧more≤40)) o i b key c s h late more) (fun k=>?_) ((filt_ev hR i).2.bind ?_)
 · unfold w4keys.f
   congr 1
   funext p
   by_cases c1 : more≥-40
   · rw [if_pos c1]
     congr 1
     by_cases c2 : more≤40
     · rw [decide_eq_true c2,decide_eq_true ⟨c1,c2⟩]
     · rw [decide_eq_false c2,decide_eq_false (fun hh=>c2 hh.2)]
   · rw [if_neg c1,decide_eq_false (fun hh=>c1 hh.1)]
 · rw [ints_len]
   by_cases c1 : -40≤more∧more≤40
   · rw [decide_eq_true c1,if_pos c1]
     exact .succ (fun k=>by rw [w4keys.j0,if_pos rfl,wrap_id (by omega)]) (hj1 _ (by omega))
   · rw [decide_eq_false c1,if_neg c1,Int.add_zero]
     exact .succ (fun k=>by rw [w4keys.j0,if_neg (by decide)]) (hj1 _ (by omega))
def AllKey (F : Nat→S29) : Prop:=∀ x,∃ k h : Int,F x = ⟨true,k,0,0,h,[]⟩
theorem mer_same : ∀ k p ks hs x j,r4Merge.l0 k p ks hs x j = tree_Merge.l0 k p ks hs x j:=by
 intro k
 induction k with
 | zero=>intros;rfl
 | succ k ih=>
  intro p ks hs x j;rw [r4Merge.l0,tree_Merge.l0,ih]
theorem mer_l0 (P : List Nat) (N : Nat) (hP : ∀ x ∈ P,x < N) (hN : P.Nodup) (ks hs : List Int) (hk : ks.length = P.length) (hh : hs.length = P.length) (hl : P.length≤1000) : ∀ (d j : Nat),d + j = P.length→∃ F : Nat→S29,AllKey F∧∀ g,Evr (fun k=>tree_Merge.l0 k (ints P) ks hs (mkT N g) (j : Int)) (mkT N (fun x=>if x ∈ P.drop j then F x else g x),0):=by
 intro d
 induction d with
 | zero=>
  intro j hd;refine ⟨fun _=>⟨true,0,0,0,0,[]⟩,fun _=>⟨0,0,rfl⟩,fun g=>?_⟩;refine .succ (f:=fun _=>some (mkT N g,0)) (fun k=>by rw [tree_Merge.l0,ints_len,if_neg (by omega)]) (.const fun _=>?_);rw [List.drop_eq_nil_of_le (by omega)];simp only [List.not_mem_nil,if_false]
 | succ d ih=>
  intro j hd
  have hj : j < P.length:=by omega
  have hx:=hP _ (List.getElem_mem hj)
  have mem:=fun x=>mem_cut hj (x:=x)
  have hnot : P[j] ∉ P.drop (j + 1):=by
   have:=hN
   rw [← List.take_append_drop j P,List.drop_eq_getElem_cons hj] at this
   have:=(List.nodup_append.1 this).2.1
   exact (List.nodup_cons.1 this).1
  obtain ⟨F,hF,he⟩:=ih (j + 1) (by omega);refine ⟨fun x=>if x = P[j] then ⟨true,rd ks (j : Int),0,0,rd hs (j : Int),[]⟩ else F x,fun x=>?_,fun g=>?_⟩
  · by_cases c : x = P[j]
    · exact ⟨_,_,if_pos c⟩
    · obtain ⟨a,b,h⟩:=hF x
      exact ⟨a,b,(if_neg c).trans h⟩
  · have h1:=he (fun x=>if x = P[j] then ⟨true,rd ks (j : Int),0,0,rd hs (j : Int),[]⟩ else g x)
    have e : mkT N (fun x=>if x ∈ P.drop (j + 1) then F x else if x = P[j] then (⟨true,rd ks (j : Int),0,0,rd hs (j : Int),[]⟩ : S29) else g x) = mkT N (fun x=>if x ∈ P.drop j then (if x = P[j] then (⟨true,rd ks (j : Int),0,0,rd hs (j : Int),[]⟩ : S29) else F x) else g x):=mkT_congr fun x _=>by
     by_cases c1 : x = P[j]
     · rw [if_neg (by rw [c1];exact hnot),if_pos c1,if_pos ((mem x).2 (.inl c1)),if_pos c1]
     · by_cases c2 : x ∈ P.drop (j + 1)
       · rw [if_pos c2,if_pos ((mem x).2 (.inr c2)),if_neg c1]
       · rw [if_neg c2,if_neg c1,if_neg (fun hh=>((mem x).1 hh).elim c1 c2)]
    rw [e] at h1;refine .succ (fun k=>?_) h1;rw [tree_Merge.l0,ints_len,if_pos (by omega),if_pos (by omega),if_pos (by omega),if_pos (by omega),ints_at hj,if_pos (by omega),mkT_len,if_pos (by omega),Int.toNat_natCast,mkT_set,wrap_id (by omega),show (j : Int) + 1 = ((j + 1 : Nat) : Int) by omega]
theorem merge_ev {l : List S29} {m i : Nat} (hR : RT l m) (hi : i < 2 ^ m) (hf : (VX l (2 * i)).f0 = true) (f0 : Bool) (f1 f2 f3 f4 : Int) (l5 ks hs : List Int) (hk : ks.length = (fP l i m).length) (hh : hs.length = (fP l i m).length) : ∃ F : Nat→S29,AllKey F∧
 Evr (fun k=>tree_Merge.f k l (i : Int) f0 f1 f2 f3 f4 l5 ks hs) (mkT (2 * 2 ^ m - 1) (merG (VX l) i m ⟨true,f1,f2,f3,f4,[]⟩ (fun x=>if x ∈ fP l i m then F x else z29)),0)∧
 Evr (fun k=>r4Merge.f k l (i : Int) f0 f1 f2 f3 f4 l5 ks hs) (mkT (2 * 2 ^ m - 1) (merG (VX l) i m ⟨true,f1,f2,f3,f4,[]⟩ (fun x=>if x ∈ fP l i m then F x else z29)),0):=by
 have hm:=hR.hm;have h:=hR.len;have hp:=pow_le32 hm;have hok:=pathN_ok hm hi
 have h5 : ∀ v ∈ l,v.f5.length < 17592186044416:=fun v hv=>by have:=hR.l5 v hv;omega
 have hfl:=filt_ev hR (i : Int)
 have hfr : filtR l m (i : Int) = (fP l i m,fC l i m):=by unfold filtR;rw [if_pos (by omega),Int.toNat_natCast]
 rw [hfr] at hfl
 have hPsub : ∀ x ∈ fP l i m,x ∈ pathN i m:=fun x hx=>(fP_sub l i m).subset hx
 obtain ⟨F,hF,he⟩:=mer_l0 (fP l i m) (2 * 2 ^ m - 1) (fun x hx=>(hok.2 x (hPsub x hx)).2) ((fP_sub l i m).nodup hok.1) ks hs hk hh (by have:=fP_len l i m;omega) (fP l i m).length 0 (by omega);refine ⟨F,hF,?_⟩;have h1:=he (fun x=>if x ∈ pathN i m then z29 else if x = 2 * i then (⟨true,f1,f2,f3,f4,[]⟩ : S29) else VX l x);rw [List.drop_zero] at h1
 have e : mkT (2 * 2 ^ m - 1) (fun x=>if x ∈ fP l i m then F x else if x ∈ pathN i m then z29 else if x = 2 * i then (⟨true,f1,f2,f3,f4,[]⟩ : S29) else VX l x) = mkT (2 * 2 ^ m - 1) (merG (VX l) i m ⟨true,f1,f2,f3,f4,[]⟩ (fun x=>if x ∈ fP l i m then F x else z29)):=mkT_congr fun x _=>by
  unfold merG
  by_cases c1 : x ∈ fP l i m
  · rw [if_pos c1,if_pos (hPsub x c1)]
    exact (if_pos c1).symm
  · rw [if_neg c1]
    by_cases c2 : x ∈ pathN i m
    · rw [if_pos c2,if_pos c2]
      exact (if_neg c1).symm
    · rw [if_neg c2,if_neg c2]
 rw [e] at h1
 constructor
 · have hcl:=clean_ev hm hi (fun x=>if x = 2 * i then (⟨true,f1,f2,f3,f4,[]⟩ : S29) else VX l x)
   have e2 : l.set (2 * i) (⟨true,f1,f2,f3,f4,[]⟩ : S29) = mkT (2 * 2 ^ m - 1) (fun x=>if x = 2 * i then (⟨true,f1,f2,f3,f4,[]⟩ : S29) else VX l x):=by
    conv=>lhs;rw [mkT_self l]
    rw [mkT_set,h]
   rw [← e2] at hcl;refine .congr (fun k=>?_) (hfl.1.bind (f:=fun k p=>if ks.length = p.1.length∧hs.length = p.1.length then ((tree_copied.f k l).bind fun t2=>if 0≤(wrap64 (2 * (i : Int))) then (if (wrap64 (2 * (i : Int))) < (t2.length : Int) then ((tree_clean.f k (t2.set ((wrap64 (2 * (i : Int))) : Int).toNat (⟨true,f1,f2,f3,f4,([] : List Int)⟩ : S29)) (i : Int)).bind fun t3=>tree_Merge.l0 k p.1 ks hs t3 0) else none) else none) else some (([] : List S29),30)) (.congr (fun k=>?_) (hcl.bind (f:=fun k t3=>tree_Merge.l0 k (ints (fP l i m)) ks hs t3 0) h1)))
   · unfold tree_Merge.f
     rw [(full_same h hp.1 (by omega) _).2,full_at hm h hi,hf,Option.bind_some,if_pos rfl]
   · rw [ints_len,if_pos (And.intro hk hh),copied_at k (by omega) h5,Option.bind_some,wrap_id (by omega),if_pos (by omega),if_pos (by omega),show (2 * (i : Int)).toNat = 2 * i by omega]
 · have hab:=above_ev hm h hi h5
   have e2 : (mkT (2 * 2 ^ m - 1) (abvG l i m)).set (2 * i) (⟨true,f1,f2,f3,f4,[]⟩ : S29) = mkT (2 * 2 ^ m - 1) (fun x=>if x ∈ pathN i m then z29 else if x = 2 * i then (⟨true,f1,f2,f3,f4,[]⟩ : S29) else VX l x):=by
    rw [mkT_set]
    refine mkT_congr fun x _=>?_
    unfold abvG
    by_cases c : x = 2 * i
    · have hn : x ∉ pathN i m:=fun hh=>by have:=path_odd hm hi hh;omega
      rw [if_pos c,if_neg hn,if_pos c]
    · rw [if_neg c,if_neg c]
   refine .congr (fun k=>?_) (hfl.2.bind (f:=fun k p=>if ks.length = p.1.length∧hs.length = p.1.length then ((r4above.f k l (i : Int)).bind fun t2=>if 0≤(wrap64 (2 * (i : Int))) then (if (wrap64 (2 * (i : Int))) < (t2.length : Int) then r4Merge.l0 k p.1 ks hs (t2.set ((wrap64 (2 * (i : Int))) : Int).toNat (⟨true,f1,f2,f3,f4,([] : List Int)⟩ : S29)) 0 else none) else none) else some (([] : List S29),30)) (.congr (fun k=>?_) (hab.bind (f:=fun k t2=>if 0≤(wrap64 (2 * (i : Int))) then (if (wrap64 (2 * (i : Int))) < (t2.length : Int) then r4Merge.l0 k (ints (fP l i m)) ks hs (t2.set ((wrap64 (2 * (i : Int))) : Int).toNat (⟨true,f1,f2,f3,f4,([] : List Int)⟩ : S29)) 0 else none) else none) (.congr (fun k=>?_) h1))))
   · unfold r4Merge.f
     rw [(full_same h hp.1 (by omega) _).1,full_at hm h hi,hf,Option.bind_some,if_pos rfl]
   · rw [ints_len,if_pos (And.intro hk hh)]
   · rw [wrap_id (by omega),if_pos (by omega),mkT_len,if_pos (by omega),show (2 * (i : Int)).toNat = 2 * i by omega,e2,mer_same]
     rfl
theorem merge_bad {l : List S29} {m i : Nat} (hR : RT l m) (hi : i < 2 ^ m) (hf : (VX l (2 * i)).f0 = true) (f0 : Bool) (f1 f2 f3 f4 : Int) (l5 ks hs : List Int) (hk : ¬ (ks.length = (fP l i m).length∧hs.length = (fP l i m).length)) :
 Evr (fun k=>tree_Merge.f k l (i : Int) f0 f1 f2 f3 f4 l5 ks hs) ([],30)∧Evr (fun k=>r4Merge.f k l (i : Int) f0 f1 f2 f3 f4 l5 ks hs) ([],30):=by
 have hm:=hR.hm;have h:=hR.len;have hp:=pow_le32 hm;have hfl:=filt_ev hR (i : Int)
 have hfr : filtR l m (i : Int) = (fP l i m,fC l i m):=by unfold filtR;rw [if_pos (by omega),Int.toNat_natCast]
 rw [hfr] at hfl
 constructor
 · refine .congr (fun k=>?_) (hfl.1.bind (f:=fun k p=>if ks.length = p.1.length∧hs.length = p.1.length then ((tree_copied.f k l).bind fun t2=>if 0≤(wrap64 (2 * (i : Int))) then (if (wrap64 (2 * (i : Int))) < (t2.length : Int) then ((tree_clean.f k (t2.set ((wrap64 (2 * (i : Int))) : Int).toNat (⟨true,f1,f2,f3,f4,([] : List Int)⟩ : S29)) (i : Int)).bind fun t3=>tree_Merge.l0 k p.1 ks hs t3 0) else none) else none) else some (([] : List S29),30)) (r:=([],30)) (.const fun k=>by rw [ints_len];simp only [if_neg hk]))
   unfold tree_Merge.f;rw [(full_same h hp.1 (by omega) _).2,full_at hm h hi,hf,Option.bind_some,if_pos rfl]
 · refine .congr (fun k=>?_) (hfl.2.bind (f:=fun k p=>if ks.length = p.1.length∧hs.length = p.1.length then ((r4above.f k l (i : Int)).bind fun t2=>if 0≤(wrap64 (2 * (i : Int))) then (if (wrap64 (2 * (i : Int))) < (t2.length : Int) then r4Merge.l0 k p.1 ks hs (t2.set ((wrap64 (2 * (i : Int))) : Int).toNat (⟨true,f1,f2,f3,f4,([] : List Int)⟩ : S29)) 0 else none) else none) else some (([] : List S29),30)) (r:=([],30)) (.const fun k=>by rw [ints_len];simp only [if_neg hk]))
   unfold r4Merge.f;rw [(full_same h hp.1 (by omega) _).1,full_at hm h hi,hf,Option.bind_some,if_pos rfl]
theorem merge_none {l : List S29} {m : Nat} {i : Int} (hR : RT l m) (hf : fullB l (2 ^ m) i = false) (f0 : Bool) (f1 f2 f3 f4 : Int) (l5 ks hs : List Int) : Evr (fun k=>tree_Merge.f k l i f0 f1 f2 f3 f4 l5 ks hs) ([],40)∧Evr (fun k=>r4Merge.f k l i f0 f1 f2 f3 f4 l5 ks hs) ([],40):=by
 have hm:=hR.hm;have h:=hR.len;have hp:=pow_le32 hm;refine ⟨.const fun k=>?_,.const fun k=>?_⟩
 · unfold tree_Merge.f
   rw [(full_same h hp.1 (by omega) _).2,hf,Option.bind_some,if_neg (by decide)]
 · unfold r4Merge.f
   rw [(full_same h hp.1 (by omega) _).1,hf,Option.bind_some,if_neg (by decide)]
end Go.Proofs.YtbblomnhobodkaaDoor.Pure
set_option linter.unusedVariables false
set_option linter.unusedSimpArgs false
namespace Go.Proofs.YtbblomnhobodkaaDoor.Pure
open Go.RowKit Go.Proofs.YtbblomnhobodkaaDoor Go.Proofs.YtbblomnhobodkaaDoor.PTw Go.Proofs.YtbblomnhobodkaaDoorW.PW
theorem first_free {bs : Nat→Bool} {n : Nat} (h : bs n = false) : ∃ w,w≤n∧(∀ j,j < w→bs j = true)∧bs w = false:=by
 have h2 : ∀ q,(∀ j,j < q→bs j = true)∨∃ w,w < q∧(∀ j,j < w→bs j = true)∧bs w = false:=by
  intro q
  induction q with
  | zero=>exact .inl fun j hj=>by omega
  | succ q ih=>
   rcases ih with h1 | ⟨w,h1,h2⟩
   · cases hq : bs q with
     | false=>exact .inr ⟨q,by omega,h1,hq⟩
     | true=>
      refine .inl fun j hj=>?_
      rcases Nat.lt_or_ge j q with h | h
      · exact h1 j h
      · rw [show j = q by omega];exact hq
   · exact .inr ⟨w,by omega,h2⟩
 rcases h2 (n + 1) with h1 | ⟨w,h1,h2⟩
 · rw [h1 n (by omega)] at h;cases h
 · exact ⟨w,by omega,h2⟩
section
variable {l : List S29} {m : Nat}
theorem add_cases (hR : RT l m) : (∃ i m',((i < 2 ^ m∧m' = m)∨(i = 2 ^ m∧m' = m + 1∧m'≤5))∧i≤2 ^ m∧i < 2 ^ m'∧m'≤5∧(∀ j,j < i→(VX l (2 * j)).f0 = true)∧(VX l (2 * i)).f0 = false∧(∀ leaf,aLeaf leaf→RT (addL l i m' leaf) m')∧
      ∀ (f0 : Bool) (f1 f2 f3 f4 : Int) (l5 : List Int),Evr (fun k=>tree_Add.f k l f0 f1 f2 f3 f4 l5) (addL l i m' ⟨true,f1,f2,f3,f4,[]⟩,(i : Int),0)∧Evr (fun k=>r4Add.f k l f0 f1 f2 f3 f4 l5) (addL l i m' ⟨true,f1,f2,f3,f4,[]⟩,(i : Int),0))∨
 (m = 5∧(∀ j,j < 32→(VX l (2 * j)).f0 = true)∧∀ (f0 : Bool) (f1 f2 f3 f4 : Int) (l5 : List Int),Evr (fun k=>tree_Add.f k l f0 f1 f2 f3 f4 l5) ([],0,41)∧Evr (fun k=>r4Add.f k l f0 f1 f2 f3 f4 l5) ([],0,41)):=by
 have hm:=hR.hm;have hp:=pow_le32 hm;obtain ⟨i,hi,hfull,hfree⟩:=first_free (bs:=fun j=>(VX l (2 * j)).f0) (n:=2 ^ m) (by show (VX l (2 * 2 ^ m)).f0 = false;rw [hR.rg.out _ (by omega)];rfl)
 have go : ∀ m',((i < 2 ^ m∧m' = m)∨(i = 2 ^ m∧m' = m + 1∧m'≤5))→i < 2 ^ m'→m'≤5→(∃ i m',((i < 2 ^ m∧m' = m)∨(i = 2 ^ m∧m' = m + 1∧m'≤5))∧i≤2 ^ m∧i < 2 ^ m'∧m'≤5∧(∀ j,j < i→(VX l (2 * j)).f0 = true)∧(VX l (2 * i)).f0 = false∧(∀ leaf,aLeaf leaf→RT (addL l i m' leaf) m')∧
  ∀ (f0 : Bool) (f1 f2 f3 f4 : Int) (l5 : List Int),Evr (fun k=>tree_Add.f k l f0 f1 f2 f3 f4 l5) (addL l i m' ⟨true,f1,f2,f3,f4,[]⟩,(i : Int),0)∧Evr (fun k=>r4Add.f k l f0 f1 f2 f3 f4 l5) (addL l i m' ⟨true,f1,f2,f3,f4,[]⟩,(i : Int),0)):=fun m' hc h1 h2=>
  ⟨i,m',hc,hi,h1,h2,hfull,hfree,fun leaf hL=>RT.of (hR.rg.add hL hfree hc),fun f0 f1 f2 f3 f4 l5=>⟨add_ev hm hR.len hR.lateOk hi hfull (fun _=>hfree) hc f0 f1 f2 f3 f4 l5,radd_ev hR hi hfull hfree hc f0 f1 f2 f3 f4 l5⟩⟩
 by_cases c : i < 2 ^ m
 · exact .inl (go m (.inl ⟨c,rfl⟩) c hm)
 · have e : i = 2 ^ m:=by omega
   by_cases c5 : m = 5
   · subst c5
     have h32 : i = 32:=e;subst h32;exact .inr ⟨rfl,hfull,fun f0 f1 f2 f3 f4 l5=>⟨add_none hR.len hfull f0 f1 f2 f3 f4 l5,radd_none hR.len hR.l5 hfull f0 f1 f2 f3 f4 l5⟩⟩
   · exact .inl (go (m + 1) (.inr ⟨e,rfl,by omega⟩) (by rw [Nat.pow_succ];omega) (by omega))
theorem upd_rt (hR : RT l m) {i : Nat} (hi : i < 2 ^ m) {leaf : S29} (hL : aLeaf leaf) : RT (updL l i m leaf) m:=RT.of (hR.rg.lay hL OkF.none hi)
theorem other_one {L : List Nat} {i : Nat} (hn : L.Nodup) (hi : i ∈ L) (hc : L.length≠1) : ∃ j ∈ L,j≠i:=by
 rcases Classical.em (∃ j ∈ L,j≠i) with h | h
 · exact h
 · exfalso
   have e:=List.eq_replicate_of_mem (a:=i) (l:=L) (fun b hb=>Classical.byContradiction fun hne=>h ⟨b,hb,hne⟩);rw [e] at hn
   have:=List.nodup_replicate.1 hn
   have:=List.length_pos_of_mem hi
   omega
theorem fullN_mem {j n : Nat} : j ∈ fullN l 0 n↔j < n∧(VX l (2 * j)).f0 = true:=by
 unfold fullN;rw [List.mem_filter,List.mem_range'_1];exact ⟨fun h=>⟨by omega,h.2⟩,fun h=>⟨by omega,h.2⟩⟩
theorem fullN_nodup {n : Nat} : (fullN l 0 n).Nodup:=(List.nodup_range' (step:=1)).filter _
theorem cut_full (hR : RT l m) {i : Nat} (hi : i < 2 ^ m) (j : Nat) : (cutG l i m (2 * j)).f0 = if j = i then false else (VX l (2 * j)).f0:=by
 unfold cutG;rw [if_neg (path_even hR.hm hi)]
 by_cases c : j = i
 · rw [if_pos c,if_pos (by omega)];rfl
 · rw [if_neg c,if_neg (by omega)]
theorem rem_cases (hR : RT l m) {i : Nat} (hi : i < 2 ^ m) (hf : (VX l (2 * i)).f0 = true) (hc : (fullN l 0 (2 ^ m)).length≠1) : ∃ m',Tops (cutG l i m) m m'∧RT (mkT (2 * 2 ^ m' - 1) (cutG l i m)) m'∧Evr (fun k=>tree_Remove.f k l (i : Int)) (mkT (2 * 2 ^ m' - 1) (cutG l i m),0)∧Evr (fun k=>r4Remove.f k l (i : Int)) (mkT (2 * 2 ^ m' - 1) (cutG l i m),0):=by
 have hm:=hR.hm;obtain ⟨j,hj,hne⟩:=other_one fullN_nodup (fullN_mem.2 ⟨hi,hf⟩) hc;obtain ⟨hj1,hj2⟩:=fullN_mem.1 hj
 obtain ⟨m',h1,h2,h3⟩:=tops_any (g:=cutG l i m) ⟨j,by rw [cut_full hR hi,if_neg hne];exact hj2⟩ m (fun q hq=>by
  rw [cut_full hR hi] at hq
  by_cases c : q = i
  · rw [if_pos c] at hq;cases hq
  · rw [if_neg c] at hq
    rcases Nat.lt_or_ge q (2 ^ m) with h | h
    · exact h
    · rw [hR.rg.out _ (by omega)] at hq;cases hq)
 have ht : Tops (cutG l i m) m m':=⟨h1,fun q hq1 hq2=>by
  cases hh : (cutG l i m (2 * q)).f0 with
  | false=>rfl
  | true=>have:=h2 q hh;omega,h3⟩
 refine ⟨m',ht,?_,remove_ev hm hR.len hR.lateOk hi hf hc ht,rremove_ev hm hR.len hR.lateOk hi hf hc ht⟩;rw [rem_mk];exact RT.of (hR.rg.rem hi ht)
theorem rem_no (hR : RT l m) {i : Int} (hc : fullB l (2 ^ m) i = true→(fullN l 0 (2 ^ m)).length = 1) : Evr (fun k=>tree_Remove.f k l i) ([],40)∧Evr (fun k=>r4Remove.f k l i) ([],40):=⟨remove_one hR.hm hR.len hc,rremove_one hR.hm hR.len hc⟩
theorem okF_of {F : Nat→S29} {P : List Nat} (h : AllKey F) : OkF (fun x=>if x ∈ P then F x else z29):=fun x=>by
 by_cases c : x ∈ P
 · exact .inr ⟨_,_,(if_pos c).trans (h x).choose_spec.choose_spec⟩
 · exact .inl (if_neg c)
theorem mer_rt (hR : RT l m) {i : Nat} (hi : i < 2 ^ m) {leaf : S29} (hL : aLeaf leaf) {F : Nat→S29} (hF : OkF F) : RT (mkT (2 * 2 ^ m - 1) (merG (VX l) i m leaf F)) m:=RT.of (hR.rg.lay hL hF hi)
theorem mer_both (hR : RT l m) (i : Int) (f0 : Bool) (f1 f2 f3 f4 : Int) (l5 ks : List Int) : ∃ r e,(e = 0→RT r m)∧(e≠0→r = [])∧Evr (fun k=>tree_Merge.f k l i f0 f1 f2 f3 f4 l5 ks ks) (r,e)∧Evr (fun k=>r4Merge.f k l i f0 f1 f2 f3 f4 l5 ks ks) (r,e):=by
 have hp:=pow_le32 hR.hm
 cases hf : fullB l (2 ^ m) i with
 | false=>
  obtain ⟨h1,h2⟩:=merge_none hR hf f0 f1 f2 f3 f4 l5 ks ks;exact ⟨[],40,(fun h=>by cases h),fun _=>rfl,h1,h2⟩
 | true=>
  have hb:=fullB_lt hf
  obtain ⟨n,rfl⟩ : ∃ n : Nat,i = (n : Int):=⟨i.toNat,by omega⟩
  have hn : n < 2 ^ m:=by omega
  rw [full_at hR.hm hR.len hn] at hf
  by_cases hk : ks.length = (fP l n m).length
  · obtain ⟨F,hF,h1,h2⟩:=merge_ev hR hn hf f0 f1 f2 f3 f4 l5 ks ks hk hk
    exact ⟨_,0,fun _=>mer_rt hR hn ⟨rfl,rfl⟩ (okF_of hF),fun h=>absurd rfl h,h1,h2⟩
  · obtain ⟨h1,h2⟩:=merge_bad hR hn hf f0 f1 f2 f3 f4 l5 ks ks (fun hh=>hk hh.1)
    exact ⟨[],30,(fun h=>by cases h),fun _=>rfl,h1,h2⟩
theorem upd_both (hR : RT l m) (i : Int) (f0 : Bool) (f1 f2 f3 f4 : Int) (l5 : List Int) : ∃ r e,(e = 0→RT r m)∧(e≠0→r = [])∧Evr (fun k=>tree_Update.f k l i f0 f1 f2 f3 f4 l5) (r,e)∧Evr (fun k=>r4Update.f k l i f0 f1 f2 f3 f4 l5) (r,e):=by
 have hp:=pow_le32 hR.hm
 cases hf : fullB l (2 ^ m) i with
 | false=>
  obtain ⟨h1,h2⟩:=update_none hR.hm hR.len hf f0 f1 f2 f3 f4 l5;exact ⟨[],40,(fun h=>by cases h),fun _=>rfl,h1,h2⟩
 | true=>
  have hb:=fullB_lt hf
  obtain ⟨n,rfl⟩ : ∃ n : Nat,i = (n : Int):=⟨i.toNat,by omega⟩
  have hn : n < 2 ^ m:=by omega
  rw [full_at hR.hm hR.len hn] at hf;exact ⟨_,0,fun _=>upd_rt hR hn ⟨rfl,rfl⟩,fun h=>absurd rfl h,tupdate_ev hR.hm hR.len hR.lateOk hn hf f0 f1 f2 f3 f4 l5,rupdate_ev hR.hm hR.len hR.lateOk hn hf f0 f1 f2 f3 f4 l5⟩
theorem rem_both (hR : RT l m) (i : Int) : ∃ r e m',(e = 0→RT r m')∧(e≠0→r = [])∧Evr (fun k=>tree_Remove.f k l i) (r,e)∧Evr (fun k=>r4Remove.f k l i) (r,e):=by
 have hp:=pow_le32 hR.hm
 by_cases hc : fullB l (2 ^ m) i = true→(fullN l 0 (2 ^ m)).length = 1
 · obtain ⟨h1,h2⟩:=rem_no hR hc
   exact ⟨[],40,0,(fun h=>by cases h),fun _=>rfl,h1,h2⟩
 · have hf : fullB l (2 ^ m) i = true:=Classical.byContradiction fun h=>hc fun h'=>absurd h' h
   have hc1 : (fullN l 0 (2 ^ m)).length≠1:=fun h=>hc fun _=>h
   have hb:=fullB_lt hf
   obtain ⟨n,rfl⟩ : ∃ n : Nat,i = (n : Int):=⟨i.toNat,by omega⟩
   have hn : n < 2 ^ m:=by omega
   rw [full_at hR.hm hR.len hn] at hf;obtain ⟨m',ht,h1,h2,h3⟩:=rem_cases hR hn hf hc1;exact ⟨_,0,m',fun _=>h1,fun h=>absurd rfl h,h2,h3⟩
theorem add_both (hR : RT l m) (f0 : Bool) (f1 f2 f3 f4 : Int) (l5 : List Int) : ∃ r i e m',(e = 0→RT r m')∧(e≠0→r = [])∧Evr (fun k=>tree_Add.f k l f0 f1 f2 f3 f4 l5) (r,i,e)∧Evr (fun k=>r4Add.f k l f0 f1 f2 f3 f4 l5) (r,i,e):=by
 rcases add_cases hR with ⟨i,m',_,_,_,_,_,_,hrt,h⟩ | ⟨_,_,h⟩
 · obtain ⟨h1,h2⟩:=h f0 f1 f2 f3 f4 l5
   exact ⟨_,_,0,m',fun _=>hrt _ ⟨rfl,rfl⟩,fun h=>absurd rfl h,h1,h2⟩
 · obtain ⟨h1,h2⟩:=h f0 f1 f2 f3 f4 l5
   exact ⟨[],0,41,0,(fun h=>by cases h),fun _=>rfl,h1,h2⟩
end
theorem one_rt (f1 f2 f3 f4 : Int) : RT [(⟨true,f1,f2,f3,f4,[]⟩ : S29)] 0:=by
 have h0 : ∀ x,x≠0→VX [(⟨true,f1,f2,f3,f4,[]⟩ : S29)] x = z29:=fun x hx=>VX_out (by simp;omega)
 refine ⟨rfl,⟨by decide,fun x hx=>h0 x (by simp at hx;omega),fun x hx=>?_,fun x hx=>?_,fun x hx=>?_,fun x=>?_,fun x y hy=>?_,⟨0,by simp,by simp,rfl⟩⟩⟩
 · by_cases c : x = 0
   · subst c;cases hx
   · exact h0 x c
 · by_cases c : x = 0
   · subst c;rfl
   · rw [h0 x c];rfl
 · rw [h0 x (by omega)];exact ⟨rfl,rfl⟩
 · by_cases c : x = 0
   · subst c;exact List.Pairwise.nil
   · rw [h0 x c];exact List.Pairwise.nil
 · by_cases c : x = 0
   · subst c;cases hy
   · rw [h0 x c] at hy;cases hy
theorem RT.pos {l : List S29} {m : Nat} (h : RT l m) : 0 < l.length:=by
 have:=pow_le32 h.hm
 rw [h.len];omega
theorem grown_l0 (ops : List S32) (n : Int) (hn : n = (ops.length : Int)) : ∀ (d j : Nat) (l : List S29) (m : Nat),d + j = ops.length→RT l m→∃ l' m',RT l' m'∧Evr (fun k=>w4grown.l0 k l ops n (j : Int)) l':=by
 subst hn;intro d
 induction d with
 | zero=>exact fun j l m hd hR=>⟨l,m,hR,.succ (f:=fun _=>some l) (fun k=>by rw [w4grown.l0,if_neg (by omega)]) (.const fun _=>rfl)⟩
 | succ d ih=>
  intro j l m hd hR
  by_cases c3 : (j : Int)≥300
  · exact ⟨l,m,hR,.succ (f:=fun _=>some l) (fun k=>by rw [w4grown.l0,if_pos (by omega),if_pos (by omega),if_pos (by omega),if_pos c3]) (.const fun _=>rfl)⟩
  · obtain ⟨q,hq⟩ : ∃ q,q = rd_T32 ops (j : Int):=⟨_,rfl⟩
    have hj3 : (j : Int) < 300:=by omega
    have ej : wrap64 ((j : Int) + 1) = ((j + 1 : Nat) : Int):=by rw [wrap_id (by omega)];omega
    have stay : ∀ (r : List S29) (m' : Nat),(r = []∨RT r m')→∃ l' m',RT l' m'∧Evr (fun k=>if (r.length : Int) > 0 then w4grown.l0 k r ops (ops.length : Int) ((j + 1 : Nat) : Int) else w4grown.l0 k l ops (ops.length : Int) ((j + 1 : Nat) : Int)) l':=fun r m' h=>by
     rcases h with rfl | h
     · obtain ⟨l',m'',h1,h2⟩:=ih (j + 1) l m (by omega) hR
       exact ⟨l',m'',h1,.congr (fun k=>by rw [if_neg (by simp)]) h2⟩
     · obtain ⟨l',m'',h1,h2⟩:=ih (j + 1) r m' (by omega) h
       have:=h.pos
       exact ⟨l',m'',h1,.congr (fun k=>by rw [if_pos (by omega)]) h2⟩
    have op : ∀ k,w4grown.l0 (k + 1) l ops (ops.length : Int) (j : Int) = (if q.f0 = 1 then ((r4Add.f k l q.f2.f0 q.f2.f1 q.f2.f2 q.f2.f3 q.f2.f4 q.f2.f5).bind fun t=>if (t.1.length : Int) > 0 then w4grown.l0 k t.1 ops (ops.length : Int) ((j + 1 : Nat) : Int) else w4grown.l0 k l ops (ops.length : Int) ((j + 1 : Nat) : Int)) else if q.f0 = 2 then ((r4Update.f k l q.f1 q.f2.f0 q.f2.f1 q.f2.f2 q.f2.f3 q.f2.f4 q.f2.f5).bind fun t=>if (t.1.length : Int) > 0 then w4grown.l0 k t.1 ops (ops.length : Int) ((j + 1 : Nat) : Int) else w4grown.l0 k l ops (ops.length : Int) ((j + 1 : Nat) : Int)) else if q.f0 = 3 then ((r4Remove.f k l q.f1).bind fun t=>if (t.1.length : Int) > 0 then w4grown.l0 k t.1 ops (ops.length : Int) ((j + 1 : Nat) : Int) else w4grown.l0 k l ops (ops.length : Int) ((j + 1 : Nat) : Int)) else if q.f0 = 4 then ((w4keys.f k l q.f0 q.f1 q.f2.f0 q.f2.f1 q.f2.f2 q.f2.f3 q.f2.f4 q.f2.f5 0).bind fun ks=>(r4Merge.f k l q.f1 q.f2.f0 q.f2.f1 q.f2.f2 q.f2.f3 q.f2.f4 q.f2.f5 ks ks).bind fun t=>if (t.1.length : Int) > 0 then w4grown.l0 k t.1 ops (ops.length : Int) ((j + 1 : Nat) : Int) else w4grown.l0 k l ops (ops.length : Int) ((j + 1 : Nat) : Int)) else if (([] : List S29).length : Int) > 0 then w4grown.l0 k [] ops (ops.length : Int) ((j + 1 : Nat) : Int) else w4grown.l0 k l ops (ops.length : Int) ((j + 1 : Nat) : Int)):=fun k=>by
     rw [w4grown.l0,if_pos (by omega),if_pos (by omega),if_pos (by omega),if_neg c3,← hq,ej]
    clear hq
    by_cases q1 : q.f0 = 1
    · obtain ⟨r,i,e,m',h1,h2,_,h4⟩:=add_both hR q.f2.f0 q.f2.f1 q.f2.f2 q.f2.f3 q.f2.f4 q.f2.f5
      obtain ⟨l',m'',s1,s2⟩:=stay r m' (by by_cases c : e = 0;exact .inr (h1 c);exact .inl (h2 c));exact ⟨l',m'',s1,.succ op (.congr (fun k=>by rw [if_pos q1]) (h4.bind s2))⟩
    · by_cases q2 : q.f0 = 2
      · obtain ⟨r,e,h1,h2,_,h4⟩:=upd_both hR q.f1 q.f2.f0 q.f2.f1 q.f2.f2 q.f2.f3 q.f2.f4 q.f2.f5
        obtain ⟨l',m'',s1,s2⟩:=stay r m (by by_cases c : e = 0;exact .inr (h1 c);exact .inl (h2 c));exact ⟨l',m'',s1,.succ op (.congr (fun k=>by rw [if_neg q1,if_pos q2]) (h4.bind s2))⟩
      · by_cases q3 : q.f0 = 3
        · obtain ⟨r,e,m',h1,h2,_,h4⟩:=rem_both hR q.f1
          obtain ⟨l',m'',s1,s2⟩:=stay r m' (by by_cases c : e = 0;exact .inr (h1 c);exact .inl (h2 c));exact ⟨l',m'',s1,.succ op (.congr (fun k=>by rw [if_neg q1,if_neg q2,if_pos q3]) (h4.bind s2))⟩
        · by_cases q4 : q.f0 = 4
          · have hk:=keys_ev hR q.f0 q.f1 q.f2.f0 q.f2.f1 q.f2.f2 q.f2.f3 q.f2.f4 q.f2.f5 0
            obtain ⟨r,e,h1,h2,_,h4⟩:=mer_both hR q.f1 q.f2.f0 q.f2.f1 q.f2.f2 q.f2.f3 q.f2.f4 q.f2.f5 _;obtain ⟨l',m'',s1,s2⟩:=stay r m (by by_cases c : e = 0;exact .inr (h1 c);exact .inl (h2 c));exact ⟨l',m'',s1,.succ op (.congr (fun k=>by rw [if_neg q1,if_neg q2,if_neg q3,if_pos q4]) (hk.bind (h4.bind s2)))⟩
          · obtain ⟨l',m'',s1,s2⟩:=stay [] m (.inl rfl)
            exact ⟨l',m'',s1,.succ op (.congr (fun k=>by rw [if_neg q1,if_neg q2,if_neg q3,if_neg q4]) s2)⟩
theorem grown_ev (f0 : Bool) (f1 f2 f3 f4 : Int) (l5 : List Int) (ops : List S32) : ∃ l m,RT l m∧Evr (fun k=>w4grown.f k f0 f1 f2 f3 f4 l5 ops) l:=by
 obtain ⟨l',m',h1,h2⟩:=grown_l0 ops _ rfl ops.length 0 _ 0 (by omega) (one_rt f1 f2 f3 f4);exact ⟨l',m',h1,h2⟩
end Go.Proofs.YtbblomnhobodkaaDoor.Pure
set_option linter.unusedVariables false
set_option linter.unusedSimpArgs false
namespace Go.Proofs.YtbblomnhobodkaaDoor.Pure
open Go.RowKit Go.Proofs.YtbblomnhobodkaaDoor Go.Proofs.YtbblomnhobodkaaDoor.PTw Go.Proofs.YtbblomnhobodkaaDoorW.PW
theorem pow2s_pow {m : Nat} (hm : m≤5) : pow2s.contains (2 ^ m) = true:=by
 have : m = 0∨m = 1∨m = 2∨m = 3∨m = 4∨m = 5:=by omega
 rcases this with h | h | h | h | h | h <;> subst h <;> decide
theorem hund_at {m i x : Nat} (hm : m≤5) (hi : i < 2 ^ m) (hx : x < 2 * 2 ^ m - 1) : Evr (fun k=>heap_Under.f k ((2 * i : Nat) : Int) (x : Int) ((2 ^ m : Nat) : Int)) (decide (x ∈ pathN i m) || decide (x = 2 * i)):=by
 have hp:=pow_le32 hm;obtain ⟨b,h1,h2⟩:=under_same (n:=2 ^ m) (x:=x) (y:=2 * i) (pow2s_pow hm) (by omega) (by omega);have h3:=und_at hm hi hx
 have e : ((2 * i : Nat) : Int) = 2 * (i : Int):=by omega
 rw [e] at h1 h2 ⊢;rw [← h2.uniq h3];exact h1
theorem vert_late {l : List S29} {m x : Nat} (hR : RT l m) (hx : x < l.length) (L : List Int) (hL : L = (VX l x).f5) (f0 : Bool) (f1 f2 f3 f4 : Int) : ∀ (d j : Nat),d + j = L.length→Evr (fun k=>tree_vertex.l0 k l (x : Int) L (L.length : Int) (j : Int) f0 f1 f2 f3 f4 L) true:=by
 have hm:=hR.hm;have hp:=pow_le32 hm;have h:=hR.len
 have hl32 : L.length≤32:=by rw [hL];exact (hR.rg.lates x).2
 intro d
 induction d with
 | zero=>exact fun j hd=>.succ (f:=fun _=>some true) (fun k=>by rw [tree_vertex.l0,if_neg (by omega)]) (.const fun _=>rfl)
 | succ d ih=>
  intro j hd
  have hj : j < L.length:=by omega
  obtain ⟨i,h1,h2,h3,h4⟩:=hR.rg.late x L[j] (by rw [← hL];exact List.getElem_mem hj);have hu:=hund_at hm h2 (x:=x) (by omega);rw [decide_eq_true h4,Bool.true_or] at hu
  have ef : fullB l (2 ^ m) (i : Int) = true:=by rw [full_at hm h h2];exact h3
  have hup : L.Pairwise (· < ·):=by rw [hL];exact hR.rg.up x
  have op : ∀ k,tree_vertex.l0 (k + 1) l (x : Int) L (L.length : Int) (j : Int) f0 f1 f2 f3 f4 L = (heap_Under.f k ((2 * i : Nat) : Int) (x : Int) ((2 ^ m : Nat) : Int)).bind fun t=>if t = true then tree_vertex.l0 k l (x : Int) L (L.length : Int) ((j + 1 : Nat) : Int) f0 f1 f2 f3 f4 L else some false:=fun k=>by
   rw [tree_vertex.l0,if_pos (by omega),if_pos (by omega),if_pos (by omega),rd_nth hj,h1,(full_same h hp.1 (by omega) _).2,ef,Option.bind_some,if_pos rfl,(leaves_at h hp.1 (by omega)).2,Option.bind_some,wrap_id (a:=2 * (i : Int)) (by omega),show 2 * (i : Int) = ((2 * i : Nat) : Int) by omega,wrap_id (a:=(j : Int) + 1) (by omega),show (j : Int) + 1 = ((j + 1 : Nat) : Int) by omega]
   congr 1
   funext t
   by_cases c : (j : Int) > 0
   · obtain ⟨q,rfl⟩ : ∃ q,j = q + 1:=⟨j - 1,by omega⟩
     have hlt : L[q]'(by omega) < L[q + 1]:=List.pairwise_iff_getElem.1 hup q (q + 1) (by omega) hj (by omega)
     have hq : (L[q]'(by omega)) < (i : Int):=by rw [← h1];exact hlt
     rw [if_pos c,wrap_id (a:=((q + 1 : Nat) : Int) - 1) (by omega),show ((q + 1 : Nat) : Int) - 1 = (q : Int) by omega,if_pos (show 0≤(q : Int) by omega),if_pos (show (q : Int) < (L.length : Int) by omega),rd_nth (show q < L.length by omega),if_neg (show ¬ (L[q]'(by omega))≥(i : Int) by omega)]
   · rw [if_neg c]
  exact .succ op (hu.bind (.congr (fun k=>by rw [if_pos rfl]) (ih (j + 1) (by omega))))
theorem vert_ok {l : List S29} {m x : Nat} (hR : RT l m) (hx : x < l.length) : Evr (fun k=>tree_vertex.f k l (x : Int)) true:=by
 have erd : rd_T29 l (x : Int) = VX l x:=rfl;unfold tree_vertex.f;rw [erd];simp only [if_pos (show 0≤(x : Int) by omega),if_pos (show (x : Int) < (l.length : Int) by omega)]
 by_cases c0 : (VX l x).f0 = true
 · simp only [if_pos c0]
   by_cases c1 : x % 2 = 0
   · rw [hR.rg.leaf x c1]
     simp only [if_pos (show Int.tmod (x : Int) 2 = 0 by rw [Int.tmod_eq_emod_of_nonneg (by omega)];omega)]
     exact .const fun _=>rfl
   · obtain ⟨h2,h3⟩:=hR.rg.par x (by omega)
     simp only [if_neg (show ¬ Int.tmod (x : Int) 2 = 0 by rw [Int.tmod_eq_emod_of_nonneg (by omega)];omega),if_pos h2,if_pos h3];exact vert_late hR hx _ rfl _ _ _ _ _ (VX l x).f5.length 0 (by omega)
 · have hz:=hR.rg.blank x (by simpa using c0)
   rw [hz]
   exact .const fun _=>rfl
theorem check_rt {l : List S29} {m : Nat} (hR : RT l m) : Evr (fun k=>tree_Check.f k l) true∧Evr (fun k=>r4Check.f k l) true:=by
 have hm:=hR.hm;have hp:=pow_le32 hm;have h:=hR.len
 have h1 : Evr (fun k=>tree_Check.f k l) true:=by
  have hl0 : ∀ (d j : Nat),d + j = l.length→Evr (fun k=>tree_Check.l0 k l (l.length : Int) (j : Int)) true:=by
   intro d
   induction d with
   | zero=>exact fun j hd=>.succ (f:=fun _=>some true) (fun k=>by rw [tree_Check.l0,if_neg (by omega)]) (.const fun _=>rfl)
   | succ d ih=>
    intro j hd;refine .succ (f:=fun k=>(tree_vertex.f k l (j : Int)).bind fun t=>if t = true then tree_Check.l0 k l (l.length : Int) ((j + 1 : Nat) : Int) else some false) (fun k=>?_) ((vert_ok hR (by omega)).bind (.congr (fun k=>by rw [if_pos rfl]) (ih (j + 1) (by omega))));rw [tree_Check.l0,if_pos (by omega),wrap_id (by omega),show (j : Int) + 1 = ((j + 1 : Nat) : Int) by omega]
  obtain ⟨i,t1,t2,t3⟩:=hR.rg.top;have ht:=tight_yes h hp.1 (by omega) t1 t2 t3;have hr:=(right_same (2 ^ m) (by omega)).1;rw [pow2s_pow hm] at hr;refine .congr (f:=fun k=>(tree_tight.f k l).bind fun t=>tree_Check.j0 k l (!t)) (fun k=>?_) (ht.bind (.succ (f:=fun k=>tree_Check.l0 k l (l.length : Int) 0) (fun k=>by rw [tree_Check.j0];rfl) (hl0 l.length 0 (by omega))));unfold tree_Check.f;rw [if_neg (by omega),(leaves_at h hp.1 (by omega)).2,Option.bind_some,hr,Option.bind_some,if_pos rfl]
 refine ⟨h1,?_⟩;obtain ⟨b,c1,c2⟩:=check_same (l:=l) (fun v hv=>by have:=hR.l5 v hv;omega) (by omega);rw [h1.uniq c1];exact c2
end Go.Proofs.YtbblomnhobodkaaDoor.Pure
set_option linter.unusedVariables false
set_option linter.unusedSimpArgs false
namespace Go.Proofs.YtbblomnhobodkaaDoor.Pure
open Go.RowKit Go.Proofs.YtbblomnhobodkaaDoor Go.Proofs.YtbblomnhobodkaaDoor.PTw Go.Proofs.YtbblomnhobodkaaDoorW.PW
def updB (bs : Nat→Bool) (i : Nat) (b : Bool) : Nat→Bool:=fun j=>if j = i then b else bs j
theorem cnt_updB (bs : Nat→Bool) (i : Nat) (h : bs i = true) : ∀ (l : List Nat),l.Nodup→i ∈ l→l.countP bs = l.countP (updB bs i false) + 1
 | a :: l,hn,hi=>by
  have hn':=List.nodup_cons.1 hn;rw [List.countP_cons,List.countP_cons]
  by_cases c : a = i
  · subst c
    have e : l.countP bs = l.countP (updB bs a false):=List.countP_congr fun x hx=>by
     have : x≠a:=fun e=>hn'.1 (by rw [← e];exact hx)
     unfold updB;rw [if_neg this]
    rw [e,h];unfold updB
    simp
  · have hi' : i ∈ l:=by rcases List.mem_cons.1 hi with h1 | h1;exact absurd h1.symm c;exact h1
    rw [cnt_updB bs i h l hn'.2 hi']
    have : updB bs i false a = bs a:=by unfold updB;rw [if_neg c]
    rw [this]
    omega
def bsOf (l : List S29) : Nat→Bool:=fun j=>(VX l (2 * j)).f0
theorem full_len {l : List S29} {m : Nat} (hR : RT l m) : (fullN l 0 (2 ^ m)).length = (List.range 64).countP (bsOf l):=by
 have hp:=pow_le32 hR.hm;unfold fullN;rw [← List.countP_eq_length_filter,← List.range_eq_range',show 64 = 2 ^ m + (64 - 2 ^ m) by omega,List.range_add,List.countP_append,List.countP_map]
 have : (List.range (64 - 2 ^ m)).countP (bsOf l ∘ fun x=>2 ^ m + x) = 0:=List.countP_eq_zero.2 fun x _ hx=>by
  have hx' : (VX l (2 * (2 ^ m + x))).f0 = true:=hx;rw [hR.rg.out _ (by omega)] at hx';cases hx'
 rw [this]
 rfl
def OneLeaf (a t : List S29) (i : Nat) (X : S29) : Prop:=∀ j,VX a (2 * j) = if j = i then X else VX t (2 * j)
theorem OneLeaf.bs {a t : List S29} {i : Nat} {X : S29} (h : OneLeaf a t i X) : bsOf a = updB (bsOf t) i X.f0:=by
 funext j
 unfold bsOf updB;rw [h j]
 split <;> rfl
theorem OneLeaf.len {a t : List S29} {i m m' : Nat} {X : S29} (h : OneLeaf a t i X) (hRt : RT t m) (hRa : RT a m') (hi : i < 64) : ((fullN a 0 (2 ^ m')).length : Int) = ((fullN t 0 (2 ^ m)).length : Int) + (if X.f0 = true then 1 else 0) - (if (VX t (2 * i)).f0 = true then 1 else 0):=by
 rw [full_len hRa,full_len hRt,h.bs];have hmem : i ∈ List.range 64:=List.mem_range.2 hi;have e1 : bsOf t i = (VX t (2 * i)).f0:=rfl;rw [← e1]
 have same : ∀ b,bsOf t i = b→updB (bsOf t) i b = bsOf t:=fun b hb=>by
  funext j
  unfold updB
  by_cases c : j = i
  · rw [if_pos c,c,hb]
  · rw [if_neg c]
 cases hX : X.f0 with
 | true=>
  cases ht : bsOf t i with
  | true=>rw [same true ht];simp
  | false=>
   have hb : updB (bsOf t) i true i = true:=by unfold updB;rw [if_pos rfl]
   have:=cnt_updB _ i hb (List.range 64) List.nodup_range hmem
   have e2 : updB (updB (bsOf t) i true) i false = bsOf t:=by
    funext j
    unfold updB
    by_cases c : j = i
    · rw [if_pos c,c,ht]
    · rw [if_neg c,if_neg c]
   rw [e2] at this;simp only [if_true,Bool.false_eq_true,if_false]
   omega
 | false=>
  cases ht : bsOf t i with
  | true=>
   have:=cnt_updB _ i ht (List.range 64) List.nodup_range hmem
   simp only [if_true,Bool.false_eq_true,if_false]
   omega
  | false=>rw [same false ht];simp
theorem find_l0 {l : List S29} {m : Nat} (hR : RT l m) (c : Int) (L : List Nat) (hL : ∀ j ∈ L,j < 2 ^ m) (hl : L.length≤1000) : ∀ (d x : Nat),d + x = L.length→∃ (n : Nat) (b : Bool),Evr (fun k=>tree_Find.l0 k l c (ints L) ((ints L).length : Int) (x : Int)) ((n : Int),b)∧(b = true→n < 2 ^ m∧(VX l (2 * n)).f2 = c)∧((∃ j ∈ L.drop x,(VX l (2 * j)).f2 = c)→b = true):=by
 have hp:=pow_le32 hR.hm;have hlen:=hR.len;have el:=ints_len L;intro d
 induction d with
 | zero=>
  intro x hd;refine ⟨0,false,.succ (f:=fun _=>some ((0 : Int),false)) (fun k=>by rw [tree_Find.l0,if_neg (by omega)]) (.const fun _=>rfl),(fun h=>by cases h),fun ⟨j,hj,_⟩=>?_⟩;rw [List.drop_eq_nil_of_le (by omega)] at hj;cases hj
 | succ d ih=>
  intro x hd
  have hx : x < L.length:=by omega
  have hj:=hL _ (List.getElem_mem hx);have e2 : rd_T29 l (2 * (L[x] : Int)) = VX l (2 * L[x]):=rfl
  by_cases h : (VX l (2 * L[x])).f2 = c
  · refine ⟨L[x],true,.succ (f:=fun _=>some ((L[x] : Int),true)) (fun k=>?_) (.const fun _=>rfl),fun _=>⟨hj,h⟩,fun _=>rfl⟩
    rw [tree_Find.l0,if_pos (by omega),if_pos (by omega),if_pos (by omega),ints_at hx,wrap_id (by omega),if_pos (by omega),if_pos (by omega),e2,if_pos h]
  · obtain ⟨n,b,h1,h2,h3⟩:=ih (x + 1) (by omega)
    refine ⟨n,b,.succ (fun k=>?_) h1,h2,fun ⟨j,hj,hc⟩=>h3 ⟨j,?_,hc⟩⟩
    · rw [tree_Find.l0,if_pos (by omega),if_pos (by omega),if_pos (by omega),ints_at hx,wrap_id (a:=2 * (L[x] : Int)) (by omega),if_pos (by omega),if_pos (by omega),e2,if_neg h,wrap_id (by omega),show (x : Int) + 1 = ((x + 1 : Nat) : Int) by omega]
    · rw [List.drop_eq_getElem_cons hx] at hj
      exact (List.mem_cons.1 hj).resolve_left fun e=>h (by rw [← e];exact hc)
theorem fullN_len {l : List S29} {n : Nat} : (fullN l 0 n).length≤n:=by
 have : (fullN l 0 n).length≤(List.range' 0 n).length:=List.length_filter_le _ _
 rw [List.length_range'] at this;exact this
theorem find_ev {l : List S29} {m : Nat} (hR : RT l m) (c : Int) : ∃ (n : Nat) (b : Bool),Evr (fun k=>tree_Find.f k l c) ((n : Int),b)∧(b = true→n < 2 ^ m∧(VX l (2 * n)).f2 = c)∧((∃ j ∈ fullN l 0 (2 ^ m),(VX l (2 * j)).f2 = c)→b = true):=by
 have hp:=pow_le32 hR.hm;have hf:=fullN_len (l:=l) (n:=2 ^ m);obtain ⟨n,b,h1,h2,h3⟩:=find_l0 hR c (fullN l 0 (2 ^ m)) (fun j hj=>(fullN_mem.1 hj).1) (by omega) (fullN l 0 (2 ^ m)).length 0 (by omega);exact ⟨n,b,(members_ev hR.len hp.1 (by omega)).bind (f:=fun k L=>tree_Find.l0 k l c L (L.length : Int) 0) h1,h2,h3⟩
theorem wrap_succ {x : Nat} (h : x < 1000000) : wrap64 ((x : Int) + 1) = ((x + 1 : Nat) : Int):=by rw [wrap_id (by omega)];omega
theorem wrap_dbl {x : Nat} (h : x < 1000000) : wrap64 (2 * (x : Int)) = 2 * (x : Int):=wrap_id (by omega)
theorem two_lt {j na L : Nat} (h : L = 2 * na - 1) (hj : j < na) : 2 * (j : Int) < (L : Int):=by omega
theorem rgt_same {t a : List S29} {at_ x j : Int} {L : List Int} {k : Nat} {kind o1 : Int} {b : Bool} {key client s h : Int} {late : List Int} {more : Int} (h1 : 0≤x) (h2 : x < (L.length : Int)) (hat : rd L x = j) (hne : ¬ j = at_) (hf : r4Full.f t j = some true) (e2 : wrap64 (2 * j) = 2 * j) (h3 : 0≤2 * j) (h4 : 2 * j < (a.length : Int)) (h5 : 2 * j < (t.length : Int)) (g1 : (rd_T29 a (2 * j)).f1 = (rd_T29 t (2 * j)).f1) (g2 : (rd_T29 a (2 * j)).f2 = (rd_T29 t (2 * j)).f2) (g3 : (rd_T29 a (2 * j)).f3 = (rd_T29 t (2 * j)).f3) :
 w4TreeRight.l0 (k + 1) t a at_ L (L.length : Int) x kind o1 b key client s h late more = w4TreeRight.l0 k t a at_ L (L.length : Int) (wrap64 (x + 1)) kind o1 b key client s h late more:=by
 rw [w4TreeRight.l0,if_pos h2,if_pos h1,if_pos h2,hat,if_neg hne,hf,Option.bind_some,if_pos rfl,e2,if_pos h3,if_pos h4,if_pos h5,if_pos g1,if_pos g3,if_pos g2]
theorem rgt_at {t a : List S29} {at_ x : Int} {L : List Int} {k : Nat} {kind o1 : Int} {b : Bool} {key client s h : Int} {late : List Int} {more : Int} (h1 : 0≤x) (h2 : x < (L.length : Int)) (hat : rd L x = at_) (e2 : wrap64 (2 * at_) = 2 * at_) (h3 : 0≤2 * at_) (h4 : 2 * at_ < (a.length : Int)) (g1 : (rd_T29 a (2 * at_)).f1 = key) (g2 : (rd_T29 a (2 * at_)).f2 = client) :
 w4TreeRight.l0 (k + 1) t a at_ L (L.length : Int) x kind o1 b key client s h late more = w4TreeRight.j2 k t a at_ L (L.length : Int) x false kind o1 b key client s h late more:=by
 have g : ((rd_T29 a (2 * at_)).f2 != client) = false:=by rw [g2];simp
 rw [w4TreeRight.l0,if_pos h2,if_pos h1,if_pos h2,hat,if_pos rfl,e2,if_pos h3,if_pos h4,if_pos g1,g]
section
variable {t a : List S29} {m m' i : Nat} {X : S29}
theorem right_l0 {nt na : Nat} (hlt : t.length = 2 * nt - 1) (hla : a.length = 2 * na - 1) (hnt : 1≤nt) (hnt2 : nt≤32) (hna : na≤32) (LL : List Nat) (hl : LL.length≤32) (hLL : ∀ j ∈ LL,j < na∧(VX a (2 * j)).f0 = true) (hO : OneLeaf a t i X) (hi : i < 32) (htn : ∀ j,(VX t (2 * j)).f0 = true→j < nt) (kind o1 : Int) (b : Bool) (key client s h : Int) (late : List Int) (more : Int) (hX : X.f0 = true→X.f1 = key∧X.f2 = client)
 (hend : Evr (fun k=>(tree_Find.f k a client).bind fun bt=>if kind = 3 then some true else (if bt.2 = true then (if 0≤(wrap64 (2 * bt.1)) then (if (wrap64 (2 * bt.1)) < (a.length : Int) then (some (((rd_T29 a (wrap64 (2 * bt.1))).f2) == client)) else none) else none) else some false)) true) : ∀ (d x : Nat),d + x = LL.length→Evr (fun k=>w4TreeRight.l0 k t a (i : Int) (ints LL) ((ints LL).length : Int) (x : Int) kind o1 b key client s h late more) true:=by
 have el:=ints_len LL
 generalize hI : ints LL = IL at el ⊢
 intro d
 induction d with
 | zero=>
  intro x hd;refine .succ (fun k=>?_) hend;rw [w4TreeRight.l0,if_neg (by omega)]
 | succ d ih=>
  intro x hd
  have hx : x < LL.length:=by omega
  obtain ⟨j,hj⟩ : ∃ j,j = LL[x]:=⟨_,rfl⟩
  have hjm : j ∈ LL:=by rw [hj];exact List.getElem_mem hx
  obtain ⟨j1,j2⟩:=hLL j hjm;have hat:=ints_at hx;rw [← hj,hI] at hat;clear hj;have hnx:=ih (x + 1) (by omega);have ex:=wrap_succ (x:=x) (Nat.lt_of_lt_of_le hx (by omega));have ea : rd_T29 a (2 * (j : Int)) = VX a (2 * j):=rfl;have q1 : (0 : Int)≤(x : Int):=Int.natCast_nonneg x
  have q2 : (x : Int) < (IL.length : Int):=by rw [el];exact Int.ofNat_lt.2 hx
  have q3:=wrap_dbl (x:=j) (Nat.lt_of_lt_of_le j1 (by omega));have q4 : 0≤2 * (j : Int):=Int.mul_nonneg (by decide) (Int.natCast_nonneg j);have q5 : 2 * (j : Int) < (a.length : Int):=two_lt hla j1
  by_cases c : j = i
  · have e : VX a (2 * j) = X:=by rw [hO j,if_pos c]
    rw [e] at j2;obtain ⟨k1,k2⟩:=hX j2;rw [← c] at hnx ⊢;refine .succ (f:=fun k=>w4TreeRight.j2 k t a (j : Int) IL (IL.length : Int) (x : Int) false kind o1 b key client s h late more) (fun k=>rgt_at q1 q2 hat q3 q4 q5 (by rw [ea,e];exact k1) (by rw [ea,e];exact k2)) (.succ (fun k=>?_) hnx);rw [w4TreeRight.j2,if_neg (by decide),ex]
  · have e : VX a (2 * j) = VX t (2 * j):=by rw [hO j,if_neg c]
    have et : rd_T29 t (2 * (j : Int)) = VX t (2 * j):=rfl;rw [e] at j2;have jt:=htn j j2
    have ef : r4Full.f t (j : Int) = some true:=by
     rw [(full_same hlt hnt (by omega) _).1];unfold fullB;rw [decide_eq_true (Int.natCast_nonneg j),decide_eq_true (Int.ofNat_lt.2 jt),et,j2]
     rfl
    have q6 : 2 * (j : Int) < (t.length : Int):=two_lt hlt jt
    have q7 : ¬ (j : Int) = (i : Int):=fun h=>c (Int.ofNat.inj h)
    exact .succ (fun k=>(rgt_same q1 q2 hat q7 ef q3 q4 q5 q6 (by rw [ea,et,e]) (by rw [ea,et,e]) (by rw [ea,et,e])).trans (by rw [ex])) hnx
set_option maxHeartbeats 4000000 in
theorem right_ok (hRt : RT t m) (hRa : RT a m') (hO : OneLeaf a t i X) (hi : i < 32) (kind o1 : Int) (b : Bool) (key client s h : Int) (late : List Int) (more change : Int) (hX : X.f0 = true→X.f1 = key∧X.f2 = client) (hk : kind = 3∨X.f0 = true)
 (hc : change = (if X.f0 = true then 1 else 0) - (if (VX t (2 * i)).f0 = true then 1 else 0)) : Evr (fun k=>w4TreeRight.j0 k t (ints (fullN t 0 (2 ^ m))) a 0 (i : Int) change kind o1 b key client s h late more) true:=by
 have hpt:=pow_le32 hRt.hm;have hpa:=pow_le32 hRa.hm;have hlt:=hRt.len;have hla:=hRa.len;have hft:=fullN_len (l:=t) (n:=2 ^ m);have hfa:=fullN_len (l:=a) (n:=2 ^ m');have hlen:=hO.len hRt hRa (by omega)
 have hcb : -1≤change∧change≤1:=by rw [hc];split <;> split <;> omega
 obtain ⟨fn,fb,F1,F2,F3⟩:=find_ev hRa client
 have hend : Evr (fun k=>(tree_Find.f k a client).bind fun bt=>if kind = 3 then some true else (if bt.2 = true then (if 0≤(wrap64 (2 * bt.1)) then (if (wrap64 (2 * bt.1)) < (a.length : Int) then (some (((rd_T29 a (wrap64 (2 * bt.1))).f2) == client)) else none) else none) else some false)) true:=by
  refine F1.bind (.const fun k=>?_)
  by_cases h3 : kind = 3
  · rw [if_pos h3]
  · have hXf : X.f0 = true:=hk.resolve_left h3
    have hin : i ∈ fullN a 0 (2 ^ m'):=fullN_mem.2 (by
     have e : VX a (2 * i) = X:=by rw [hO i,if_pos rfl]
     refine ⟨?_,by rw [e];exact hXf⟩
     rcases Nat.lt_or_ge i (2 ^ m') with q | q
     · exact q
     · rw [hRa.rg.out _ (by omega)] at e
       rw [← e] at hXf
       cases hXf)
    have hb:=F3 ⟨i,hin,by rw [hO i,if_pos rfl];exact (hX hXf).2⟩;obtain ⟨g1,g2⟩:=F2 hb;have e2 : (rd_T29 a (2 * (fn : Int))).f2 = client:=g2;rw [if_neg h3,hb];simp only [if_true];rw [wrap_id (by omega),if_pos (by omega),if_pos (by omega),e2]
    simp
 have hl0:=right_l0 hlt hla hpt.1 hpt.2 hpa.2 (fullN a 0 (2 ^ m')) (by omega) (fun j hj=>fullN_mem.1 hj) hO hi (fun j hj=>by
  rcases Nat.lt_or_ge j (2 ^ m) with q | q
  · exact q
  · rw [hRt.rg.out _ (by omega)] at hj;cases hj) kind o1 b key client s h late more hX hend
 have hch:=(check_rt hRa).2;have hme:=rmembers_ev hla hpa.1 (by omega);refine .succ (f:=fun k=>(r4Check.f k a).bind fun b_=>if b_ = true then ((r4Members.f k a).bind fun L=>if (L.length : Int) = (wrap64 (((ints (fullN t 0 (2 ^ m))).length : Int) + change)) then w4TreeRight.l0 k t a (i : Int) L (L.length : Int) 0 kind o1 b key client s h late more else some false) else some false) (fun k=>by rw [w4TreeRight.j0,if_pos rfl]) (hch.bind (.congr (fun k=>by rw [if_pos rfl]) (hme.bind (f:=fun k L=>if (L.length : Int) = (wrap64 (((ints (fullN t 0 (2 ^ m))).length : Int) + change)) then w4TreeRight.l0 k t a (i : Int) L (L.length : Int) 0 kind o1 b key client s h late more else some false) (.congr (fun k=>?_) (hl0 (fullN a 0 (2 ^ m')).length 0 (by omega))))));have e1:=ints_len (fullN a 0 (2 ^ m'));have e2:=ints_len (fullN t 0 (2 ^ m));rw [wrap_id (by omega),if_pos (by omega)]
 rfl
theorem right_no (e : Int) (he : e≠0) (was : List Int) (at_ change kind o1 : Int) (b : Bool) (key client s h : Int) (late : List Int) (more : Int) : Evr (fun k=>w4TreeRight.j0 k t was [] e at_ change kind o1 b key client s h late more) true:=
 .succ (f:=fun _=>some true) (fun k=>by rw [w4TreeRight.j0,if_neg he];rfl) (.const fun _=>rfl)
end
theorem treeRight_ev (f0 : Bool) (f1 f2 f3 f4 : Int) (l5 : List Int) (ops : List S32) (kind o1 : Int) (b : Bool) (key client s h : Int) (late : List Int) (more : Int) : Evr (fun k=>w4TreeRight.f k f0 f1 f2 f3 f4 l5 ops kind o1 b key client s h late more) true:=by
 obtain ⟨t,m,hR,hg⟩:=grown_ev f0 f1 f2 f3 f4 l5 ops;have hm:=hR.hm;have hp:=pow_le32 hm;have hlen:=hR.len;have hme:=rmembers_ev hlen hp.1 (by omega)
 have hev : ∀ j,j < 2 ^ m→2 * j < 2 * 2 ^ m - 1:=fun j hj=>by omega
 refine .congr (fun k=>?_) (hg.bind (f:=fun k t=>(r4Members.f k t).bind fun ms=>(if kind = 1 then ((tree_Add.f k t b key client s h late).bind fun bt=>(w4TreeRight.j0 k t ms bt.1 bt.2.2 bt.2.1 1 kind o1 b key client s h late more)) else (if kind = 2 then ((tree_Update.f k t o1 b key client s h late).bind fun bt=>(w4TreeRight.j0 k t ms bt.1 bt.2 o1 0 kind o1 b key client s h late more)) else (if kind = 3 then ((tree_Remove.f k t o1).bind fun bt=>(w4TreeRight.j0 k t ms bt.1 bt.2 o1 (-1) kind o1 b key client s h late more)) else (if kind = 4 then ((w4keys.f k t kind o1 b key client s h late 0).bind fun ks=>((tree_Merge.f k t o1 b key client s h late ks ks).bind fun bt=>(w4TreeRight.j0 k t ms bt.1 bt.2 o1 0 kind o1 b key client s h late 0))) else (some true)))))) (hme.bind ?_))
 · unfold w4TreeRight.f
   rw [show w4anchor.f k = some true from rfl,Option.bind_some,if_pos rfl]
 by_cases q1 : kind = 1
 · rcases add_cases hR with ⟨i,m',hc,hle,hi,hm5,hfull,hfree,hrt,hadd⟩ | ⟨_,_,hadd⟩
   · have hRa:=hrt ⟨true,key,client,s,h,[]⟩ ⟨rfl,rfl⟩
     have hO : OneLeaf (addL t i m' ⟨true,key,client,s,h,[]⟩) t i ⟨true,key,client,s,h,[]⟩:=fun j=>by
      have hpm:=pow_le32 hm5
      by_cases c : 2 * j < 2 * 2 ^ m' - 1
      · have e : VX (addL t i m' ⟨true,key,client,s,h,[]⟩) (2 * j) = addG (VX t) i m' ⟨true,key,client,s,h,[]⟩ (2 * j):=mkT_get c
        rw [e];unfold addG;rw [if_neg (fun hh=>path_even hm5 hi hh.1)]
        by_cases c2 : j = i
        · rw [if_pos c2,if_pos (by omega)]
        · rw [if_neg c2,if_neg (by omega)]
      · have hpp : 2 ^ m≤2 ^ m':=Nat.pow_le_pow_right (by decide) (by omega)
        rw [hRa.rg.out _ (by omega),if_neg (by omega),hR.rg.out _ (by omega)]
     have hpm:=pow_le32 hm5;have ho:=right_ok hR hRa hO (by omega) kind o1 b key client s h late more 1 (fun _=>⟨rfl,rfl⟩) (.inr rfl) (by rw [hfree];rfl);exact .congr (fun k=>by rw [if_pos q1]) ((hadd b key client s h late).1.bind (f:=fun k bt=>w4TreeRight.j0 k t (ints (fullN t 0 (2 ^ m))) bt.1 bt.2.2 bt.2.1 1 kind o1 b key client s h late more) ho)
   · exact .congr (fun k=>by rw [if_pos q1]) ((hadd b key client s h late).1.bind (f:=fun k bt=>w4TreeRight.j0 k t (ints (fullN t 0 (2 ^ m))) bt.1 bt.2.2 bt.2.1 1 kind o1 b key client s h late more) (right_no 41 (by decide) _ _ _ _ _ _ _ _ _ _ _ _))
 · by_cases q2 : kind = 2
   · cases hf : fullB t (2 ^ m) o1 with
     | false=>
      obtain ⟨h1,_⟩:=update_none hm hlen hf b key client s h late;exact .congr (fun k=>by rw [if_neg q1,if_pos q2]) (h1.bind (f:=fun k bt=>w4TreeRight.j0 k t (ints (fullN t 0 (2 ^ m))) bt.1 bt.2 o1 0 kind o1 b key client s h late more) (right_no 40 (by decide) _ _ _ _ _ _ _ _ _ _ _ _))
     | true=>
      have hb:=fullB_lt hf
      obtain ⟨n,rfl⟩ : ∃ n : Nat,o1 = (n : Int):=⟨o1.toNat,by omega⟩
      have hn : n < 2 ^ m:=by omega
      rw [full_at hm hlen hn] at hf;have hRa:=upd_rt hR hn (leaf:=⟨true,key,client,s,h,[]⟩) ⟨rfl,rfl⟩
      have hO : OneLeaf (updL t n m ⟨true,key,client,s,h,[]⟩) t n ⟨true,key,client,s,h,[]⟩:=fun j=>by
       by_cases c : j < 2 ^ m
       · have e : VX (updL t n m ⟨true,key,client,s,h,[]⟩) (2 * j) = if 2 * j ∈ pathN n m then z29 else if 2 * j = 2 * n then (⟨true,key,client,s,h,[]⟩ : S29) else VX t (2 * j):=mkT_get (hev j c)
         rw [e,if_neg (path_even hm hn)]
         by_cases c2 : j = n
         · rw [if_pos c2,if_pos (by omega)]
         · rw [if_neg c2,if_neg (by omega)]
       · rw [hRa.rg.out _ (by omega),if_neg (by omega),hR.rg.out _ (by omega)]
      have ho:=right_ok hR hRa hO (by omega) kind (n : Int) b key client s h late more 0 (fun _=>⟨rfl,rfl⟩) (.inr rfl) (by rw [hf];rfl);exact .congr (fun k=>by rw [if_neg q1,if_pos q2]) ((tupdate_ev hm hlen hR.lateOk hn hf b key client s h late).bind (f:=fun k bt=>w4TreeRight.j0 k t (ints (fullN t 0 (2 ^ m))) bt.1 bt.2 (n : Int) 0 kind (n : Int) b key client s h late more) ho)
   · by_cases q3 : kind = 3
     · by_cases hc : fullB t (2 ^ m) o1 = true→(fullN t 0 (2 ^ m)).length = 1
       · obtain ⟨h1,_⟩:=rem_no hR hc
         exact .congr (fun k=>by rw [if_neg q1,if_neg q2,if_pos q3]) (h1.bind (f:=fun k bt=>w4TreeRight.j0 k t (ints (fullN t 0 (2 ^ m))) bt.1 bt.2 o1 (-1) kind o1 b key client s h late more) (right_no 40 (by decide) _ _ _ _ _ _ _ _ _ _ _ _))
       · have hf : fullB t (2 ^ m) o1 = true:=Classical.byContradiction fun h=>hc fun h'=>absurd h' h
         have hc1 : (fullN t 0 (2 ^ m)).length≠1:=fun h=>hc fun _=>h
         have hb:=fullB_lt hf
         obtain ⟨n,rfl⟩ : ∃ n : Nat,o1 = (n : Int):=⟨o1.toNat,by omega⟩
         have hn : n < 2 ^ m:=by omega
         rw [full_at hm hlen hn] at hf;obtain ⟨m',ht,hRa,h2,_⟩:=rem_cases hR hn hf hc1
         have hO : OneLeaf (mkT (2 * 2 ^ m' - 1) (cutG t n m)) t n z29:=fun j=>by
          have hcut : cutG t n m (2 * j) = if j = n then z29 else VX t (2 * j):=by
           unfold cutG;rw [if_neg (path_even hm hn)]
           by_cases c2 : j = n
           · rw [if_pos c2,if_pos (by omega)]
           · rw [if_neg c2,if_neg (by omega)]
          by_cases c : 2 * j < 2 * 2 ^ m' - 1
          · have e : VX (mkT (2 * 2 ^ m' - 1) (cutG t n m)) (2 * j) = cutG t n m (2 * j):=mkT_get c
            rw [e,hcut]
          · rw [hRa.rg.out _ (by omega)]
            by_cases c2 : j = n
            · rw [if_pos c2]
            · rw [if_neg c2]
              rcases Nat.lt_or_ge j (2 ^ m) with q | q
              · have:=ht.no j (by omega) q
                rw [hcut,if_neg c2] at this;exact (hR.rg.blank _ this).symm
              · exact (hR.rg.out _ (by omega)).symm
         have ho:=right_ok hR hRa hO (by omega) kind (n : Int) b key client s h late more (-1) (fun hh=>by cases hh) (.inl q3) (by rw [hf];rfl);exact .congr (fun k=>by rw [if_neg q1,if_neg q2,if_pos q3]) (h2.bind (f:=fun k bt=>w4TreeRight.j0 k t (ints (fullN t 0 (2 ^ m))) bt.1 bt.2 (n : Int) (-1) kind (n : Int) b key client s h late more) ho)
     · by_cases q4 : kind = 4
       · have hk:=keys_ev hR kind o1 b key client s h late 0
         obtain ⟨ks,hks⟩ : ∃ ks : List Int,ks = List.replicate ((((filtR t m o1).1.length : Nat) : Int) + (if -40≤(0 : Int)∧(0 : Int)≤40 then 0 else 0)).toNat key:=⟨_,rfl⟩
         rw [← hks] at hk
         have hkl : ks.length = (filtR t m o1).1.length:=by rw [hks,List.length_replicate];simp
         refine .congr (fun k=>by rw [if_neg q1,if_neg q2,if_neg q3,if_pos q4]) (hk.bind (f:=fun k ks=>(tree_Merge.f k t o1 b key client s h late ks ks).bind fun bt=>w4TreeRight.j0 k t (ints (fullN t 0 (2 ^ m))) bt.1 bt.2 o1 0 kind o1 b key client s h late 0) ?_)
         cases hf : fullB t (2 ^ m) o1 with
         | false=>
          obtain ⟨h1,_⟩:=merge_none hR hf b key client s h late ks ks;exact h1.bind (f:=fun k bt=>w4TreeRight.j0 k t (ints (fullN t 0 (2 ^ m))) bt.1 bt.2 o1 0 kind o1 b key client s h late 0) (right_no 40 (by decide) _ _ _ _ _ _ _ _ _ _ _ _)
         | true=>
          have hb:=fullB_lt hf
          obtain ⟨n,rfl⟩ : ∃ n : Nat,o1 = (n : Int):=⟨o1.toNat,by omega⟩
          have hn : n < 2 ^ m:=by omega
          rw [full_at hm hlen hn] at hf
          have hfr : filtR t m (n : Int) = (fP t n m,fC t n m):=by unfold filtR;rw [if_pos (by omega),Int.toNat_natCast]
          rw [hfr] at hkl;obtain ⟨F,hF,h1,_⟩:=merge_ev hR hn hf b key client s h late ks ks hkl hkl;have hRa:=mer_rt hR hn (leaf:=⟨true,key,client,s,h,[]⟩) ⟨rfl,rfl⟩ (okF_of hF (P:=fP t n m))
          have hO : OneLeaf (mkT (2 * 2 ^ m - 1) (merG (VX t) n m ⟨true,key,client,s,h,[]⟩ (fun x=>if x ∈ fP t n m then F x else z29))) t n ⟨true,key,client,s,h,[]⟩:=fun j=>by
           by_cases c : j < 2 ^ m
           · have e : VX (mkT (2 * 2 ^ m - 1) (merG (VX t) n m ⟨true,key,client,s,h,[]⟩ (fun x=>if x ∈ fP t n m then F x else z29))) (2 * j) = merG (VX t) n m ⟨true,key,client,s,h,[]⟩ (fun x=>if x ∈ fP t n m then F x else z29) (2 * j):=mkT_get (hev j c)
             rw [e];unfold merG;rw [if_neg (path_even hm hn)]
             by_cases c2 : j = n
             · rw [if_pos c2,if_pos (by omega)]
             · rw [if_neg c2,if_neg (by omega)]
           · rw [hRa.rg.out _ (by omega),if_neg (by omega),hR.rg.out _ (by omega)]
          have ho:=right_ok hR hRa hO (by omega) kind (n : Int) b key client s h late 0 0 (fun _=>⟨rfl,rfl⟩) (.inr rfl) (by rw [hf];rfl);exact h1.bind (f:=fun k bt=>w4TreeRight.j0 k t (ints (fullN t 0 (2 ^ m))) bt.1 bt.2 (n : Int) 0 kind (n : Int) b key client s h late 0) ho
       · exact .congr (fun k=>by rw [if_neg q1,if_neg q2,if_neg q3,if_neg q4]) (.const fun _=>rfl)
end Go.Proofs.YtbblomnhobodkaaDoor.Pure
namespace Go.Proofs.YtbblomnhobodkaaDoor.Pure
open Go.RowKit Go.Proofs.YtbblomnhobodkaaDoor Go.Proofs.YtbblomnhobodkaaDoor.PTw Go.Proofs.YtbblomnhobodkaaDoorW.PW
theorem TreeRight : w4TreeRight.Pure:=by
 intro f0 f1 f2 f3 f4 l5 ops kind o1 b key client s h late more _ _ _ _ _ _ _ _ _ _ _ _ _ _;obtain ⟨K,hK⟩:=treeRight_ev f0 f1 f2 f3 f4 l5 ops kind o1 b key client s h late more;exact ⟨K,hK K (Nat.le_refl _)⟩
end Go.Proofs.YtbblomnhobodkaaDoor.Pure
set_option linter.unusedVariables false
set_option linter.unusedSimpArgs false
namespace Go.Proofs.YtbblomnhobodkaaDoor
open Go.ChangeShapes Go.WideShapes Go.ChangeAt Go.RowKit
def laidL {H : Type} : List (String × DataW H):=[("math/bits.deBruijn32tab",Rows.laid_math_bits_deBruijn32tab),("math/bits.deBruijn64tab",Rows.laid_math_bits_deBruijn64tab)]
theorem g64 : Tryd.prog.globalNamed "math/bits.deBruijn64tab" = some 1:=by kernel_rfl
theorem ty64 : (Tryd.prog.globals[1]?).map (·.type) = some 99:=by kernel_rfl
theorem datum64 {H : Type} : (Rows.laid_math_bits_deBruijn64tab : DataW H) = .agg (Lib.deBruijn64tab.map fun (n : Nat)=>.lit (.int .u8 n)):=rfl
theorem door_met (os : Os) (args : Array Value) : laidMetH Tryd.prog laidL ((World.doorLaid Tryd.prog 4000 os).forCall (fun _ _=>0) ⟨#[],args,[]⟩).memory:=
 laidMetH_of_parts3 (fuel:=8) (laidMet_of_run' 8 (by kernel_rfl) (by kernel_rfl)) (by kernel_rfl) (by kernel_rfl)
theorem of_laid {W : World} (h : laidMetH Tryd.prog laidL W) : ∀ j,j < Lib.deBruijn64tab.length→W.cell? ⟨1,j,none⟩ = some (.int .u8 (Lib.deBruijn64tab.getD j 0)):=by
 rw [MakeChecks.laidMetH_plain _ _ _ (by kernel_rfl)] at h;obtain ⟨ps,⟨g0,t0,cs0,f0,p0,q0,hg0,ht0,hv0,hd0,⟨g1,t1,cs1,f1,p1,q1,hg1,ht1,hv1,hd1,_,_⟩,_⟩,_,_⟩:=h;obtain rfl:=Option.some.inj (g64.symm.trans hg1);obtain rfl:=Option.some.inj (ty64.symm.trans ht1);obtain ⟨xs,m1,rfl,hx1,hlen,hn3,hel⟩:=DataW.trod_array Tryd.underlying99 hd1
 have c5 : Tryd.prog.cellsOf 5 = 1:=by kernel_rfl
 rw [datum64] at hx1;simp only [Prod.mk.injEq,DataW.agg.injEq] at hx1;intro j hj;have hj64 : j < 64:=hj;have h0:=hel j hj64;rw [List.getElem?_eq_getElem (by omega),c5] at h0;obtain ⟨k,e1,e2,_⟩:=DataW.trod_int Tryd.underlying5 h0;have hk:=congrArg (fun l=>l[j]?) hx1.1;simp only [List.getElem?_map,List.getElem?_eq_getElem (show j < xs.length by omega),List.getElem?_eq_getElem hj,Option.map_some,e2,Option.some.injEq,DataW.lit.injEq,Lit.int.injEq,true_and] at hk;rw [World.var?_cell hg1 hv1 j,List.getD_eq_getElem?_getD,List.getElem?_eq_getElem hj,Option.getD_some,hk]
 have:=congrArg (fun l=>l[0]?) e1
 simp only [Nat.mul_one,List.getElem?_take,List.getElem?_drop,Nat.add_zero] at this
 simpa using this
end Go.Proofs.YtbblomnhobodkaaDoor
