/- What this claim reaches of longer texts of this session. -/
import Derived.Test.YtbblomnhobodkaaDoorPureTreeH
import Derived.Test.YtbblomnhobodkaaDoorPTwx36
import Derived.Test.YtbblomnhobodkaaDoorPTwx37
import Derived.Test.YtbblomnhobodkaaDoorRows
import Derived.ProofKit
import Derived.LaidMore
import Derived.OpenShut
import Derived.Stop.Joined
import Derived.Lib.TrailingZeros
set_option linter.unusedVariables false
set_option linter.unusedSimpArgs false
namespace Go.Proofs.YtbblomnhobodkaaDoor.Pure
open Go.RowKit Go.Proofs.YtbblomnhobodkaaDoor Go.Proofs.YtbblomnhobodkaaDoor.PTw Go.Proofs.YtbblomnhobodkaaDoorW.PW
theorem pow2s_pow {m : Nat} (hm : m≤5) : pow2s.contains (2 ^ m) = true:=by
 have : m = 0∨m = 1∨m = 2∨m = 3∨m = 4∨m = 5:=by omega
 rcases this with h | h | h | h | h | h <;> subst h <;> decide
theorem hund_at {m i x : Nat} (hm : m≤5) (hi : i < 2 ^ m) (hx : x < 2 * 2 ^ m - 1) : Evr (fun k=>heap_Under.f k ((2 * i : Nat) : Int) (x : Int) ((2 ^ m : Nat) : Int)) (decide (x ∈ pathN i m) || decide (x = 2 * i)):=by
 have hp:=pow_le32 hm;obtain ⟨b,h1,h2⟩:=under_same (n:=2 ^ m) (x:=x) (y:=2 * i) (pow2s_pow hm) (by omega) (by omega);have h3:=und_at hm hi hx
 have e : ((2 * i : Nat) : Int) = 2 * (i : Int):=by omega
 rw [e] at h1 h2 ⊢;rw [← h2.uniq h3];exact h1
theorem vert_late {l : List S29} {m x : Nat} (hR : RT l m) (hx : x < l.length) (L : List Int) (hL : L = (VX l x).f5) (f0 : Bool) (f1 f2 f3 f4 : Int) : ∀ (d j : Nat),d + j = L.length→Evr (fun k=>tree_vertex.l0 k l (x : Int) L (L.length : Int) (j : Int) f0 f1 f2 f3 f4 L) true:=by
 have hm:=hR.hm;have hp:=pow_le32 hm;have h:=hR.len
 have hl32 : L.length≤32:=by rw [hL];exact (hR.rg.lates x).2
 intro d
 induction d with
 | zero=>exact fun j hd=>.succ (f:=fun _=>some true) (fun k=>by rw [tree_vertex.l0,if_neg (by omega)]) (.const fun _=>rfl)
 | succ d ih=>
  intro j hd
  have hj : j < L.length:=by omega
  obtain ⟨i,h1,h2,h3,h4⟩:=hR.rg.late x L[j] (by rw [← hL];exact List.getElem_mem hj);have hu:=hund_at hm h2 (x:=x) (by omega);rw [decide_eq_true h4,Bool.true_or] at hu
  have ef : fullB l (2 ^ m) (i : Int) = true:=by rw [full_at hm h h2];exact h3
  have hup : L.Pairwise (· < ·):=by rw [hL];exact hR.rg.up x
  have op : ∀ k,tree_vertex.l0 (k + 1) l (x : Int) L (L.length : Int) (j : Int) f0 f1 f2 f3 f4 L = (heap_Under.f k ((2 * i : Nat) : Int) (x : Int) ((2 ^ m : Nat) : Int)).bind fun t=>if t = true then tree_vertex.l0 k l (x : Int) L (L.length : Int) ((j + 1 : Nat) : Int) f0 f1 f2 f3 f4 L else some false:=fun k=>by
   rw [tree_vertex.l0,if_pos (by omega),if_pos (by omega),if_pos (by omega),rd_nth hj,h1,(full_same h hp.1 (by omega) _).2,ef,Option.bind_some,if_pos rfl,(leaves_at h hp.1 (by omega)).2,Option.bind_some,wrap_id (a:=2 * (i : Int)) (by omega),show 2 * (i : Int) = ((2 * i : Nat) : Int) by omega,wrap_id (a:=(j : Int) + 1) (by omega),show (j : Int) + 1 = ((j + 1 : Nat) : Int) by omega]
   congr 1
   funext t
   by_cases c : (j : Int) > 0
   · obtain ⟨q,rfl⟩ : ∃ q,j = q + 1:=⟨j - 1,by omega⟩
     have hlt : L[q]'(by omega) < L[q + 1]:=List.pairwise_iff_getElem.1 hup q (q + 1) (by omega) hj (by omega)
     have hq : (L[q]'(by omega)) < (i : Int):=by rw [← h1];exact hlt
     rw [if_pos c,wrap_id (a:=((q + 1 : Nat) : Int) - 1) (by omega),show ((q + 1 : Nat) : Int) - 1 = (q : Int) by omega,if_pos (show 0≤(q : Int) by omega),if_pos (show (q : Int) < (L.length : Int) by omega),rd_nth (show q < L.length by omega),if_neg (show ¬ (L[q]'(by omega))≥(i : Int) by omega)]
   · rw [if_neg c]
  exact .succ op (hu.bind (.congr (fun k=>by rw [if_pos rfl]) (ih (j + 1) (by omega))))
theorem vert_ok {l : List S29} {m x : Nat} (hR : RT l m) (hx : x < l.length) : Evr (fun k=>tree_vertex.f k l (x : Int)) true:=by
 have erd : rd_T29 l (x : Int) = VX l x:=rfl;unfold tree_vertex.f;rw [erd];simp only [if_pos (show 0≤(x : Int) by omega),if_pos (show (x : Int) < (l.length : Int) by omega)]
 by_cases c0 : (VX l x).f0 = true
 · simp only [if_pos c0]
   by_cases c1 : x % 2 = 0
   · rw [hR.rg.leaf x c1]
     simp only [if_pos (show Int.tmod (x : Int) 2 = 0 by rw [Int.tmod_eq_emod_of_nonneg (by omega)];omega)]
     exact .const fun _=>rfl
   · obtain ⟨h2,h3⟩:=hR.rg.par x (by omega)
     simp only [if_neg (show ¬ Int.tmod (x : Int) 2 = 0 by rw [Int.tmod_eq_emod_of_nonneg (by omega)];omega),if_pos h2,if_pos h3];exact vert_late hR hx _ rfl _ _ _ _ _ (VX l x).f5.length 0 (by omega)
 · have hz:=hR.rg.blank x (by simpa using c0)
   rw [hz]
   exact .const fun _=>rfl
theorem check_rt {l : List S29} {m : Nat} (hR : RT l m) : Evr (fun k=>tree_Check.f k l) true∧Evr (fun k=>r4Check.f k l) true:=by
 have hm:=hR.hm;have hp:=pow_le32 hm;have h:=hR.len
 have h1 : Evr (fun k=>tree_Check.f k l) true:=by
  have hl0 : ∀ (d j : Nat),d + j = l.length→Evr (fun k=>tree_Check.l0 k l (l.length : Int) (j : Int)) true:=by
   intro d
   induction d with
   | zero=>exact fun j hd=>.succ (f:=fun _=>some true) (fun k=>by rw [tree_Check.l0,if_neg (by omega)]) (.const fun _=>rfl)
   | succ d ih=>
    intro j hd;refine .succ (f:=fun k=>(tree_vertex.f k l (j : Int)).bind fun t=>if t = true then tree_Check.l0 k l (l.length : Int) ((j + 1 : Nat) : Int) else some false) (fun k=>?_) ((vert_ok hR (by omega)).bind (.congr (fun k=>by rw [if_pos rfl]) (ih (j + 1) (by omega))));rw [tree_Check.l0,if_pos (by omega),wrap_id (by omega),show (j : Int) + 1 = ((j + 1 : Nat) : Int) by omega]
  obtain ⟨i,t1,t2,t3⟩:=hR.rg.top;have ht:=tight_yes h hp.1 (by omega) t1 t2 t3;have hr:=(right_same (2 ^ m) (by omega)).1;rw [pow2s_pow hm] at hr;refine .congr (f:=fun k=>(tree_tight.f k l).bind fun t=>tree_Check.j0 k l (!t)) (fun k=>?_) (ht.bind (.succ (f:=fun k=>tree_Check.l0 k l (l.length : Int) 0) (fun k=>by rw [tree_Check.j0];rfl) (hl0 l.length 0 (by omega))));unfold tree_Check.f;rw [if_neg (by omega),(leaves_at h hp.1 (by omega)).2,Option.bind_some,hr,Option.bind_some,if_pos rfl]
 refine ⟨h1,?_⟩;obtain ⟨b,c1,c2⟩:=check_same (l:=l) (fun v hv=>by have:=hR.l5 v hv;omega) (by omega);rw [h1.uniq c1];exact c2
theorem res_any {l : List S29} {m : Nat} (hR : RT l m) (x : Int) : ∃ r : List Int,r.length≤100000∧Evr (fun k=>tree_Resolution.f k l x) r∧Evr (fun k=>r4Resolution.f k l x) r:=by
 by_cases c : x < 0∨(l.length : Int)≤x
 · exact ⟨[],by simp,tres_out c,rres_out c⟩
 · obtain ⟨n,rfl⟩ : ∃ n : Nat,x = (n : Int):=⟨x.toNat,by omega⟩
   have hn : n < l.length:=by omega
   have hlv:=(lv_at hR.hm (x:=n) (by have:=hR.len;omega)).1;have h5:=hR.hm;have hk : 2 ^ lvN n≤32:=(pow_le32 (by omega)).2
   have:=resN_len hR.lateSm (lvN n) n
   exact ⟨resN l (lvN n) n,by omega,tres_ev hR.hm hR.len hR.lateSm (lvN n) n rfl hn,rres_ev hR.hm hR.len hR.lateSm hn⟩
theorem ints_refl (l : List Int) (h : l.length≤100000) : Evr (fun k=>r1Ints.f k l l) true:=by
 have:=ints_ev l l (by omega)
 rw [decide_eq_true rfl] at this;exact this
theorem same_rt {l : List S29} {m : Nat} (hR : RT l m) : Evr (fun k=>r4Same.f k l l) true:=by
 have hp:=pow_le32 hR.hm;exact same_refl (by rw [hR.len];omega) (fun v hv=>by have:=hR.l5 v hv;omega)
end Go.Proofs.YtbblomnhobodkaaDoor.Pure
set_option linter.unusedVariables false
set_option linter.unusedSimpArgs false
namespace Go.Proofs.YtbblomnhobodkaaDoor.Pure
open Go.RowKit Go.Proofs.YtbblomnhobodkaaDoor Go.Proofs.YtbblomnhobodkaaDoor.PTw Go.Proofs.YtbblomnhobodkaaDoorW.PW
theorem step_ev {l : List S29} {m : Nat} (hR : RT l m) (o i : Int) (f0 : Bool) (f1 f2 f3 f4 : Int) (l5 : List Int) (more : Int) : ∃ r,(r = []∨∃ m',RT r m')∧Evr (fun k=>w4step.f k l l o i f0 f1 f2 f3 f4 l5 more) (r,r,true):=by
 unfold w4step.f
 by_cases q1 : o = 1
 · obtain ⟨r,j,e,m',h1,h2,h3,h4⟩:=add_both hR f0 f1 f2 f3 f4 l5
   refine ⟨r,by by_cases c : e = 0;exact .inr ⟨_,h1 c⟩;exact .inl (h2 c),.congr (fun k=>by rw [if_pos q1]) (h3.bind (f:=fun k bt=>(r4Add.f k l f0 f1 f2 f3 f4 l5).bind fun bu=>if bt.2.1 = bu.2.1 then some (bt.1,bu.1,bt.2.2 == bu.2.2) else some (bt.1,bu.1,false)) (h4.bind (f:=fun k bu=>if j = bu.2.1 then some (r,bu.1,e == bu.2.2) else some (r,bu.1,false)) (.const fun k=>by rw [if_pos rfl];simp)))⟩
 · by_cases q2 : o = 2
   · obtain ⟨r,e,h1,h2,h3,h4⟩:=upd_both hR i f0 f1 f2 f3 f4 l5
     refine ⟨r,by by_cases c : e = 0;exact .inr ⟨_,h1 c⟩;exact .inl (h2 c),.congr (fun k=>by rw [if_neg q1,if_pos q2]) (h3.bind (f:=fun k bt=>(r4Update.f k l i f0 f1 f2 f3 f4 l5).bind fun bu=>some (bt.1,bu.1,bt.2 == bu.2)) (h4.bind (f:=fun k bu=>some (r,bu.1,e == bu.2)) (.const fun k=>by simp)))⟩
   · by_cases q3 : o = 3
     · obtain ⟨r,e,m',h1,h2,h3,h4⟩:=rem_both hR i
       refine ⟨r,by by_cases c : e = 0;exact .inr ⟨_,h1 c⟩;exact .inl (h2 c),.congr (fun k=>by rw [if_neg q1,if_neg q2,if_pos q3]) (h3.bind (f:=fun k bt=>(r4Remove.f k l i).bind fun bu=>some (bt.1,bu.1,bt.2 == bu.2)) (h4.bind (f:=fun k bu=>some (r,bu.1,e == bu.2)) (.const fun k=>by simp)))⟩
     · by_cases q4 : o = 4
       · have hk:=keys_ev hR o i f0 f1 f2 f3 f4 l5 more
         obtain ⟨ks,hks⟩ : ∃ ks : List Int,ks = List.replicate ((((filtR l m i).1.length : Nat) : Int) + (if -40≤more∧more≤40 then more else 0)).toNat f1:=⟨_,rfl⟩
         have hkl : ks.length≤100:=by
          have : (filtR l m i).1.length≤5:=by
           unfold filtR
           split
           · have:=fP_len l i.toNat m;have:=hR.hm;show (fP l i.toNat m).length≤5;omega
           · simp
          rw [hks,List.length_replicate]
          split <;> omega
         rw [← hks] at hk;obtain ⟨r,e,h1,h2,h3,h4⟩:=mer_both hR i f0 f1 f2 f3 f4 l5 ks;refine ⟨r,by by_cases c : e = 0;exact .inr ⟨_,h1 c⟩;exact .inl (h2 c),.congr (fun k=>by rw [if_neg q1,if_neg q2,if_neg q3,if_pos q4]) (hk.bind (f:=fun k t=>(some (([] : List Int) : List Int)).bind fun y=>if y.length + t.length < 17592186044416 then ((tree_Merge.f k l i f0 f1 f2 f3 f4 l5 t (y ++ t)).bind fun bt=>(r4Merge.f k l i f0 f1 f2 f3 f4 l5 t t).bind fun bu=>some (bt.1,bu.1,bt.2 == bu.2)) else none) (.congr (fun k=>?_) (h3.bind (f:=fun k bt=>(r4Merge.f k l i f0 f1 f2 f3 f4 l5 ks ks).bind fun bu=>some (bt.1,bu.1,bt.2 == bu.2)) (h4.bind (f:=fun k bu=>some (r,bu.1,e == bu.2)) (.const fun k=>by simp)))))⟩;rw [Option.bind_some,if_pos (by simp;omega),List.nil_append]
       · exact ⟨[],.inl rfl,.congr (fun k=>by rw [if_neg q1,if_neg q2,if_neg q3,if_neg q4]) (.const fun _=>rfl)⟩
theorem plays_l0 (ops : List S32) (hl : ops.length≤300) : ∀ (d j : Nat) (l : List S29) (m : Nat),d + j = ops.length→RT l m→Evr (fun k=>w4TreePlays.l0 k l l ops (ops.length : Int) (j : Int)) true:=by
 intro d
 induction d with
 | zero=>
  intro j l m hd hR;exact .succ (f:=fun k=>(r4Same.f k l l).bind fun t=>some t) (fun k=>by rw [w4TreePlays.l0,if_neg (by omega)]) ((same_rt hR).bind (.const fun _=>rfl))
 | succ d ih=>
  intro j l m hd hR
  have ej : wrap64 ((j : Int) + 1) = ((j + 1 : Nat) : Int):=by rw [wrap_id (by omega)];omega
  obtain ⟨q,hq⟩ : ∃ q,q = rd_T32 ops (j : Int):=⟨_,rfl⟩
  have j6 : ∀ (l : List S29) (m : Nat),RT l m→∀ x : Int,Evr (fun k=>w4TreePlays.j6 k l l x ops (ops.length : Int) (j : Int) q.f0 q.f1 q.f2.f0 q.f2.f1 q.f2.f2 q.f2.f3 q.f2.f4 q.f2.f5 q.f3) true:=fun l m hR x=>by
   obtain ⟨hf1,hf2⟩:=filt_ev hR q.f1;obtain ⟨r,hr,r1,r2⟩:=res_any hR x
   have hlen : (filtR l m q.f1).1.length≤100000∧(filtR l m q.f1).2.length≤100000:=by
    unfold filtR
    split
    · have h1:=fP_len l q.f1.toNat m
      have h2:=(fC_sub l q.f1.toNat m).length_le
      have:=hR.hm
      have : (copN q.f1.toNat m).length = m:=by simp [copN]
      exact ⟨by show (fP l q.f1.toNat m).length≤100000;omega,by show (fC l q.f1.toNat m).length≤100000;omega⟩
    · simp
   have i1:=ints_refl (ints (filtR l m q.f1).1) (by rw [ints_len];exact hlen.1);have i2:=ints_refl (ints (filtR l m q.f1).2) (by rw [ints_len];exact hlen.2);have i3:=ints_refl r hr;exact .succ (f:=fun k=>(tree_Filtered.f k l q.f1).bind fun a=>(r4Filtered.f k l q.f1).bind fun b=>(r1Ints.f k a.1 b.1).bind fun t=>if t = true then ((r1Ints.f k a.2 b.2).bind fun t=>if t = true then ((tree_Resolution.f k l x).bind fun u=>(r4Resolution.f k l x).bind fun v=>(r1Ints.f k u v).bind fun t=>if t = true then w4TreePlays.l0 k l l ops (ops.length : Int) ((j + 1 : Nat) : Int) else some false) else some false) else some false) (fun k=>by rw [w4TreePlays.j6,ej]) (hf1.bind (hf2.bind (i1.bind (.congr (fun k=>by rw [if_pos rfl]) (i2.bind (.congr (fun k=>by rw [if_pos rfl]) (r1.bind (r2.bind (i3.bind (f:=fun k t=>if t = true then w4TreePlays.l0 k l l ops (ops.length : Int) ((j + 1 : Nat) : Int) else some false) (.congr (fun k=>by rw [if_pos rfl]) (ih (j + 1) l m (by omega) hR)))))))))))
  have j5 : ∀ (l : List S29) (m : Nat),RT l m→∀ (x : Int) (b : Bool),Evr (fun k=>w4TreePlays.j5 k l l x ops (ops.length : Int) (j : Int) b q.f0 q.f1 q.f2.f0 q.f2.f1 q.f2.f2 q.f2.f3 q.f2.f4 q.f2.f5 q.f3) true:=fun l m hR x b=>by
   cases b with
   | true=>exact .succ (fun k=>by rw [w4TreePlays.j5,if_pos rfl]) (j6 l m hR (-1))
   | false=>exact .succ (fun k=>by rw [w4TreePlays.j5,if_neg (by decide)]) (j6 l m hR x)
  have j4 : ∀ (l : List S29) (m : Nat),RT l m→Evr (fun k=>w4TreePlays.j4 k l l ops (ops.length : Int) (j : Int) false q.f0 q.f1 q.f2.f0 q.f2.f1 q.f2.f2 q.f2.f3 q.f2.f4 q.f2.f5 q.f3) true:=fun l m hR=>by
   by_cases c1 : q.f1 < 0
   · exact .succ (fun k=>by rw [w4TreePlays.j4,if_neg (by decide),if_pos c1]) (j5 l m hR _ true)
   · by_cases c2 : q.f1 > 100
     · exact .succ (fun k=>by rw [w4TreePlays.j4,if_neg (by decide),if_neg c1,if_pos c2]) (j5 l m hR _ true)
     · by_cases c3 : q.f3 < -100
       · exact .succ (fun k=>by rw [w4TreePlays.j4,if_neg (by decide),if_neg c1,if_neg c2,if_pos c3]) (j5 l m hR _ true)
       · exact .succ (fun k=>by rw [w4TreePlays.j4,if_neg (by decide),if_neg c1,if_neg c2,if_neg c3]) (j5 l m hR _ _)
  have j3 : ∀ (l : List S29) (m : Nat),RT l m→Evr (fun k=>w4TreePlays.j3 k l l ops (ops.length : Int) (j : Int) q.f0 q.f1 q.f2.f0 q.f2.f1 q.f2.f2 q.f2.f3 q.f2.f4 q.f2.f5 q.f3) true:=fun l m hR=>by
   have hp:=pow_le32 hR.hm;have h:=hR.len;have m1:=members_ev h hp.1 (by omega);have m2:=rmembers_ev h hp.1 (by omega)
   have i1:=ints_refl (ints (fullN l 0 (2 ^ m))) (by
    rw [ints_len]
    have : (fullN l 0 (2 ^ m)).length≤(List.range' 0 (2 ^ m)).length:=List.length_filter_le _ _
    rw [List.length_range'] at this
    omega)
   refine .succ (f:=fun k=>(tree_Members.f k l).bind fun a=>(r4Members.f k l).bind fun b=>(r1Ints.f k a b).bind fun t=>if t = true then w4TreePlays.j4 k l l ops (ops.length : Int) (j : Int) false q.f0 q.f1 q.f2.f0 q.f2.f1 q.f2.f2 q.f2.f3 q.f2.f4 q.f2.f5 q.f3 else w4TreePlays.j4 k l l ops (ops.length : Int) (j : Int) true q.f0 q.f1 q.f2.f0 q.f2.f1 q.f2.f2 q.f2.f3 q.f2.f4 q.f2.f5 q.f3) (fun k=>?_) (m1.bind (m2.bind (i1.bind (.congr (fun k=>by rw [if_pos rfl]) (j4 l m hR)))));rw [w4TreePlays.j3,(leaves_at h hp.1 (by omega)).1,(leaves_at h hp.1 (by omega)).2]
   have e : (((2 ^ m : Nat) : Int) != ((2 ^ m : Nat) : Int)) = false:=by simp
   simp only [Option.bind_some,e]
  obtain ⟨r,hr,hst⟩:=step_ev hR q.f0 q.f1 q.f2.f0 q.f2.f1 q.f2.f2 q.f2.f3 q.f2.f4 q.f2.f5 q.f3
  have hsr : Evr (fun k=>r4Same.f k r r) true:=by
   rcases hr with rfl | ⟨m',h⟩
   · exact same_refl (by simp) (fun v hv=>by cases hv)
   · exact same_rt h
  have j2 : Evr (fun k=>w4TreePlays.j2 k l l r r ops (ops.length : Int) (j : Int) false q.f0 q.f1 q.f2.f0 q.f2.f1 q.f2.f2 q.f2.f3 q.f2.f4 q.f2.f5 q.f3) true:=by
   rcases hr with rfl | ⟨m',h⟩
   · exact .succ (fun k=>by rw [w4TreePlays.j2,if_neg (by decide),if_neg (by simp)]) (j3 l m hR)
   · have:=h.pos
     exact .succ (fun k=>by rw [w4TreePlays.j2,if_neg (by decide),if_pos (by omega)]) (j3 r m' h)
  have j1 : Evr (fun k=>w4TreePlays.j1 k l l ops (ops.length : Int) (j : Int) false q.f0 q.f1 q.f2.f0 q.f2.f1 q.f2.f2 q.f2.f3 q.f2.f4 q.f2.f5 q.f3) true:=by
   refine .succ (f:=fun k=>(w4step.f k l l q.f0 q.f1 q.f2.f0 q.f2.f1 q.f2.f2 q.f2.f3 q.f2.f4 q.f2.f5 q.f3).bind fun bt=>if bt.2.2 = true then ((r4Same.f k bt.1 bt.2.1).bind fun t=>if t = true then ((r4Same.f k l l).bind fun u=>w4TreePlays.j2 k l l bt.1 bt.2.1 ops (ops.length : Int) (j : Int) (!u) q.f0 q.f1 q.f2.f0 q.f2.f1 q.f2.f2 q.f2.f3 q.f2.f4 q.f2.f5 q.f3) else w4TreePlays.j2 k l l bt.1 bt.2.1 ops (ops.length : Int) (j : Int) true q.f0 q.f1 q.f2.f0 q.f2.f1 q.f2.f2 q.f2.f3 q.f2.f4 q.f2.f5 q.f3) else w4TreePlays.j2 k l l bt.1 bt.2.1 ops (ops.length : Int) (j : Int) true q.f0 q.f1 q.f2.f0 q.f2.f1 q.f2.f2 q.f2.f3 q.f2.f4 q.f2.f5 q.f3) (fun k=>by rw [w4TreePlays.j1,if_neg (by decide)]) (hst.bind (.congr (fun k=>by rw [if_pos rfl]) (hsr.bind (.congr (fun k=>by rw [if_pos rfl]) ((same_rt hR).bind j2)))))
  refine .succ (f:=fun k=>(r4Same.f k l l).bind fun t=>if t = true then ((tree_Check.f k l).bind fun u=>w4TreePlays.j1 k l l ops (ops.length : Int) (j : Int) (!u) q.f0 q.f1 q.f2.f0 q.f2.f1 q.f2.f2 q.f2.f3 q.f2.f4 q.f2.f5 q.f3) else w4TreePlays.j1 k l l ops (ops.length : Int) (j : Int) true q.f0 q.f1 q.f2.f0 q.f2.f1 q.f2.f2 q.f2.f3 q.f2.f4 q.f2.f5 q.f3) (fun k=>?_) ((same_rt hR).bind (.congr (fun k=>by rw [if_pos rfl]) ((check_rt hR).1.bind j1)));rw [w4TreePlays.l0,if_pos (by omega),if_pos (by omega),if_pos (by omega),← hq]
theorem treePlays_ev (f0 : Bool) (f1 f2 f3 f4 : Int) (l5 : List Int) (ops : List S32) : Evr (fun k=>w4TreePlays.f k f0 f1 f2 f3 f4 l5 ops) true:=by
 by_cases c : (ops.length : Int) > 300
 · refine .congr (f:=fun _=>some true) (fun k=>?_) (.const fun _=>rfl)
   unfold w4TreePlays.f;rw [show w4anchor.f k = some true from rfl,Option.bind_some,if_pos rfl,if_pos c]
 · refine .congr (fun k=>?_) (plays_l0 ops (by omega) ops.length 0 _ 0 (by omega) (one_rt f1 f2 f3 f4))
   unfold w4TreePlays.f;rw [show w4anchor.f k = some true from rfl,Option.bind_some,if_pos rfl,if_neg c]
   rfl
end Go.Proofs.YtbblomnhobodkaaDoor.Pure
namespace Go.Proofs.YtbblomnhobodkaaDoor.Pure
open Go.RowKit Go.Proofs.YtbblomnhobodkaaDoor Go.Proofs.YtbblomnhobodkaaDoor.PTw Go.Proofs.YtbblomnhobodkaaDoorW.PW
theorem TreePlays : w4TreePlays.Pure:=by
 intro f0 f1 f2 f3 f4 l5 ops _ _ _ _ _ _;obtain ⟨K,hK⟩:=treePlays_ev f0 f1 f2 f3 f4 l5 ops;exact ⟨K,hK K (Nat.le_refl _)⟩
end Go.Proofs.YtbblomnhobodkaaDoor.Pure
set_option linter.unusedVariables false
set_option linter.unusedSimpArgs false
namespace Go.Proofs.YtbblomnhobodkaaDoor
open Go.ChangeShapes Go.WideShapes Go.ChangeAt Go.RowKit
def laidL {H : Type} : List (String × DataW H):=[("math/bits.deBruijn32tab",Rows.laid_math_bits_deBruijn32tab),("math/bits.deBruijn64tab",Rows.laid_math_bits_deBruijn64tab)]
theorem g64 : Tryd.prog.globalNamed "math/bits.deBruijn64tab" = some 1:=by kernel_rfl
theorem ty64 : (Tryd.prog.globals[1]?).map (·.type) = some 99:=by kernel_rfl
theorem datum64 {H : Type} : (Rows.laid_math_bits_deBruijn64tab : DataW H) = .agg (Lib.deBruijn64tab.map fun (n : Nat)=>.lit (.int .u8 n)):=rfl
theorem door_met (os : Os) (args : Array Value) : laidMetH Tryd.prog laidL ((World.doorLaid Tryd.prog 4000 os).forCall (fun _ _=>0) ⟨#[],args,[]⟩).memory:=
 laidMetH_of_parts3 (fuel:=8) (laidMet_of_run' 8 (by kernel_rfl) (by kernel_rfl)) (by kernel_rfl) (by kernel_rfl)
theorem of_laid {W : World} (h : laidMetH Tryd.prog laidL W) : ∀ j,j < Lib.deBruijn64tab.length→W.cell? ⟨1,j,none⟩ = some (.int .u8 (Lib.deBruijn64tab.getD j 0)):=by
 rw [MakeChecks.laidMetH_plain _ _ _ (by kernel_rfl)] at h;obtain ⟨ps,⟨g0,t0,cs0,f0,p0,q0,hg0,ht0,hv0,hd0,⟨g1,t1,cs1,f1,p1,q1,hg1,ht1,hv1,hd1,_,_⟩,_⟩,_,_⟩:=h;obtain rfl:=Option.some.inj (g64.symm.trans hg1);obtain rfl:=Option.some.inj (ty64.symm.trans ht1);obtain ⟨xs,m1,rfl,hx1,hlen,hn3,hel⟩:=DataW.trod_array Tryd.underlying99 hd1
 have c5 : Tryd.prog.cellsOf 5 = 1:=by kernel_rfl
 rw [datum64] at hx1;simp only [Prod.mk.injEq,DataW.agg.injEq] at hx1;intro j hj;have hj64 : j < 64:=hj;have h0:=hel j hj64;rw [List.getElem?_eq_getElem (by omega),c5] at h0;obtain ⟨k,e1,e2,_⟩:=DataW.trod_int Tryd.underlying5 h0;have hk:=congrArg (fun l=>l[j]?) hx1.1;simp only [List.getElem?_map,List.getElem?_eq_getElem (show j < xs.length by omega),List.getElem?_eq_getElem hj,Option.map_some,e2,Option.some.injEq,DataW.lit.injEq,Lit.int.injEq,true_and] at hk;rw [World.var?_cell hg1 hv1 j,List.getD_eq_getElem?_getD,List.getElem?_eq_getElem hj,Option.getD_some,hk]
 have:=congrArg (fun l=>l[0]?) e1
 simp only [Nat.mul_one,List.getElem?_take,List.getElem?_drop,Nat.add_zero] at this
 simpa using this
end Go.Proofs.YtbblomnhobodkaaDoor
