/- What this claim reaches of longer texts of this session. -/
import Derived.Test.YtbblomnhobodkaaDoorPureTreeReachesF
import Derived.Test.YtbblomnhobodkaaDoorRowO
import Derived.Test.YtbblomnhobodkaaDoorRows
import Derived.ProofKit
import Derived.LaidMore
import Derived.OpenShut
import Derived.Stop.Joined
import Derived.Lib.TrailingZeros
set_option linter.unusedVariables false
set_option linter.unusedSimpArgs false
namespace Go.Proofs.YtbblomnhobodkaaDoor.Pure
open Go.RowKit Go.Proofs.YtbblomnhobodkaaDoor Go.Proofs.YtbblomnhobodkaaDoor.PTw Go.Proofs.YtbblomnhobodkaaDoorW.PW
section
variable {i n : Int} {t : List S29} {cop : List Int} {M : List Int} {Mn Mi : Int} {C : List Int} {Cn Ci : Int} {R : List Int} {Rn Ri : Int} {res : Bool}
theorem wrap_inc {x : Nat} (h : x < 1000000) : wrap64 ((x : Int) + 1) = ((x + 1 : Nat) : Int):=by rw [wrap_id (by omega)];omega
theorem wrap_dbl2 {x : Nat} (h : x < 1000000) : wrap64 (2 * (x : Int)) = 2 * (x : Int):=wrap_id (by omega)
theorem rch_l3 {j : Int} {kc x : Int} (L : List Int) (hL : L.length≤1000) : ∀ (d q : Nat) (b : Bool),d + q = L.length→Evr (fun k=>(r3Under.f k (wrap64 (2 * j)) x n).bind fun u=>if u = true then (if (b || decide (j ∈ L.drop q)) = true then w4TreeReaches.l2 k i t n cop j kc M Mn Mi C Cn Ci R Rn (wrap64 (Ri + 1)) else w4TreeReaches.l2 k i t n cop j (wrap64 (kc + 1)) M Mn Mi C Cn Ci R Rn (wrap64 (Ri + 1))) else w4TreeReaches.l2 k i t n cop j kc M Mn Mi C Cn Ci R Rn (wrap64 (Ri + 1))) res→
 Evr (fun k=>w4TreeReaches.l3 k i t n cop j kc x b M Mn Mi C Cn Ci R Rn Ri L (L.length : Int) (q : Int)) res:=by
 intro d
 induction d with
 | zero=>
  intro q b hd h
  rw [List.drop_eq_nil_of_le (by omega),decide_eq_false (List.not_mem_nil),Bool.or_false] at h
  exact .succ (fun k=>by rw [w4TreeReaches.l3,if_neg (by omega)]) h
 | succ d ih=>
  intro q b hd h
  have hq : q < L.length:=by omega
  have eq:=wrap_inc (x:=q) (by omega)
  have h1 : (q : Int) < (L.length : Int):=by omega
  have h2 : (0 : Int)≤(q : Int):=Int.natCast_nonneg q
  cases b with
  | true=>exact .succ (fun k=>by rw [w4TreeReaches.l3,if_pos h1,if_pos h2,if_pos h1,if_pos rfl,eq]) (ih (q + 1) true (by omega) (by simpa using h))
  | false=>
   refine .succ (fun k=>by rw [w4TreeReaches.l3,if_pos h1,if_pos h2,if_pos h1,if_neg (by decide),eq,rd_nth hq]) (ih (q + 1) (L[q] == j) (by omega) ?_)
   have e : ((L[q] == j) || decide (j ∈ L.drop (q + 1))) = (false || decide (j ∈ L.drop q)):=by
    rw [List.drop_eq_getElem_cons hq,Bool.false_or]
    by_cases c : L[q] = j
    · have h2 : decide (j ∈ L[q] :: L.drop (q + 1)) = true:=decide_eq_true (by rw [c];exact List.mem_cons_self ..)
      rw [h2,beq_iff_eq.2 c,Bool.true_or]
    · rw [beq_eq_false_iff_ne.2 c,Bool.false_or,decide_eq_decide,List.mem_cons]
      exact ⟨.inr,fun hh=>hh.resolve_left fun e=>c e.symm⟩
   rw [e]
   exact h
theorem rch_at {j kc : Int} {y : Int} {k : Nat} {q : Int} (h1 : q < Rn) (h2 : 0≤q) (h3 : q < (R.length : Int)) (hy : rd R q = y) (g1 : ¬ y < 0) (g2 : ¬ y≥(t.length : Int)) (g3 : 0≤y) (g4 : y < (t.length : Int)) (hf : (rd_T29 t y).f0 = true) :
 w4TreeReaches.l2 (k + 1) i t n cop j kc M Mn Mi C Cn Ci R Rn q = w4TreeReaches.j4 k i t n cop j kc y M Mn Mi C Cn Ci R Rn q false:=by
 rw [w4TreeReaches.l2,if_pos h1,if_pos h2,if_pos h3,hy,if_neg g1,if_neg g2,if_pos g3,if_pos g4,hf]
 rfl
theorem rch_l2 {m j : Nat} (hR : RT t m) (hj : j < 2 ^ m) (hn : n = ((2 ^ m : Nat) : Int)) (hmem : ∀ y ∈ R,∃ z : Nat,y = (z : Int)∧z < 2 * 2 ^ m - 1∧(VX t z).f0 = true) (hr : R.length≤100000) : ∀ (d q kc : Nat),d + q = R.length→kc + d≤500000→
 Evr (fun k=>w4TreeReaches.l1 k i t n cop (j : Int) ((kc + covL t m j (R.drop q) : Nat) : Int) M Mn Mi C Cn (wrap64 (Ci + 1))) res→Evr (fun k=>w4TreeReaches.l2 k i t n cop (j : Int) (kc : Int) M Mn Mi C Cn Ci R (R.length : Int) (q : Int)) res:=by
 have hm:=hR.hm
 have hp:=pow_le32 hm
 have hlen:=hR.len
 intro d
 induction d with
 | zero=>
  intro q kc hd _ h
  rw [List.drop_eq_nil_of_le (by omega)] at h
  exact .succ (fun k=>by rw [w4TreeReaches.l2,if_neg (by omega)];rfl) h
 | succ d ih=>
  intro q kc hd hk h
  have hq : q < R.length:=by omega
  obtain ⟨z,h1,h2,h3⟩:=hmem _ (List.getElem_mem hq)
  have hat : rd R (q : Int) = (z : Int):=by rw [rd_nth hq,h1]
  have hqb : q < 1000000:=by omega
  have hkb : kc < 1000000:=by omega
  have hjb : j < 1000000:=by omega
  have hrf : (rd_T29 t (z : Int)).f0 = true:=h3
  have hl32:=(hR.rg.lates z).2
  have hu:=und_at hm hj (x:=z) h2
  rw [List.drop_eq_getElem_cons hq,covL_cons,h1] at h
  have ecv : cv t m j (z : Int) = b1 (uB m j z && !(decide ((j : Int) ∈ (VX t z).f5))):=by unfold cv;rw [Int.toNat_natCast]
  rw [ecv] at h
  have z1 : ¬ (z : Int) < 0:=Int.not_lt.2 (Int.natCast_nonneg z)
  have z2 : ¬ (z : Int)≥(t.length : Int):=by omega
  have z3 : (0 : Int)≤(z : Int):=Int.natCast_nonneg z
  have z4 : (z : Int) < (t.length : Int):=by omega
  have q1 : (q : Int) < (R.length : Int):=Int.ofNat_lt.2 hq
  have q2 : (0 : Int)≤(q : Int):=Int.natCast_nonneg q
  refine .succ (f:=fun k=>w4TreeReaches.j4 k i t n cop (j : Int) (kc : Int) (z : Int) M Mn Mi C Cn Ci R (R.length : Int) (q : Int) false) (fun k=>rch_at q1 q2 q1 hat z1 z2 z3 z4 hrf) (.succ (f:=fun k=>w4TreeReaches.l3 k i t n cop (j : Int) (kc : Int) (z : Int) false M Mn Mi C Cn Ci R (R.length : Int) (q : Int) (VX t z).f5 ((VX t z).f5.length : Int) ((0 : Nat) : Int)) (fun k=>?_) (rch_l3 (VX t z).f5 (by omega) (VX t z).f5.length 0 false (by omega) ?_))
  · rw [w4TreeReaches.j4,if_neg (by decide),if_pos z3,if_pos z4]
    rfl
  · rw [List.drop_zero,Bool.false_or,wrap_dbl2 hjb,wrap_inc hqb,wrap_inc hkb,hn]
    rw [hn] at ih h
    refine hu.bind ?_
    by_cases c1 : uB m j z = true
    · have c1' : (decide (z ∈ pathN j m) || decide (z = 2 * j)) = true:=c1
      rw [c1']
      by_cases c2 : (j : Int) ∈ (VX t z).f5
      · rw [c1,decide_eq_true c2] at h
        rw [decide_eq_true c2]
        refine .congr (fun k=>by rw [if_pos rfl,if_pos rfl]) (ih (q + 1) kc (by omega) (by omega) ?_)
        have e0 : b1 (true && !true) + covL t m j (R.drop (q + 1)) = covL t m j (R.drop (q + 1)):=Nat.zero_add _
        rw [e0] at h
        exact h
      · rw [c1,decide_eq_false c2] at h
        rw [decide_eq_false c2]
        refine .congr (fun k=>by rw [if_pos rfl,if_neg (by decide)]) (ih (q + 1) (kc + 1) (by omega) (by omega) ?_)
        have e0 : kc + (b1 (true && !false) + covL t m j (R.drop (q + 1))) = kc + 1 + covL t m j (R.drop (q + 1)):=(Nat.add_assoc kc 1 _).symm
        rw [e0] at h
        exact h
    · have c0 : uB m j z = false:=by simpa using c1
      have c1' : (decide (z ∈ pathN j m) || decide (z = 2 * j)) = false:=c0
      rw [c1']
      rw [c0] at h
      refine .congr (fun k=>by rw [if_neg (by decide)]) (ih (q + 1) kc (by omega) (by omega) ?_)
      have e0 : b1 (false && !(decide ((j : Int) ∈ (VX t z).f5))) + covL t m j (R.drop (q + 1)) = covL t m j (R.drop (q + 1)):=Nat.zero_add _
      rw [e0] at h
      exact h
theorem covL_le (m j : Nat) : ∀ (xs : List Int),covL t m j xs≤xs.length
 | []=>Nat.le_refl _
 | x :: xs=>by
  rw [covL_cons,List.length_cons]
  have h1:=covL_le m j xs
  have h2 : cv t m j x≤1:=by unfold cv b1;split <;> omega
  omega
theorem rch_l1 {m j : Nat} (hR : RT t m) (hj : j < 2 ^ m) (hn : n = ((2 ^ m : Nat) : Int)) (D : List Nat) (hD : ∀ c ∈ D,c < 2 * 2 ^ m - 1) (hd5 : D.length≤5) (hC : C = ints D) : ∀ (d q kc : Nat),d + q = D.length→kc≤10000 * q→
 Evr (fun k=>if (j : Int) = i then (if ((kc + ((D.drop q).map (fun c=>covL t m j (resN t (lvN c) c))).sum : Nat) : Int) = 0 then w4TreeReaches.l0 k i t n cop M Mn (wrap64 (Mi + 1)) else some false) else (if ((kc + ((D.drop q).map (fun c=>covL t m j (resN t (lvN c) c))).sum : Nat) : Int) = 1 then w4TreeReaches.l0 k i t n cop M Mn (wrap64 (Mi + 1)) else some false)) res→
 Evr (fun k=>w4TreeReaches.l1 k i t n cop (j : Int) (kc : Int) M Mn Mi C (C.length : Int) (q : Int)) res:=by
 subst hC
 have hm:=hR.hm
 have hp:=pow_le32 hm
 have hlen:=hR.len
 have el:=ints_len D
 intro d
 induction d with
 | zero=>
  intro q kc hd _ h
  rw [List.drop_eq_nil_of_le (by omega)] at h
  exact .succ (fun k=>by rw [w4TreeReaches.l1,if_neg (by omega)];rfl) h
 | succ d ih=>
  intro q kc hd hk h
  have hq : q < D.length:=by omega
  have hc:=hD _ (List.getElem_mem hq)
  have hlv:=(lv_at hm hc).1
  have hk2 : 2 ^ lvN D[q]≤32:=(pow_le32 (by omega)).2
  have hrl:=resN_len hR.lateSm (lvN D[q]) D[q]
  have htr:=tres_ev hm hlen hR.lateSm (lvN D[q]) D[q] rfl (by rw [hlen];exact hc)
  have hcl:=covL_le (t:=t) m j (resN t (lvN D[q]) D[q])
  have hqb : q < 1000000:=by omega
  have hmem:=res_mem hR (lvN D[q]) D[q] rfl hc
  rw [List.drop_eq_getElem_cons hq,List.map_cons,List.sum_cons] at h
  have q1 : (q : Int) < ((ints D).length : Int):=by rw [el];exact Int.ofNat_lt.2 hq
  have q2 : (0 : Int)≤(q : Int):=Int.natCast_nonneg q
  refine .succ (f:=fun k=>(tree_Resolution.f k t (D[q] : Int)).bind fun r=>w4TreeReaches.l2 k i t n cop (j : Int) (kc : Int) M Mn Mi (ints D) ((ints D).length : Int) (q : Int) r (r.length : Int) ((0 : Nat) : Int)) (fun k=>?_) (htr.bind (rch_l2 hR hj hn hmem (by omega) (resN t (lvN D[q]) D[q]).length 0 kc (by omega) (by omega) ?_))
  · rw [w4TreeReaches.l1,if_pos q1,if_pos q2,if_pos q1,ints_at hq]
    rfl
  · rw [List.drop_zero,wrap_inc hqb]
    refine ih (q + 1) _ (by omega) (by omega) ?_
    have e0 : kc + covL t m j (resN t (lvN D[q]) D[q]) + ((D.drop (q + 1)).map (fun c=>covL t m j (resN t (lvN c) c))).sum = kc + (covL t m j (resN t (lvN D[q]) D[q]) + ((D.drop (q + 1)).map (fun c=>covL t m j (resN t (lvN c) c))).sum):=Nat.add_assoc _ _ _
    rw [e0]
    exact h
end
theorem rch_l0 {t : List S29} {m a : Nat} (hR : RT t m) (ha : a < 2 ^ m) : ∀ (d q : Nat),d + q = (fullN t 0 (2 ^ m)).length→Evr (fun k=>w4TreeReaches.l0 k (a : Int) t ((2 ^ m : Nat) : Int) (ints (fC t a m)) (ints (fullN t 0 (2 ^ m))) ((ints (fullN t 0 (2 ^ m))).length : Int) (q : Int)) true:=by
 have hm:=hR.hm
 have hp:=pow_le32 hm
 have hlen:=hR.len
 obtain ⟨nn,hnn⟩ : ∃ nn : Nat,nn = 2 ^ m:=⟨_,rfl⟩
 have hfl : (fullN t 0 (2 ^ m)).length≤32:=by
  have : (fullN t 0 (2 ^ m)).length≤(List.range' 0 (2 ^ m)).length:=List.length_filter_le _ _
  rw [List.length_range'] at this
  omega
 have hcl : (fC t a m).length≤5:=by
  have h2:=(fC_sub t a m).length_le
  have : (copN a m).length = m:=by simp [copN]
  omega
 have m1:=members_ev hlen hp.1 (by omega)
 have m2:=rmembers_ev hlen hp.1 (by omega)
 have hfm : ∀ j ∈ fullN t 0 (2 ^ m),j < 2 ^ m∧(VX t (2 * j)).f0 = true:=fun j hj=>fullN_mem.1 hj
 generalize fullN t 0 (2 ^ m) = F at *
 have el:=ints_len F
 intro d
 induction d with
 | zero=>
  intro q hd
  refine .succ (f:=fun k=>(tree_Members.f k t).bind fun x=>(r4Members.f k t).bind fun y=>some ((x.length : Int) == (y.length : Int))) (fun k=>by rw [w4TreeReaches.l0,if_neg (by omega)]) (m1.bind (m2.bind (.const fun k=>by simp)))
 | succ d ih=>
  intro q hd
  have hq : q < F.length:=by omega
  obtain ⟨j1,j2⟩:=hfm _ (List.getElem_mem hq)
  have hat:=ints_at hq
  generalize F[q] = j at *
  have hqb : q < 1000000:=by omega
  have hnx:=ih (q + 1) (by omega)
  have hcov:=copath_cov hR ha j1 j2
  have q1 : (q : Int) < ((ints F).length : Int):=by rw [el];exact Int.ofNat_lt.2 hq
  have q2 : (0 : Int)≤(q : Int):=Int.natCast_nonneg q
  have j3 : ¬ (j : Int) < 0:=Int.not_lt.2 (Int.natCast_nonneg j)
  have j4 : ¬ (j : Int)≥((2 ^ m : Nat) : Int):=fun h=>Nat.not_lt.2 (Int.ofNat_le.1 h) j1
  refine .succ (f:=fun k=>w4TreeReaches.j1 k (a : Int) t ((2 ^ m : Nat) : Int) (ints (fC t a m)) (j : Int) (ints F) ((ints F).length : Int) (q : Int) false) (fun k=>?_) (.succ (f:=fun k=>w4TreeReaches.l1 k (a : Int) t ((2 ^ m : Nat) : Int) (ints (fC t a m)) (j : Int) ((0 : Nat) : Int) (ints F) ((ints F).length : Int) (q : Int) (ints (fC t a m)) ((ints (fC t a m)).length : Int) ((0 : Nat) : Int)) (fun k=>?_) (rch_l1 hR j1 rfl (fC t a m) (fun c hc=>copN_lt hm ha ((fC_sub t a m).subset hc)) hcl rfl (fC t a m).length 0 0 (by omega) (Nat.le_refl _) ?_))
  · rw [w4TreeReaches.l0,if_pos q1,if_pos q2,if_pos q1,hat,if_neg j3,decide_eq_false j4]
  · rw [w4TreeReaches.j1,if_neg (by decide)]
    rfl
  · rw [List.drop_zero,Nat.zero_add,hcov,wrap_inc hqb]
    by_cases c : j = a
    · refine .congr (fun k=>?_) hnx
      rw [if_pos (by rw [c]),decide_eq_false (fun h=>h c)]
      exact if_pos rfl
    · refine .congr (fun k=>?_) hnx
      rw [if_neg (show ¬ (j : Int) = (a : Int) from fun h=>c (Int.ofNat.inj h)),decide_eq_true c]
      exact if_pos rfl
theorem treeReaches_ev (f0 : Bool) (f1 f2 f3 f4 : Int) (l5 : List Int) (ops : List S32) (a : Int) : Evr (fun k=>w4TreeReaches.f k f0 f1 f2 f3 f4 l5 ops a) true:=by
 obtain ⟨t,m,hR,hg⟩:=grown_ev f0 f1 f2 f3 f4 l5 ops
 have hm:=hR.hm
 have hp:=pow_le32 hm
 have hlen:=hR.len
 refine .congr (fun k=>?_) (hg.bind (f:=fun k t=>(r4Leaves.f t).bind fun n=>(r4Full.f t a).bind fun b=>if b = true then ((tree_Filtered.f k t a).bind fun p=>(tree_Members.f k t).bind fun M=>w4TreeReaches.l0 k a t n p.2 M (M.length : Int) 0) else some true) (.congr (f:=fun k=>if fullB t (2 ^ m) a = true then ((tree_Filtered.f k t a).bind fun p=>(tree_Members.f k t).bind fun M=>w4TreeReaches.l0 k a t ((2 ^ m : Nat) : Int) p.2 M (M.length : Int) 0) else some true) (fun k=>?_) ?_))
 · unfold w4TreeReaches.f
   rw [show w4anchor.f k = some true from rfl,Option.bind_some,if_pos rfl]
 · rw [(leaves_at hlen hp.1 (by omega)).1,Option.bind_some,(full_same hlen hp.1 (by omega) _).1,Option.bind_some]
 cases hf : fullB t (2 ^ m) a with
 | false=>exact .const fun k=>by rw [if_neg (by decide)]
 | true=>
  have hb:=fullB_lt hf
  obtain ⟨n,rfl⟩ : ∃ n : Nat,a = (n : Int):=⟨a.toNat,by omega⟩
  have hn : n < 2 ^ m:=by omega
  have hfl:=(filt_ev hR (n : Int)).1
  have hfr : filtR t m (n : Int) = (fP t n m,fC t n m):=by unfold filtR;rw [if_pos (by omega),Int.toNat_natCast]
  rw [hfr] at hfl
  have m1:=members_ev hlen hp.1 (by omega)
  exact .congr (fun k=>by rw [if_pos rfl]) (hfl.bind (m1.bind (f:=fun k M=>w4TreeReaches.l0 k (n : Int) t ((2 ^ m : Nat) : Int) (ints (fC t n m)) M (M.length : Int) 0) (rch_l0 hR hn (fullN t 0 (2 ^ m)).length 0 (by omega))))
end Go.Proofs.YtbblomnhobodkaaDoor.Pure
namespace Go.Proofs.YtbblomnhobodkaaDoor.Pure
open Go.RowKit Go.Proofs.YtbblomnhobodkaaDoor Go.Proofs.YtbblomnhobodkaaDoor.PTw Go.Proofs.YtbblomnhobodkaaDoorW.PW
theorem TreeReaches : w4TreeReaches.Pure:=by
 intro f0 f1 f2 f3 f4 l5 ops a _ _ _ _ _ _ _
 obtain ⟨K,hK⟩:=treeReaches_ev f0 f1 f2 f3 f4 l5 ops a
 exact ⟨K,hK K (Nat.le_refl _)⟩
end Go.Proofs.YtbblomnhobodkaaDoor.Pure
set_option linter.unusedVariables false
set_option linter.unusedSimpArgs false
namespace Go.Proofs.YtbblomnhobodkaaDoor
open Go.ChangeShapes Go.WideShapes Go.ChangeAt Go.RowKit
def laidL {H : Type} : List (String × DataW H):=[("math/bits.deBruijn32tab",Rows.laid_math_bits_deBruijn32tab),("math/bits.deBruijn64tab",Rows.laid_math_bits_deBruijn64tab)]
theorem g64 : Tryd.prog.globalNamed "math/bits.deBruijn64tab" = some 1:=by kernel_rfl
theorem ty64 : (Tryd.prog.globals[1]?).map (·.type) = some 99:=by kernel_rfl
theorem datum64 {H : Type} : (Rows.laid_math_bits_deBruijn64tab : DataW H) = .agg (Lib.deBruijn64tab.map fun (n : Nat)=>.lit (.int .u8 n)):=rfl
theorem door_met (os : Os) (args : Array Value) : laidMetH Tryd.prog laidL ((World.doorLaid Tryd.prog 4000 os).forCall (fun _ _=>0) ⟨#[],args,[]⟩).memory:=
 laidMetH_of_parts3 (fuel:=8) (laidMet_of_run' 8 (by kernel_rfl) (by kernel_rfl)) (by kernel_rfl) (by kernel_rfl)
theorem of_laid {W : World} (h : laidMetH Tryd.prog laidL W) : ∀ j,j < Lib.deBruijn64tab.length→W.cell? ⟨1,j,none⟩ = some (.int .u8 (Lib.deBruijn64tab.getD j 0)):=by
 rw [MakeChecks.laidMetH_plain _ _ _ (by kernel_rfl)] at h
 obtain ⟨ps,⟨g0,t0,cs0,f0,p0,q0,hg0,ht0,hv0,hd0,⟨g1,t1,cs1,f1,p1,q1,hg1,ht1,hv1,hd1,_,_⟩,_⟩,_,_⟩:=h
 obtain rfl:=Option.some.inj (g64.symm.trans hg1)
 obtain rfl:=Option.some.inj (ty64.symm.trans ht1)
 obtain ⟨xs,m1,rfl,hx1,hlen,hn3,hel⟩:=DataW.trod_array Tryd.underlying99 hd1
 have c5 : Tryd.prog.cellsOf 5 = 1:=by kernel_rfl
 rw [datum64] at hx1
 simp only [Prod.mk.injEq,DataW.agg.injEq] at hx1
 intro j hj
 have hj64 : j < 64:=hj
 have h0:=hel j hj64
 rw [List.getElem?_eq_getElem (by omega),c5] at h0
 obtain ⟨k,e1,e2,_⟩:=DataW.trod_int Tryd.underlying5 h0
 have hk:=congrArg (fun l=>l[j]?) hx1.1
 simp only [List.getElem?_map,List.getElem?_eq_getElem (show j < xs.length by omega),List.getElem?_eq_getElem hj,Option.map_some,e2,Option.some.injEq,DataW.lit.injEq,Lit.int.injEq,true_and] at hk
 rw [World.var?_cell hg1 hv1 j,List.getD_eq_getElem?_getD,List.getElem?_eq_getElem hj,Option.getD_some,hk]
 have:=congrArg (fun l=>l[0]?) e1
 simp only [Nat.mul_one,List.getElem?_take,List.getElem?_drop,Nat.add_zero] at this
 simpa using this
end Go.Proofs.YtbblomnhobodkaaDoor
