/- TreeBack returns true at every input, and its arguments read as they did: the tied card (math/bits' tables as the program's text lays them). -/
import Derived.Test.YtbblomnhobodkaaDoorRows
import Derived.Test.YtbblomnhobodkaaDoorRowO
import Derived.Test.YtbblomnhobodkaaDoorCards
import Derived.Test.YtbblomnhobodkaaDoorTie
import Derived.Test.YtbblomnhobodkaaDoorDoor
import Derived.LaidMore
import Derived.Stop.Joined
import Derived.SevenTiedAt
import Derived.WalkKit
import Derived.ProofKit
import Derived.OpenShut
import Derived.ShutString
import Derived.ChangeOld
import Derived.Below
import Derived.SizedLaws
namespace Go.Proofs.YtbblomnhobodkaaDoor.treeBack
open Go.ChangeShapes Go.WideShapes Go.ChangeAt Go.RowKit
open Go.ChangeMaps (open_string shut_string)
set_option linter.unusedVariables false
theorem own : ownKnob Tryd.prog.godebug = none:=by kernel_rfl
theorem laidOut : laidOutB Tryd.prog = true:=by kernel_rfl
set_option maxRecDepth 100000 in
theorem lifted (os : Os) (started : os.Started) (H : Type) (enc : TypeId × Value→H) :
 ReturnsInHanded {} Tryd.checked os 8 .any (fun w args=>(Rows.treeBackSpec.pre enc Tryd.prog Tryd.f8 Rows.treeBackRow.domain false w args∧laidMetH Tryd.prog laidL w)∧sizedMet enc Tryd.prog Tryd.f8 (OpenSpec.ofChange Rows.treeBackSpec) false w args)
  (Rows.treeBackSpec.post enc Tryd.prog Tryd.f8 false true false false):=by
 refine returnsInHanded_of_change_and (C:=Tryd.checked) (X:=fun w _=>laidMetH Tryd.prog laidL w) (fun _ _ _ hh h=>h.of_heap hh) own started (by kernel_rfl) Tryd.func8
  (ChangeSpec.witness_shaped (enc:=enc) (C:=Tryd.checked) (os:=os) (X:=fun w _=>laidMetH Tryd.prog laidL w) false (World.doorLaid Tryd.prog 4000 os) #[.agg #[.bool false,.int .i64 0,.int .i64 0,.int .i64 0,.int .i64 0,.slice none 0 0],.slice none 0 0,.agg #[.bool false,.int .i64 0,.int .i64 0,.int .i64 0,.int .i64 0,.slice none 0 0]] 8 rfl (World.shaped_of_RefB (by kernel_rfl) (by kernel_rfl)) (by kernel_rfl) (by kernel_rfl) (by kernel_rfl) (door_met os _)) ?_
 intro W base args ds gs before hval0 hW hcnd hsz0 hL _
 have hval : ∀ (j : Nat) t v,Tryd.f8.params[j]? = some t→args[j]? = some v→Value.okWide Tryd.prog W .any base t v:=hval0
 have hW':=hW
 obtain ⟨p,q,hA0,hV,rfl,hfz,hnd⟩:=hW
 have hA : DataW.TrodAll enc Tryd.prog W 0 (fun _=>true) true Tryd.f8.params.toList args.toList ds p:=hA0
 rw [Tryd.params8] at hA hval
 obtain ⟨v0,vs0,d0,ds0,p0,q0,hargs,rfl,rfl,h0,r0⟩:=trodAll_cons hA
 obtain ⟨v1,vs1,d1,ds1,p1,q1,rfl,rfl,rfl,h1,r1⟩:=trodAll_cons r0
 obtain ⟨v2,vs2,d2,ds2,p2,q2,rfl,rfl,rfl,h2,r2⟩:=trodAll_cons r1
 obtain ⟨rfl,rfl,rfl⟩:=trodAll_nil r2
 obtain rfl : args = #[v0,v1,v2]:=by cases args;simp_all
 obtain ⟨rfl,rfl⟩:=trodVars_none hV
 have k0:=h0
 have lt0 : ∀ x ∈ p0,x.block < W.heap.size:=by obtain ⟨m,hm⟩:=k0;exact DataW.trod_lt m _ _ _ hm
 obtain ⟨cs0,rfl,hs0,hf0⟩:=open_agg_fields Tryd.underlying29 (by kernel_rfl) (by kernel_rfl) (hval 0 29 v0 rfl rfl) h0
 obtain ⟨u0_0,y0_0,n0_0,e0_0,t0_0⟩:=hf0 0 _ rfl
 obtain ⟨a0_0,b0_0,_⟩:=DataW.trod_bool Tryd.underlying4 t0_0
 simp at b0_0
 subst b0_0
 obtain ⟨u0_1,y0_1,n0_1,e0_1,t0_1⟩:=hf0 1 _ rfl
 obtain ⟨a0_1,b0_1,_,w0_1⟩:=DataW.trod_int Tryd.underlying3 t0_1
 simp at b0_1
 subst b0_1
 obtain ⟨u0_2,y0_2,n0_2,e0_2,t0_2⟩:=hf0 2 _ rfl
 obtain ⟨a0_2,b0_2,_,w0_2⟩:=DataW.trod_int Tryd.underlying3 t0_2
 simp at b0_2
 subst b0_2
 obtain ⟨u0_3,y0_3,n0_3,e0_3,t0_3⟩:=hf0 3 _ rfl
 obtain ⟨a0_3,b0_3,_,w0_3⟩:=DataW.trod_int Tryd.underlying3 t0_3
 simp at b0_3
 subst b0_3
 obtain ⟨u0_4,y0_4,n0_4,e0_4,t0_4⟩:=hf0 4 _ rfl
 obtain ⟨a0_4,b0_4,_,w0_4⟩:=DataW.trod_int Tryd.underlying3 t0_4
 simp at b0_4
 subst b0_4
 obtain ⟨u0_5,y0_5,n0_5,e0_5,t0_5⟩:=hf0 5 _ rfl
 obtain ⟨A0_5,c0_5,l0_5,rfl,hc0_5,hr0_5,w0_5a,w0_5b⟩:=inner_ints t0_5
 obtain rfl : cs0 = #[.bool a0_0,.int .i64 a0_1,.int .i64 a0_2,.int .i64 a0_3,.int .i64 a0_4,.slice A0_5 l0_5.length c0_5]:=Array.ext (by rw [hs0];rfl) (fun j h1 h2=>by
  have hj : j < 6:=h2
  have:=Array.getElem?_eq_getElem h1
  rcases (by omega : j = 0∨j = 1∨j = 2∨j = 3∨j = 4∨j = 5) with rfl | rfl | rfl | rfl | rfl | rfl
  · exact Option.some.inj (this.symm.trans e0_0)
  · exact Option.some.inj (this.symm.trans e0_1)
  · exact Option.some.inj (this.symm.trans e0_2)
  · exact Option.some.inj (this.symm.trans e0_3)
  · exact Option.some.inj (this.symm.trans e0_4)
  · exact Option.some.inj (this.symm.trans e0_5))
 have k1:=h1
 have lt1 : ∀ x ∈ p1,x.block < W.heap.size:=by obtain ⟨m,hm⟩:=k1;exact DataW.trod_lt m _ _ _ hm
 obtain ⟨A1,len1,c1,rfl⟩:=okWide_slice Tryd.underlying30 (hval 1 30 v1 rfl rfl)
 obtain ⟨l1,rfl,hr1,w1,hc1⟩ : ∃ z,len1 = z.length∧Go.Proofs.YtbblomnhobodkaaDoorW.PW.Kd.C PTw.k32 W A1 z.length z∧(∀ o ∈ z,PTw.WfOp o)∧z.length≤c1:=by
  obtain ⟨fuel,hf⟩:=h1
  exact open_ops hf
 have k2:=h2
 have lt2 : ∀ x ∈ p2,x.block < W.heap.size:=by obtain ⟨m,hm⟩:=k2;exact DataW.trod_lt m _ _ _ hm
 obtain ⟨cs2,rfl,hs2,hf2⟩:=open_agg_fields Tryd.underlying29 (by kernel_rfl) (by kernel_rfl) (hval 2 29 v2 rfl rfl) h2
 obtain ⟨u2_0,y2_0,n2_0,e2_0,t2_0⟩:=hf2 0 _ rfl
 obtain ⟨a2_0,b2_0,_⟩:=DataW.trod_bool Tryd.underlying4 t2_0
 simp at b2_0
 subst b2_0
 obtain ⟨u2_1,y2_1,n2_1,e2_1,t2_1⟩:=hf2 1 _ rfl
 obtain ⟨a2_1,b2_1,_,w2_1⟩:=DataW.trod_int Tryd.underlying3 t2_1
 simp at b2_1
 subst b2_1
 obtain ⟨u2_2,y2_2,n2_2,e2_2,t2_2⟩:=hf2 2 _ rfl
 obtain ⟨a2_2,b2_2,_,w2_2⟩:=DataW.trod_int Tryd.underlying3 t2_2
 simp at b2_2
 subst b2_2
 obtain ⟨u2_3,y2_3,n2_3,e2_3,t2_3⟩:=hf2 3 _ rfl
 obtain ⟨a2_3,b2_3,_,w2_3⟩:=DataW.trod_int Tryd.underlying3 t2_3
 simp at b2_3
 subst b2_3
 obtain ⟨u2_4,y2_4,n2_4,e2_4,t2_4⟩:=hf2 4 _ rfl
 obtain ⟨a2_4,b2_4,_,w2_4⟩:=DataW.trod_int Tryd.underlying3 t2_4
 simp at b2_4
 subst b2_4
 obtain ⟨u2_5,y2_5,n2_5,e2_5,t2_5⟩:=hf2 5 _ rfl
 obtain ⟨A2_5,c2_5,l2_5,rfl,hc2_5,hr2_5,w2_5a,w2_5b⟩:=inner_ints t2_5
 obtain rfl : cs2 = #[.bool a2_0,.int .i64 a2_1,.int .i64 a2_2,.int .i64 a2_3,.int .i64 a2_4,.slice A2_5 l2_5.length c2_5]:=Array.ext (by rw [hs2];rfl) (fun j h1 h2=>by
  have hj : j < 6:=h2
  have:=Array.getElem?_eq_getElem h1
  rcases (by omega : j = 0∨j = 1∨j = 2∨j = 3∨j = 4∨j = 5) with rfl | rfl | rfl | rfl | rfl | rfl
  · exact Option.some.inj (this.symm.trans e2_0)
  · exact Option.some.inj (this.symm.trans e2_1)
  · exact Option.some.inj (this.symm.trans e2_2)
  · exact Option.some.inj (this.symm.trans e2_3)
  · exact Option.some.inj (this.symm.trans e2_4)
  · exact Option.some.inj (this.symm.trans e2_5))
 clear hA0 hval0
 refine (PTw.treeBack_walk a0_0 a0_1 a0_2 a0_3 a0_4 A0_5 c0_5 l0_5 A1 c1 l1 a2_0 a2_1 a2_2 a2_3 a2_4 A2_5 c2_5 l2_5 W (of_laid hL) hr0_5 hc0_5 hr1 hc1 hr2_5 hc2_5).mono fun e W' ⟨he,bel⟩=>?_
 subst he
 exact ⟨_,rfl,_,_,_,[],_,[],hW',trodAll_mk1 (shut_bool Tryd.underlying4 _),(trodAll_cons_mk (Below.trod laidOut (by kernel_rfl) (of_decide_eq_true (by kernel_rfl)) k0 bel lt0) (trodAll_cons_mk (Below.trod laidOut (by kernel_rfl) (of_decide_eq_true (by kernel_rfl)) k1 bel lt1) (trodAll_cons_mk (Below.trod laidOut (by kernel_rfl) (of_decide_eq_true (by kernel_rfl)) k2 bel lt2) trodAll_mk0))),rfl,bel.frame _,fun h=>by cases h⟩
theorem over : Rows.treeBackRow.holds Tryd.pinned (OpenSpec.ofChange Rows.treeBackSpec):=
 OpenClaim.holds_of_wide 8 Tryd.f8 rfl rfl rfl rfl rfl rfl rfl ⟨rfl,rfl,rfl,rfl,rfl⟩ rfl rfl rfl rfl rfl (by kernel_rfl) Tryd.func8 (by kernel_rfl)
  (of_decide_eq_true (by kernel_rfl)) (by unfold Func.isWrapper;first | (rw [if_pos (by decide +kernel)];kernel_rfl) | (rw [if_neg (by decide +kernel)];exact ⟨rfl,rfl⟩))
  (fun os started H enc _=>lifted os started H enc)
theorem proved : Rows.TreeBackCardSaid:=
 Claim7.holds_tied_plain_at .later [] [.data,.data] true (true, "0101acfa713fa29e5e466cea1ea4c20c7cdaef73b5785793732e520e87994c9b") false
  over (fun _ h=>by cases h) (by kernel_rfl) (fun _ h=>by cases h) treeBack_row_tie rfl ⟨rfl,rfl⟩ (by kernel_rfl) rfl
  (fun f fn hf hfn=>by
   obtain rfl : f = 8:=Option.some.inj ((show Tryd.prog.funcNamed "conclave/conclavelaw04.TreeBack" = some 8 by kernel_rfl).symm.trans hf) |>.symm
   obtain rfl : fn = Tryd.f8:=(Option.some.inj (Tryd.func8.symm.trans hfn)).symm
   exact ⟨by kernel_rfl,fun j t ht=>by
    rw [Tryd.params8] at ht
    have hm : t ∈ ([29,30,29] : List Nat):=by
     have:=Array.mem_of_getElem? ht
     simpa using this
    have hall : (([29,30,29] : List Nat).all fun u=>!Tryd.prog.wantsStandIn u) = true:=by kernel_rfl
    exact (show Tryd.prog.wantsStandIn t = false by simpa using List.all_eq_true.1 hall t hm)⟩)
  (by kernel_rfl)
#print axioms proved
end Go.Proofs.YtbblomnhobodkaaDoor.treeBack
namespace Go.Proofs.YtbblomnhobodkaaDoor
theorem treeBack_holds : Rows.TreeBackCardSaid:=treeBack.proved
end Go.Proofs.YtbblomnhobodkaaDoor
