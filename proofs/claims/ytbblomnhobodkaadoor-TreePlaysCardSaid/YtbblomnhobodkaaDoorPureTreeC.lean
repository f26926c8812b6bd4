/- What this claim reaches of longer texts of this session. -/
import Derived.Test.YtbblomnhobodkaaDoorPTwx0
import Derived.Deep.Slices
import Derived.Deep.Fields
import Derived.ChangeSame
import Derived.ChangeShapes
import Derived.WideShapes
import Derived.DataShut
import Derived.OpenShut
import Derived.Test.YtbblomnhobodkaaDoorPTwx24
import Derived.Test.YtbblomnhobodkaaDoorPTwx15
import Derived.Test.YtbblomnhobodkaaDoorPTwx14
import Derived.Test.YtbblomnhobodkaaDoorPTwx18
import Derived.Test.YtbblomnhobodkaaDoorPTwx1
import Derived.Test.YtbblomnhobodkaaDoorPTwx7
import Derived.Test.YtbblomnhobodkaaDoorPTwx8
import Derived.Test.YtbblomnhobodkaaDoorPTwx4
import Derived.Test.YtbblomnhobodkaaDoorPTwx32
import Derived.Test.YtbblomnhobodkaaDoorPTwx5
set_option linter.unusedVariables false
set_option linter.unusedSimpArgs false
namespace Go.Proofs.YtbblomnhobodkaaDoor
open Go.ChangeShapes Go.WideShapes Go.Deep Go.RowKit Go.Proofs.YtbblomnhobodkaaDoorW.PW Go.Proofs.YtbblomnhobodkaaDoor.PTw
section
variable {H : Type} {enc : TypeId × Value→H} {P : Program} {w : World} {base b0 : Nat} {r : Reach} {spare : Nat→Bool} {held : Bool}
theorem open_agg_fields {t : TypeId} {fs : Array Field} {v : Value} {d : DataW H} {p : List MemPlace} (hs : P.underlying t = some (.struct fs)) (hone : oneCellFields P fs = true) (hC : P.cellsOf t = fs.size)
 (hv : Value.okWide P w r b0 t v) (h : DataW.Trod enc P w base spare held t v d p) :
 ∃ cs : Array Value,v = .agg cs∧cs.size = fs.size∧∀ (j : Nat) (f : Field),fs[j]? = some f→∃ (u : Value) (y : DataW H × List MemPlace) (n : Nat),cs[j]? = some u∧DataW.trod enc P w base spare held n f.type [u] = some y:=by
 obtain ⟨cs,rfl,hsz⟩:=okWide_struct hs hv;obtain ⟨fuel,hf⟩:=h;obtain ⟨ys,n',hn',hy,hlen,hyl,hfl⟩:=DataW.trod_struct hs hf;refine ⟨cs,rfl,hsz.trans hC,fun j f hj=>?_⟩;obtain ⟨ho,hk⟩:=hone_of hone j f hj;have hjl : j < fs.size:=(Array.getElem?_eq_some_iff.1 hj).1;have hcl : cs.size = fs.size:=hsz.trans hC;have h1:=hfl j f hj;rw [ho,hk] at h1
 have e : ((Value.agg cs).cells.toList.drop j).take 1 = [cs[j]'(by omega)]:=by
  simp only [Value.cells];rw [List.drop_eq_getElem_cons (by simp;omega)]
  simp
 rw [e] at h1;exact ⟨cs[j]'(by omega),_,n',Array.getElem?_eq_getElem (by omega),h1.trans (List.getElem?_eq_getElem (by omega))⟩
end
section
variable {H : Type} {enc : TypeId × Value→H} {W : World}
theorem inner_ints {n : Nat} {v : Value} {y : DataW H × List MemPlace} (h : DataW.trod enc Tryd.prog W 0 (fun _=>true) true n 27 [v] = some y) :
 ∃ (A : Option Addr) (c : Nat) (l : List Int),v = .slice A l.length c∧l.length≤c∧(Kd.int .i64).C W A l.length l∧l.length≤maxLen∧∀ x ∈ l,(Lit.int .i64 x).wf = true:=by
 obtain ⟨A,L,c,zs,rfl,hw⟩ : ∃ A L c zs,v = .slice A L c∧((A = none∧L = 0∧c = 0∧zs = [])∨∃ x,A = some x∧L≤c∧c≤maxLen∧zs.length = c∧(∀ i,i < zs.length→W.cell? (x.add i) = some (.int .i64 (zs.getD i 0)))∧∀ n ∈ zs,(Lit.int .i64 n).wf = true):=by
  rcases open_ints Tryd.underlying27 Tryd.underlying3 (by kernel_rfl) h with ⟨hcs,_⟩ | ⟨x,l,c,zs,hcs,_,hl,hm,hz,_,hcell,hwz⟩
  · simp at hcs
    exact ⟨none,0,0,[],hcs,.inl ⟨rfl,rfl,rfl,rfl⟩⟩
  · simp at hcs
    exact ⟨some x,l,c,zs,hcs,.inr ⟨_,rfl,hl,hm,by simpa using hz,hcell,hwz⟩⟩
 obtain ⟨l,rfl,h1,h2,h3,h4⟩:=ReadsInt.ofRowC hw;exact ⟨A,c,l,rfl,h4,Kd.C_of_reads (d:=(0 : Int)) (h1:=fun _=>rfl) h1,h2,h3⟩
end
end Go.Proofs.YtbblomnhobodkaaDoor
set_option linter.unusedVariables false
set_option linter.unusedSimpArgs false
namespace Go.Proofs.YtbblomnhobodkaaDoor
open Go.ChangeShapes Go.WideShapes Go.Deep Go.RowKit Go.Proofs.YtbblomnhobodkaaDoorW.PW Go.Proofs.YtbblomnhobodkaaDoor.PTw
def WfX (v : S29) : Prop:=(Lit.int .i64 v.f1).wf = true∧(Lit.int .i64 v.f2).wf = true∧(Lit.int .i64 v.f3).wf = true∧(Lit.int .i64 v.f4).wf = true∧v.f5.length≤maxLen∧∀ x ∈ v.f5,(Lit.int .i64 x).wf = true
theorem nine {α : Type} : ∀ (l : List α),l.length = 9→∃ a b c d e f g h i,l = [a,b,c,d,e,f,g,h,i]
 | [a,b,c,d,e,f,g,h,i],_=>⟨a,b,c,d,e,f,g,h,i,rfl⟩
section
variable {H : Type} {enc : TypeId × Value→H} {W : World}
theorem some_at {α β : Type} {ys : List β} {j : Nat} {o : Option β} (h : o = ys[j]?) (hj : j < ys.length) : ∃ y,o = some y:=⟨_,h.trans (List.getElem?_eq_getElem hj)⟩
theorem vertex_cells {n : Nat} {c0 c1 c2 c3 c4 c5 : Value} {y : DataW H × List MemPlace} (h : DataW.trod enc Tryd.prog W 0 (fun _=>true) true n 29 [c0,c1,c2,c3,c4,c5] = some y) :
 ∃ v : S29,k29.K W v [c0,c1,c2,c3,c4,c5]∧WfX v:=by
 obtain ⟨ys,n',_,_,_,hyl,hf⟩:=DataW.trod_struct Tryd.underlying29 h
 have e3 : Tryd.prog.cellsOf 3 = 1:=by kernel_rfl
 have e4 : Tryd.prog.cellsOf 4 = 1:=by kernel_rfl
 have eI : Tryd.prog.cellsOf 27 = 1:=by kernel_rfl
 have u0 : DataW.trod enc Tryd.prog W 0 (fun _=>true) true n' 4 [c0] = ys[0]?:=by
  have h_ : DataW.trod enc Tryd.prog W 0 (fun _=>true) true n' 4 (([c0,c1,c2,c3,c4,c5].drop 0).take (Tryd.prog.cellsOf 4)) = ys[0]?:=hf 0 _ rfl;rw [e4] at h_;exact h_
 have u1 : DataW.trod enc Tryd.prog W 0 (fun _=>true) true n' 3 [c1] = ys[1]?:=by
  have h_ : DataW.trod enc Tryd.prog W 0 (fun _=>true) true n' 3 (([c0,c1,c2,c3,c4,c5].drop 1).take (Tryd.prog.cellsOf 3)) = ys[1]?:=hf 1 _ rfl;rw [e3] at h_;exact h_
 have u2 : DataW.trod enc Tryd.prog W 0 (fun _=>true) true n' 3 [c2] = ys[2]?:=by
  have h_ : DataW.trod enc Tryd.prog W 0 (fun _=>true) true n' 3 (([c0,c1,c2,c3,c4,c5].drop 2).take (Tryd.prog.cellsOf 3)) = ys[2]?:=hf 2 _ rfl;rw [e3] at h_;exact h_
 have u3 : DataW.trod enc Tryd.prog W 0 (fun _=>true) true n' 3 [c3] = ys[3]?:=by
  have h_ : DataW.trod enc Tryd.prog W 0 (fun _=>true) true n' 3 (([c0,c1,c2,c3,c4,c5].drop 3).take (Tryd.prog.cellsOf 3)) = ys[3]?:=hf 3 _ rfl;rw [e3] at h_;exact h_
 have u4 : DataW.trod enc Tryd.prog W 0 (fun _=>true) true n' 3 [c4] = ys[4]?:=by
  have h_ : DataW.trod enc Tryd.prog W 0 (fun _=>true) true n' 3 (([c0,c1,c2,c3,c4,c5].drop 4).take (Tryd.prog.cellsOf 3)) = ys[4]?:=hf 4 _ rfl;rw [e3] at h_;exact h_
 have u5 : DataW.trod enc Tryd.prog W 0 (fun _=>true) true n' 27 [c5] = ys[5]?:=by
  have h_ : DataW.trod enc Tryd.prog W 0 (fun _=>true) true n' 27 (([c0,c1,c2,c3,c4,c5].drop 5).take (Tryd.prog.cellsOf 27)) = ys[5]?:=hf 5 _ rfl;rw [eI] at h_;exact h_
 have hy : ys.length = 6:=hyl;obtain ⟨y0,t0⟩:=some_at (α:=Nat) u0 (by omega);obtain ⟨y1,t1⟩:=some_at (α:=Nat) u1 (by omega);obtain ⟨y2,t2⟩:=some_at (α:=Nat) u2 (by omega);obtain ⟨y3,t3⟩:=some_at (α:=Nat) u3 (by omega);obtain ⟨y4,t4⟩:=some_at (α:=Nat) u4 (by omega);obtain ⟨y5,t5⟩:=some_at (α:=Nat) u5 (by omega);obtain ⟨b,hb,_⟩:=DataW.trod_bool Tryd.underlying4 t0;obtain ⟨n1,h1,_,w1⟩:=DataW.trod_int Tryd.underlying3 t1;obtain ⟨n2,h2,_,w2⟩:=DataW.trod_int Tryd.underlying3 t2;obtain ⟨n3,h3,_,w3⟩:=DataW.trod_int Tryd.underlying3 t3;obtain ⟨n4,h4,_,w4⟩:=DataW.trod_int Tryd.underlying3 t4;obtain ⟨A5,k5,l5,rfl,hle,hc5,hm5,hw5⟩:=inner_ints t5
 simp at hb h1 h2 h3 h4
 subst hb h1 h2 h3 h4;exact ⟨⟨b,n1,n2,n3,n4,l5⟩,k29_mk W ⟨b,n1,n2,n3,n4,l5⟩ hle hc5,w1,w2,w3,w4,hm5,hw5⟩
theorem op_cells {n : Nat} {cs : List Value} {y : DataW H × List MemPlace} (hl : cs.length = 9) (h : DataW.trod enc Tryd.prog W 0 (fun _=>true) true n 32 cs = some y) :
 ∃ o : S32,k32.K W o cs∧WfOp o:=by
 obtain ⟨c0,c1,c2,c3,c4,c5,c6,c7,c8,rfl⟩:=nine cs hl;obtain ⟨ys,n',_,_,_,hyl,hf⟩:=DataW.trod_struct Tryd.underlying32 h
 have e3 : Tryd.prog.cellsOf 3 = 1:=by kernel_rfl
 have eV : Tryd.prog.cellsOf 29 = 6:=by kernel_rfl
 have u0 : DataW.trod enc Tryd.prog W 0 (fun _=>true) true n' 3 [c0] = ys[0]?:=by
  have h_ : DataW.trod enc Tryd.prog W 0 (fun _=>true) true n' 3 (([c0,c1,c2,c3,c4,c5,c6,c7,c8].drop 0).take (Tryd.prog.cellsOf 3)) = ys[0]?:=hf 0 _ rfl;rw [e3] at h_;exact h_
 have u1 : DataW.trod enc Tryd.prog W 0 (fun _=>true) true n' 3 [c1] = ys[1]?:=by
  have h_ : DataW.trod enc Tryd.prog W 0 (fun _=>true) true n' 3 (([c0,c1,c2,c3,c4,c5,c6,c7,c8].drop 1).take (Tryd.prog.cellsOf 3)) = ys[1]?:=hf 1 _ rfl;rw [e3] at h_;exact h_
 have u2 : DataW.trod enc Tryd.prog W 0 (fun _=>true) true n' 29 [c2,c3,c4,c5,c6,c7] = ys[2]?:=by
  have h_ : DataW.trod enc Tryd.prog W 0 (fun _=>true) true n' 29 (([c0,c1,c2,c3,c4,c5,c6,c7,c8].drop 2).take (Tryd.prog.cellsOf 29)) = ys[2]?:=hf 2 _ rfl;rw [eV] at h_;exact h_
 have u3 : DataW.trod enc Tryd.prog W 0 (fun _=>true) true n' 3 [c8] = ys[3]?:=by
  have h_ : DataW.trod enc Tryd.prog W 0 (fun _=>true) true n' 3 (([c0,c1,c2,c3,c4,c5,c6,c7,c8].drop 8).take (Tryd.prog.cellsOf 3)) = ys[3]?:=hf 3 _ rfl;rw [e3] at h_;exact h_
 have hy : ys.length = 4:=hyl;obtain ⟨y0,t0⟩:=some_at (α:=Nat) u0 (by omega);obtain ⟨y1,t1⟩:=some_at (α:=Nat) u1 (by omega);obtain ⟨y2,t2⟩:=some_at (α:=Nat) u2 (by omega);obtain ⟨y3,t3⟩:=some_at (α:=Nat) u3 (by omega);obtain ⟨n0,h0,_,w0⟩:=DataW.trod_int Tryd.underlying3 t0;obtain ⟨n1,h1,_,w1⟩:=DataW.trod_int Tryd.underlying3 t1;obtain ⟨v,hK,hv⟩:=vertex_cells t2;obtain ⟨n8,h8,_,w8⟩:=DataW.trod_int Tryd.underlying3 t3
 simp at h0 h1 h8
 subst h0 h1 h8;refine ⟨⟨n0,n1,v,n8⟩,⟨[.int .i64 n0],[.int .i64 n1,c2,c3,c4,c5,c6,c7,.int .i64 n8],rfl,rfl,⟨[.int .i64 n1],[c2,c3,c4,c5,c6,c7,.int .i64 n8],rfl,rfl,⟨[c2,c3,c4,c5,c6,c7],[.int .i64 n8],rfl,hK,rfl⟩⟩⟩,⟨w0,w1,hv.1,hv.2.1,hv.2.2.1,hv.2.2.2.1,w8,hv.2.2.2.2⟩⟩
theorem open_ops {fuel : Nat} {A : Option Addr} {len cap : Nat} {x : DataW H × List MemPlace} (h : DataW.trod enc Tryd.prog W 0 (fun _=>true) true fuel 30 (Value.cells (.slice A len cap)).toList = some x) :
 ∃ z : List S32,len = z.length∧Kd.C k32 W A z.length z∧(∀ o ∈ z,WfOp o)∧z.length≤cap:=by
 have eO : Tryd.prog.cellsOf 32 = 9:=by kernel_rfl
 rcases open_slice (show Tryd.prog.underlying 30 = some (.slice 32) by kernel_rfl) h with ⟨hcs,_⟩ | ⟨a,l,c,m,n,D,Pl,hcs,_,hl,hm,hmm,_,hi⟩
 · simp [Value.cells] at hcs
   obtain ⟨rfl,rfl,rfl⟩:=hcs;exact ⟨[],rfl,Kd.C_nil _ _,(fun o ho=>by cases ho),by simp⟩
 · simp [Value.cells] at hcs
   obtain ⟨rfl,rfl,rfl⟩:=hcs;simp only [if_true] at hmm;subst hmm
   have each : ∀ i,i < len→∃ (o : S32) (cs : List Value),cs.length = 9∧k32.K W o cs∧(∀ j u,cs[j]? = some u→W.cell? (a.add (i * 9 + j)) = some u)∧WfOp o:=by
    intro i hil;obtain ⟨cs',hc,ht'⟩:=hi i (by omega);rw [eO] at hc;obtain ⟨_,hcl,hat⟩:=World.cells?_some hc;obtain ⟨o,hK,hw⟩:=op_cells hcl ht';refine ⟨o,cs',hcl,hK,fun j u hu=>?_,hw⟩
    have hj : j < 9:=by
     rcases Nat.lt_or_ge j 9 with hh | hh
     · exact hh
     · rw [List.getElem?_eq_none (by omega)] at hu;cases hu
    rw [← Go.Deep.add_add,hat j (by omega),hu]
   let f : Nat→S32:=fun i=>if h : i < len then (each i h).choose else z32
   have hf : ∀ i (h : i < len),f i = (each i h).choose:=fun i h=>by simp only [f,h,dif_pos]
   have hmax : len≤9223372036854775807:=by unfold maxLen at hm;omega
   refine ⟨(List.range len).map f,by simp,⟨by simp,by simpa using hmax,fun hn=>⟨a,rfl,fun j p hj=>?_⟩⟩,fun v hv=>?_,by simpa using hl⟩
   · rw [List.getElem?_map] at hj
     have hjl : j < len:=by
      rcases Nat.lt_or_ge j len with h | h
      · exact h
      · rw [List.getElem?_eq_none (by simpa using h)] at hj;cases hj
     rw [List.getElem?_range hjl,Option.map_some] at hj;cases hj;rw [hf j hjl];obtain ⟨cs,q1,q2,q3,_⟩:=(each j hjl).choose_spec;exact ⟨cs,q1,q2,fun i u hu=>q3 i u hu⟩
   · rw [List.mem_map] at hv
     obtain ⟨j,hj,rfl⟩:=hv;have hjl : j < len:=List.mem_range.1 hj;rw [hf j hjl];obtain ⟨cs,_,_,_,q⟩:=(each j hjl).choose_spec;exact q
end
end Go.Proofs.YtbblomnhobodkaaDoor
namespace Go.Proofs.YtbblomnhobodkaaDoor.PTw
open Go.RowKit Go.Proofs.YtbblomnhobodkaaDoorW.PW Go.Proofs.YtbblomnhobodkaaDoorW.PL Go.Proofs.YtbblomnhobodkaaDoorW.PM
attribute [local go_sem] max2_int min2_int max_two min_two max_three min_three max_four min_four   -- for this text's walks alone
set_option linter.unusedVariables false
set_option linter.unusedSimpArgs false
end Go.Proofs.YtbblomnhobodkaaDoor.PTw
namespace Go.Proofs.YtbblomnhobodkaaDoor.PTw
open Go.RowKit Go.Proofs.YtbblomnhobodkaaDoorW.PW Go.Proofs.YtbblomnhobodkaaDoorW.PL Go.Proofs.YtbblomnhobodkaaDoorW.PM
attribute [local go_sem] max2_int min2_int max_two min_two max_three min_three max_four min_four   -- for this text's walks alone
set_option linter.unusedVariables false
set_option linter.unusedSimpArgs false
def r4vertex.l0 : Nat→List (S29)→Int→Int→Int→Bool→Int→Int→Int→Int→List Int→Option (Bool)
 | 0,_,_,_,_,_,_,_,_,_,_=>none
 | k + 1,x0,x1,x6,x7,x313000,x313001,x313002,x313003,x313004,x313005=>if x7 < (x313005.length : Int) then (if 0≤x7 then (if (rd x313005 x7)≤x6 then (some false) else (if (rd x313005 x7)≥64 then (some false) else ((r4Full.f x0 (rd x313005 x7)).bind fun t314=>(if t314 = true then ((r4Leaves.f x0).bind fun t315=>((r3Under.f k (wrap64 (2 * (rd x313005 x7))) x1 t315).bind fun t316=>(if t316 = true then (r4vertex.l0 k x0 x1 (rd x313005 x7) (wrap64 (x7 + 1)) x313000 x313001 x313002 x313003 x313004 x313005) else (some false)))) else (some false))))) else (none)) else (if x313002 = 0 then (some (x313003 == 0)) else (some false))
def r4vertex.f (k : Nat) (l0 : List (S29)) (a1 : Int) : Option (Bool):=if 0≤a1 then (if a1 < (l0.length : Int) then (if ((rd_T29 l0 a1).f0 = true) then (if (Int.tmod a1 2) = 0 then (some ((((rd_T29 l0 a1).f5).length : Int) == 0)) else (r4vertex.l0 k l0 a1 (-1) 0 ((rd_T29 l0 a1).f0) ((rd_T29 l0 a1).f1) ((rd_T29 l0 a1).f2) ((rd_T29 l0 a1).f3) ((rd_T29 l0 a1).f4) ((rd_T29 l0 a1).f5))) else (if ((rd_T29 l0 a1).f1) = 0 then (if ((rd_T29 l0 a1).f2) = 0 then (if ((rd_T29 l0 a1).f3) = 0 then (if ((rd_T29 l0 a1).f4) = 0 then (some ((((rd_T29 l0 a1).f5).length : Int) == 0)) else (some false)) else (some false)) else (some false)) else (some false))) else (none)) else (none)
theorem r4vertex.mono_l : ∀ k,(∀ y0 y1 y2 y3 y4 y5 y6 y7 y8 y9,LeO (r4vertex.l0 k y0 y1 y2 y3 y4 y5 y6 y7 y8 y9) (r4vertex.l0 (k + 1) y0 y1 y2 y3 y4 y5 y6 y7 y8 y9))
 | 0=>fun _ _ _ _ _ _ _ _ _ _ r h=>by simp [r4vertex.l0] at h
 | k + 1=>by
  have ih0:=r4vertex.mono_l k
  · intro y0 y1 y2 y3 y4 y5 y6 y7 y8 y9
    unfold r4vertex.l0
    repeat' first
    | (with_reducible exact ih0 _ _ _ _ _ _ _ _ _ _)
    | (with_reducible exact r3Under.mono _ _ _ _)
    | (with_reducible exact LeO.refl _)
    | (with_reducible exact LeO.none _)
    | (with_reducible refine LeO.ite ?_ ?_)
    | (with_reducible refine LeO.bind ?_ (fun _=>?_))
    | exact ih0 _ _ _ _ _ _ _ _ _ _
    | exact r3Under.mono _ _ _ _
    | exact LeO.none _
    | refine LeO.ite ?_ ?_
    | refine LeO.bind ?_ (fun _=>?_)
theorem r4vertex.mono : ∀ a0 a1 k,LeO (r4vertex.f k a0 a1) (r4vertex.f (k + 1) a0 a1):=by
 intro a0 a1 k;have ih0:=r4vertex.mono_l k;unfold r4vertex.f
 repeat' first
  | (with_reducible exact ih0 _ _ _ _ _ _ _ _ _ _)
  | (with_reducible exact r3Under.mono _ _ _ _)
  | (with_reducible exact LeO.refl _)
  | (with_reducible exact LeO.none _)
  | (with_reducible refine LeO.ite ?_ ?_)
  | (with_reducible refine LeO.bind ?_ (fun _=>?_))
  | exact ih0 _ _ _ _ _ _ _ _ _ _
  | exact r3Under.mono _ _ _ _
  | exact LeO.none _
  | refine LeO.ite ?_ ?_
  | refine LeO.bind ?_ (fun _=>?_)
set_option maxHeartbeats 8000000 in
set_option maxRecDepth 100000 in
theorem r4vertex.calls (k : Nat) (A0 : Option Addr) (c0 : Nat) (l0 : List (S29)) (a1 : Int) (r : Bool) (w : World) (hr0 : Kd.C k29 w A0 l0.length l0) (hc0 : l0.length≤c0) (h : r4vertex.f k l0 a1 = some r) :
 Calls Tryd.prog 46 #[.slice A0 l0.length c0,.int .i64 a1] w fun e w'=>e = .returned (.bool r)∧Below w.heap.size w w':=by
 have hu29:=Tryd.underlying29;have HR0:=Az.mk hr0;have HC0:=Az.mk hc0;clear hr0 hc0;have HB:=Az.mk (Below.refl w.heap.size w);have H : (if 0≤a1 then (if a1 < (l0.length : Int) then (if ((rd_T29 l0 a1).f0 = true) then (if (Int.tmod a1 2) = 0 then (some ((((rd_T29 l0 a1).f5).length : Int) == 0)) else (r4vertex.l0 k l0 a1 (-1) 0 ((rd_T29 l0 a1).f0) ((rd_T29 l0 a1).f1) ((rd_T29 l0 a1).f2) ((rd_T29 l0 a1).f3) ((rd_T29 l0 a1).f4) ((rd_T29 l0 a1).f5))) else (if ((rd_T29 l0 a1).f1) = 0 then (if ((rd_T29 l0 a1).f2) = 0 then (if ((rd_T29 l0 a1).f3) = 0 then (if ((rd_T29 l0 a1).f4) = 0 then (some ((((rd_T29 l0 a1).f5).length : Int) == 0)) else (some false)) else (some false)) else (some false)) else (some false))) else (none)) else (none)) = some r:=h;clear h
 by_cases c3 : 0≤a1
 · rw [if_pos c3] at H
   have c3b0 : decide (0≤a1) = true:=decide_eq_true c3;clear c3
   by_cases c4 : a1 < (l0.length : Int)
   · rw [if_pos c4] at H
     have c4b0 : decide (a1 < (l0.length : Int)) = true:=decide_eq_true c4;clear c4
     obtain ⟨bq5,hbq5⟩ : ∃ b_ : Bool,b_ = ((rd_T29 l0 a1).f0):=⟨_,rfl⟩
     replace H : (if (bq5 = true) then (if (Int.tmod a1 2) = 0 then (some ((((rd_T29 l0 a1).f5).length : Int) == 0)) else (r4vertex.l0 k l0 a1 (-1) 0 bq5 ((rd_T29 l0 a1).f1) ((rd_T29 l0 a1).f2) ((rd_T29 l0 a1).f3) ((rd_T29 l0 a1).f4) ((rd_T29 l0 a1).f5))) else (if ((rd_T29 l0 a1).f1) = 0 then (if ((rd_T29 l0 a1).f2) = 0 then (if ((rd_T29 l0 a1).f3) = 0 then (if ((rd_T29 l0 a1).f4) = 0 then (some ((((rd_T29 l0 a1).f5).length : Int) == 0)) else (some false)) else (some false)) else (some false)) else (some false))) = some r:=by rw [← hbq5] at H;exact H
     have Nbq5:=Az.mk hbq5;clear hbq5
     by_cases c6 : (bq5 = true)
     · subst c6
       rw [if_pos rfl] at H
       by_cases c7 : (Int.tmod a1 2) = 0
       · rw [if_pos c7] at H
         have c7b0 : ((Int.tmod a1 2) == 0) = true:=beq_iff_eq.mpr c7;have c7b1 : ((Int.tmod a1 2) != 0) = false:=bne_eq_false_iff_eq.mpr c7;clear c7;obtain rfl:=Option.some.inj H;have p311 : 0≤(a1 : Int):=dt_;have q311 : a1 < (l0.length : Int):=dt_;obtain ⟨ad311,A311_5,c311_5,e311,hx311_0,hx311_1,hx311_2,hx311_3,hx311_4,hx311_5,hl311_5,hi311_5⟩:=at_T29 HR0.out a1 p311 q311
         (try rw [← Nbq5.out] at hx311_0)
         cases e311;have HR311_5:=Az.mk hi311_5;have HC311_5:=Az.mk hl311_5;clear hi311_5 hl311_5;replace p311:=eq_true p311;replace q311:=eq_true q311
         go_enter Tryd.func46,Tryd.ntmps46
         go_wp2_with (first | ((with_reducible refine gate_dst (N:=5) rfl ?_);(try (refine gate_guard (by rfl) ?_;dsimp only));refine box_event ?hg (N:=5) ?hd (cs:=#[.bool false,.int .i64 0,.int .i64 0,.int .i64 0,.int .i64 0,.slice none 0 0]) (t:=29) ?hr ?_;(case hd=>rfl);(case hg=>rfl);(case hr=>exact gr_);intro gb312 hg w8 hbox hb;have BK312:=Az.mk (hbox);have GW312:=Az.mk ((by rw [hg];exact (bwZ (bmv HB.out)) : w.heap.size≤gb312));have GE312:=Az.mk ((by rw [hg];exact (bwZ (bmv HB.out)) : w.heap.size≤gb312));replace HB:=Az.mk (bwT (bmv HB.out) hb);clear hb hbox hg;obtain ⟨⟨hcz9_0,hcz9_1,hcz9_2,hcz9_3,hcz9_4,hcz9_5⟩,hfz9_0,hfz9_1,hfz9_2,hfz9_3,hfz9_4,hfz9_5⟩:=cells6 BK312.out))
         go_ret
         exact ⟨by first | rfl | (simp [errW_none,errW_some] <;> rfl) | (simp [*,errW_none,errW_some] <;> rfl),by repeat (with_reducible first | exact bmv HB.out | refine bwS ?_ GE312.out)⟩
       · rw [if_neg c7] at H
         have c7b0 : ((Int.tmod a1 2) == 0) = false:=beq_eq_false_iff_ne.mpr c7;have c7b1 : ((Int.tmod a1 2) != 0) = true:=bne_iff_ne.mpr c7;have H':=Az.mk H;clear H;have p311 : 0≤(a1 : Int):=dt_;have q311 : a1 < (l0.length : Int):=dt_;obtain ⟨ad311,A311_5,c311_5,e311,hx311_0,hx311_1,hx311_2,hx311_3,hx311_4,hx311_5,hl311_5,hi311_5⟩:=at_T29 HR0.out a1 p311 q311
         (try rw [← Nbq5.out] at hx311_0)
         cases e311;have HR311_5:=Az.mk hi311_5;have HC311_5:=Az.mk hl311_5;clear hi311_5 hl311_5;replace p311:=eq_true p311;replace q311:=eq_true q311
         go_enter Tryd.func46,Tryd.ntmps46
         go_wp2_with (first | ((with_reducible refine gate_dst (N:=5) rfl ?_);(try (refine gate_guard (by rfl) ?_;dsimp only));refine box_event ?hg (N:=5) ?hd (cs:=#[.bool false,.int .i64 0,.int .i64 0,.int .i64 0,.int .i64 0,.slice none 0 0]) (t:=29) ?hr ?_;(case hd=>rfl);(case hg=>rfl);(case hr=>exact gr_);intro gb312 hg w10 hbox hb;have BK312:=Az.mk (hbox);have GW312:=Az.mk ((by rw [hg];exact (bwZ (bmv HB.out)) : w.heap.size≤gb312));have GE312:=Az.mk ((by rw [hg];exact (bwZ (bmv HB.out)) : w.heap.size≤gb312));replace HB:=Az.mk (bwT (bmv HB.out) hb);clear hb hbox hg;obtain ⟨⟨hcz11_0,hcz11_1,hcz11_2,hcz11_3,hcz11_4,hcz11_5⟩,hfz11_0,hfz11_1,hfz11_2,hfz11_3,hfz11_4,hfz11_5⟩:=cells6 BK312.out))
         go_loopg [6,7] k (fun kq v6 v7 w'=>∃ (x6_1 : Int) (x7_1 : Int),v6 = .int .i64 x6_1∧v7 = .int .i64 x7_1∧Az (r4vertex.l0 kq l0 a1 x6_1 x7_1 true ((rd_T29 l0 a1).f1) ((rd_T29 l0 a1).f2) ((rd_T29 l0 a1).f3) ((rd_T29 l0 a1).f4) ((rd_T29 l0 a1).f5) = some r)∧Az (kq≤k)∧Az (w'.heap[gb312]? = some (.cells #[.bool true,.int .i64 ((rd_T29 l0 a1).f1),.int .i64 ((rd_T29 l0 a1).f2),.int .i64 ((rd_T29 l0 a1).f3),.int .i64 ((rd_T29 l0 a1).f4),(.slice A311_5 ((rd_T29 l0 a1).f5).length c311_5)] 29 (0,0)))∧Az (Below w.heap.size w w'))
         case atStart=>exact ⟨((-1)),(0),rs_,rs_,H',⟨Nat.le_refl _⟩,⟨by (with_reducible repeat (first | refine kN ?_ _ | refine kD ?_ | refine kA ?_ _));refine blk_put (cs:=#[.bool true,.int .i64 ((rd_T29 l0 a1).f1),.int .i64 ((rd_T29 l0 a1).f2),.int .i64 ((rd_T29 l0 a1).f3),.int .i64 ((rd_T29 l0 a1).f4),.slice none 0 0]) ?_ 5 _ rfl;(with_reducible repeat (first | refine kN ?_ _ | refine kD ?_ | refine kA ?_ _));refine blk_put (cs:=#[.bool true,.int .i64 ((rd_T29 l0 a1).f1),.int .i64 ((rd_T29 l0 a1).f2),.int .i64 ((rd_T29 l0 a1).f3),.int .i64 0,.slice none 0 0]) ?_ 4 _ rfl;(with_reducible repeat (first | refine kN ?_ _ | refine kD ?_ | refine kA ?_ _));refine blk_put (cs:=#[.bool true,.int .i64 ((rd_T29 l0 a1).f1),.int .i64 ((rd_T29 l0 a1).f2),.int .i64 0,.int .i64 0,.slice none 0 0]) ?_ 3 _ rfl;(with_reducible repeat (first | refine kN ?_ _ | refine kD ?_ | refine kA ?_ _));refine blk_put (cs:=#[.bool true,.int .i64 ((rd_T29 l0 a1).f1),.int .i64 0,.int .i64 0,.int .i64 0,.slice none 0 0]) ?_ 2 _ rfl;(with_reducible repeat (first | refine kN ?_ _ | refine kD ?_ | refine kA ?_ _));refine blk_put (cs:=#[.bool true,.int .i64 0,.int .i64 0,.int .i64 0,.int .i64 0,.slice none 0 0]) ?_ 1 _ rfl;(with_reducible repeat (first | refine kN ?_ _ | refine kD ?_ | refine kA ?_ _));refine blk_put (cs:=#[.bool false,.int .i64 0,.int .i64 0,.int .i64 0,.int .i64 0,.slice none 0 0]) ?_ 0 _ rfl;(with_reducible repeat (first | refine kN ?_ _ | refine kD ?_ | refine kA ?_ _));exact BK312.out⟩,⟨by repeat (with_reducible first | exact bmv HB.out | refine bwS ?_ GE312.out)⟩⟩
         case round=>
          clear H';(try clear c3);(try clear c3b0);(try clear c4);(try clear c4b0);(try clear c6);(try clear c7);(try clear c7b0);(try clear c7b1);(try clear hcz11_0);(try clear hcz11_1);(try clear hcz11_2);(try clear hcz11_3);(try clear hcz11_4);(try clear hcz11_5);(try clear hcz9_0);(try clear hcz9_1);(try clear hcz9_2);(try clear hcz9_3);(try clear hcz9_4);(try clear hcz9_5);(try clear hfz11_0);(try clear hfz11_1);(try clear hfz11_2);(try clear hfz11_3);(try clear hfz11_4);(try clear hfz11_5);(try clear hfz9_0);(try clear hfz9_1);(try clear hfz9_2);(try clear hfz9_3);(try clear hfz9_4);(try clear hfz9_5);(try clear hx311_0);(try clear hx311_1);(try clear hx311_2);(try clear hx311_3);(try clear hx311_4);(try clear hx311_5);(try clear p311);(try clear q311);obtain ⟨x6_1,x7_1,rfl,rfl,HA,HK1,BK312,HB⟩:=hrel
          cases gk with
          | zero=>exact absurd HA.out (by simp [r4vertex.l0])
          | succ k1=>
           have H:=HA.out;clear HA;simp only [r4vertex.l0] at H
           by_cases c12 : x7_1 < (((rd_T29 l0 a1).f5).length : Int)
           · rw [if_pos c12] at H
             have c12b0 : decide (x7_1 < (((rd_T29 l0 a1).f5).length : Int)) = true:=decide_eq_true c12;clear c12
             by_cases c13 : 0≤x7_1
             · rw [if_pos c13] at H
               have c13b0 : decide (0≤x7_1) = true:=decide_eq_true c13;clear c13
               by_cases c14 : (rd ((rd_T29 l0 a1).f5) x7_1)≤x6_1
               · rw [if_pos c14] at H
                 have c14b0 : decide ((rd ((rd_T29 l0 a1).f5) x7_1)≤x6_1) = true:=decide_eq_true c14;clear c14;obtain rfl:=Option.some.inj H;have hcz15_0 : wr.cell? ⟨gb312,0,none⟩ = some (.bool true):=(kC BK312.out 0).trans rfl;have hcz15_1 : wr.cell? ⟨gb312,1,none⟩ = some (.int .i64 ((rd_T29 l0 a1).f1)):=(kC BK312.out 1).trans rfl;have hcz15_2 : wr.cell? ⟨gb312,2,none⟩ = some (.int .i64 ((rd_T29 l0 a1).f2)):=(kC BK312.out 2).trans rfl;have hcz15_3 : wr.cell? ⟨gb312,3,none⟩ = some (.int .i64 ((rd_T29 l0 a1).f3)):=(kC BK312.out 3).trans rfl;have hcz15_4 : wr.cell? ⟨gb312,4,none⟩ = some (.int .i64 ((rd_T29 l0 a1).f4)):=(kC BK312.out 4).trans rfl;have hcz15_5 : wr.cell? ⟨gb312,5,none⟩ = some (.slice A311_5 ((rd_T29 l0 a1).f5).length c311_5):=(kC BK312.out 5).trans rfl;have hfz15_0:=kF BK312.out 0;have hfz15_1:=kF BK312.out 1;have hfz15_2:=kF BK312.out 2;have hfz15_3:=kF BK312.out 3;have hfz15_4:=kF BK312.out 4;have hfz15_5:=kF BK312.out 5;have p313 : 0≤(x7_1 : Int):=dt_;have q313 : x7_1 < (((rd_T29 l0 a1).f5).length : Int):=dt_;obtain ⟨ad313,e313,hx313_0⟩:=Kd.at_int HR311_5.out x7_1 p313 q313;cases e313;replace hx313_0:=hbc HB.out hx313_0;replace p313:=eq_true p313;replace q313:=eq_true q313
                 go_wp2
                 go_ret
                 exact ⟨by first | rfl | (simp [errW_none,errW_some] <;> rfl) | (simp [*,errW_none,errW_some] <;> rfl),by repeat (with_reducible first | exact bmv HB.out | refine bwS ?_ GE312.out)⟩
               · rw [if_neg c14] at H
                 have c14b0 : decide ((rd ((rd_T29 l0 a1).f5) x7_1)≤x6_1) = false:=decide_eq_false c14;clear c14
                 by_cases c16 : (rd ((rd_T29 l0 a1).f5) x7_1)≥64
                 · rw [if_pos c16] at H
                   have c16b0 : decide (64≤(rd ((rd_T29 l0 a1).f5) x7_1)) = true:=decide_eq_true c16;clear c16;obtain rfl:=Option.some.inj H;have hcz17_0 : wr.cell? ⟨gb312,0,none⟩ = some (.bool true):=(kC BK312.out 0).trans rfl;have hcz17_1 : wr.cell? ⟨gb312,1,none⟩ = some (.int .i64 ((rd_T29 l0 a1).f1)):=(kC BK312.out 1).trans rfl;have hcz17_2 : wr.cell? ⟨gb312,2,none⟩ = some (.int .i64 ((rd_T29 l0 a1).f2)):=(kC BK312.out 2).trans rfl;have hcz17_3 : wr.cell? ⟨gb312,3,none⟩ = some (.int .i64 ((rd_T29 l0 a1).f3)):=(kC BK312.out 3).trans rfl;have hcz17_4 : wr.cell? ⟨gb312,4,none⟩ = some (.int .i64 ((rd_T29 l0 a1).f4)):=(kC BK312.out 4).trans rfl;have hcz17_5 : wr.cell? ⟨gb312,5,none⟩ = some (.slice A311_5 ((rd_T29 l0 a1).f5).length c311_5):=(kC BK312.out 5).trans rfl;have hfz17_0:=kF BK312.out 0;have hfz17_1:=kF BK312.out 1;have hfz17_2:=kF BK312.out 2;have hfz17_3:=kF BK312.out 3;have hfz17_4:=kF BK312.out 4;have hfz17_5:=kF BK312.out 5;have p313 : 0≤(x7_1 : Int):=dt_;have q313 : x7_1 < (((rd_T29 l0 a1).f5).length : Int):=dt_;obtain ⟨ad313,e313,hx313_0⟩:=Kd.at_int HR311_5.out x7_1 p313 q313;cases e313;replace hx313_0:=hbc HB.out hx313_0;replace p313:=eq_true p313;replace q313:=eq_true q313
                   go_wp2
                   go_ret
                   exact ⟨by first | rfl | (simp [errW_none,errW_some] <;> rfl) | (simp [*,errW_none,errW_some] <;> rfl),by repeat (with_reducible first | exact bmv HB.out | refine bwS ?_ GE312.out)⟩
                 · rw [if_neg c16] at H
                   have c16b0 : decide (64≤(rd ((rd_T29 l0 a1).f5) x7_1)) = false:=decide_eq_false c16;clear c16;replace H:=Option.bind_eq_some_iff.mp H;obtain ⟨t314,A180,H⟩:=H;(try dsimp only at H);have A18:=Az.mk A180;clear A180
                   by_cases c19 : t314 = true
                   · subst c19
                     rw [if_pos rfl] at H;replace H:=Option.bind_eq_some_iff.mp H;obtain ⟨t315,A200,H⟩:=H;(try dsimp only at H);have A20:=Az.mk A200;clear A200;replace H:=Option.bind_eq_some_iff.mp H;obtain ⟨t316,A210,H⟩:=H;(try dsimp only at H);have A21:=Az.mk A210;clear A210
                     by_cases c22 : t316 = true
                     · subst c22
                       rw [if_pos rfl] at H;have H':=Az.mk H;clear H;have hcz23_0 : wr.cell? ⟨gb312,0,none⟩ = some (.bool true):=(kC BK312.out 0).trans rfl;have hcz23_1 : wr.cell? ⟨gb312,1,none⟩ = some (.int .i64 ((rd_T29 l0 a1).f1)):=(kC BK312.out 1).trans rfl;have hcz23_2 : wr.cell? ⟨gb312,2,none⟩ = some (.int .i64 ((rd_T29 l0 a1).f2)):=(kC BK312.out 2).trans rfl;have hcz23_3 : wr.cell? ⟨gb312,3,none⟩ = some (.int .i64 ((rd_T29 l0 a1).f3)):=(kC BK312.out 3).trans rfl;have hcz23_4 : wr.cell? ⟨gb312,4,none⟩ = some (.int .i64 ((rd_T29 l0 a1).f4)):=(kC BK312.out 4).trans rfl;have hcz23_5 : wr.cell? ⟨gb312,5,none⟩ = some (.slice A311_5 ((rd_T29 l0 a1).f5).length c311_5):=(kC BK312.out 5).trans rfl;have hfz23_0:=kF BK312.out 0;have hfz23_1:=kF BK312.out 1;have hfz23_2:=kF BK312.out 2;have hfz23_3:=kF BK312.out 3;have hfz23_4:=kF BK312.out 4;have hfz23_5:=kF BK312.out 5;have p313 : 0≤(x7_1 : Int):=dt_;have q313 : x7_1 < (((rd_T29 l0 a1).f5).length : Int):=dt_;obtain ⟨ad313,e313,hx313_0⟩:=Kd.at_int HR311_5.out x7_1 p313 q313;cases e313;replace hx313_0:=hbc HB.out hx313_0;replace p313:=eq_true p313;replace q313:=eq_true q313
                       go_wp2_with (first | (go_at_call 22;(with_reducible refine (r4Full.calls _ _ l0 (rd ((rd_T29 l0 a1).f5) x7_1) true _ ?side1 ?side2 A18.out).mono ?_);(case side1=>exact C_mv ((Kd.C_below HR0.out HB.out)));(case side2=>exact HC0.out);rintro e w' ⟨rfl,⟨nd,rfl⟩⟩) | (go_at_call 21;(with_reducible refine (r4Leaves.calls _ _ l0 t315 _ ?side1 ?side2 A20.out).mono ?_);(case side1=>repeat (first | exact (Kd.C_below HR0.out (by repeat (with_reducible first | exact bmv HB.out | refine bwS ?_ GE312.out))) | (with_reducible refine Kd.C_alloc ?_ _) | (with_reducible refine Kd.C_drewN ?_ _) | (with_reducible refine Kd.C_drew ?_)));(case side2=>exact HC0.out);rintro e w' ⟨rfl,⟨nd,rfl⟩⟩) | (go_at_call 26;(with_reducible refine (r3Under.calls k1 (wrap64 (2 * (rd ((rd_T29 l0 a1).f5) x7_1))) a1 t315 true _ A21.out).mono ?_);rintro e w' ⟨rfl,⟨nd,rfl⟩⟩))
                       go_roundg k1
                       case measure=>have:=HK1.out;omega
                       case rel=>exact ⟨(rd ((rd_T29 l0 a1).f5) x7_1),(wrap64 (x7_1 + 1)),rs_,rs_,H',⟨by have:=HK1.out;omega⟩,⟨blk_mv BK312.out⟩,⟨by repeat (with_reducible first | exact bmv HB.out | refine bwS ?_ GE312.out)⟩⟩
                     · replace c22:=Bool.eq_false_iff.mpr c22
                       subst c22;rw [if_neg (show ¬ (false = true) by decide)] at H;obtain rfl:=Option.some.inj H;have hcz24_0 : wr.cell? ⟨gb312,0,none⟩ = some (.bool true):=(kC BK312.out 0).trans rfl;have hcz24_1 : wr.cell? ⟨gb312,1,none⟩ = some (.int .i64 ((rd_T29 l0 a1).f1)):=(kC BK312.out 1).trans rfl;have hcz24_2 : wr.cell? ⟨gb312,2,none⟩ = some (.int .i64 ((rd_T29 l0 a1).f2)):=(kC BK312.out 2).trans rfl;have hcz24_3 : wr.cell? ⟨gb312,3,none⟩ = some (.int .i64 ((rd_T29 l0 a1).f3)):=(kC BK312.out 3).trans rfl;have hcz24_4 : wr.cell? ⟨gb312,4,none⟩ = some (.int .i64 ((rd_T29 l0 a1).f4)):=(kC BK312.out 4).trans rfl;have hcz24_5 : wr.cell? ⟨gb312,5,none⟩ = some (.slice A311_5 ((rd_T29 l0 a1).f5).length c311_5):=(kC BK312.out 5).trans rfl;have hfz24_0:=kF BK312.out 0;have hfz24_1:=kF BK312.out 1;have hfz24_2:=kF BK312.out 2;have hfz24_3:=kF BK312.out 3;have hfz24_4:=kF BK312.out 4;have hfz24_5:=kF BK312.out 5;have p313 : 0≤(x7_1 : Int):=dt_;have q313 : x7_1 < (((rd_T29 l0 a1).f5).length : Int):=dt_;obtain ⟨ad313,e313,hx313_0⟩:=Kd.at_int HR311_5.out x7_1 p313 q313;cases e313;replace hx313_0:=hbc HB.out hx313_0;replace p313:=eq_true p313;replace q313:=eq_true q313
                       go_wp2_with (first | (go_at_call 22;(with_reducible refine (r4Full.calls _ _ l0 (rd ((rd_T29 l0 a1).f5) x7_1) true _ ?side1 ?side2 A18.out).mono ?_);(case side1=>exact C_mv ((Kd.C_below HR0.out HB.out)));(case side2=>exact HC0.out);rintro e w' ⟨rfl,⟨nd,rfl⟩⟩) | (go_at_call 21;(with_reducible refine (r4Leaves.calls _ _ l0 t315 _ ?side1 ?side2 A20.out).mono ?_);(case side1=>repeat (first | exact (Kd.C_below HR0.out (by repeat (with_reducible first | exact bmv HB.out | refine bwS ?_ GE312.out))) | (with_reducible refine Kd.C_alloc ?_ _) | (with_reducible refine Kd.C_drewN ?_ _) | (with_reducible refine Kd.C_drew ?_)));(case side2=>exact HC0.out);rintro e w' ⟨rfl,⟨nd,rfl⟩⟩) | (go_at_call 26;(with_reducible refine (r3Under.calls k1 (wrap64 (2 * (rd ((rd_T29 l0 a1).f5) x7_1))) a1 t315 false _ A21.out).mono ?_);rintro e w' ⟨rfl,⟨nd,rfl⟩⟩))
                       go_ret
                       exact ⟨by first | rfl | (simp [errW_none,errW_some] <;> rfl) | (simp [*,errW_none,errW_some] <;> rfl),by repeat (with_reducible first | exact bmv HB.out | refine bwS ?_ GE312.out)⟩
                   · replace c19:=Bool.eq_false_iff.mpr c19
                     subst c19;rw [if_neg (show ¬ (false = true) by decide)] at H;obtain rfl:=Option.some.inj H;have hcz25_0 : wr.cell? ⟨gb312,0,none⟩ = some (.bool true):=(kC BK312.out 0).trans rfl;have hcz25_1 : wr.cell? ⟨gb312,1,none⟩ = some (.int .i64 ((rd_T29 l0 a1).f1)):=(kC BK312.out 1).trans rfl;have hcz25_2 : wr.cell? ⟨gb312,2,none⟩ = some (.int .i64 ((rd_T29 l0 a1).f2)):=(kC BK312.out 2).trans rfl;have hcz25_3 : wr.cell? ⟨gb312,3,none⟩ = some (.int .i64 ((rd_T29 l0 a1).f3)):=(kC BK312.out 3).trans rfl;have hcz25_4 : wr.cell? ⟨gb312,4,none⟩ = some (.int .i64 ((rd_T29 l0 a1).f4)):=(kC BK312.out 4).trans rfl;have hcz25_5 : wr.cell? ⟨gb312,5,none⟩ = some (.slice A311_5 ((rd_T29 l0 a1).f5).length c311_5):=(kC BK312.out 5).trans rfl;have hfz25_0:=kF BK312.out 0;have hfz25_1:=kF BK312.out 1;have hfz25_2:=kF BK312.out 2;have hfz25_3:=kF BK312.out 3;have hfz25_4:=kF BK312.out 4;have hfz25_5:=kF BK312.out 5;have p313 : 0≤(x7_1 : Int):=dt_;have q313 : x7_1 < (((rd_T29 l0 a1).f5).length : Int):=dt_;obtain ⟨ad313,e313,hx313_0⟩:=Kd.at_int HR311_5.out x7_1 p313 q313;cases e313;replace hx313_0:=hbc HB.out hx313_0;replace p313:=eq_true p313;replace q313:=eq_true q313
                     go_wp2_with (first | (go_at_call 22;(with_reducible refine (r4Full.calls _ _ l0 (rd ((rd_T29 l0 a1).f5) x7_1) false _ ?side1 ?side2 A18.out).mono ?_);(case side1=>exact C_mv ((Kd.C_below HR0.out HB.out)));(case side2=>exact HC0.out);rintro e w' ⟨rfl,⟨nd,rfl⟩⟩))
                     go_ret
                     exact ⟨by first | rfl | (simp [errW_none,errW_some] <;> rfl) | (simp [*,errW_none,errW_some] <;> rfl),by repeat (with_reducible first | exact bmv HB.out | refine bwS ?_ GE312.out)⟩
             · rw [if_neg c13] at H
               exact absurd H (by simp)
           · rw [if_neg c12] at H
             have c12b0 : decide (x7_1 < (((rd_T29 l0 a1).f5).length : Int)) = false:=decide_eq_false c12;clear c12
             by_cases c26 : ((rd_T29 l0 a1).f2) = 0
             · rw [if_pos c26] at H
               have c26b0 : (((rd_T29 l0 a1).f2) == 0) = true:=beq_iff_eq.mpr c26;have c26b1 : (((rd_T29 l0 a1).f2) != 0) = false:=bne_eq_false_iff_eq.mpr c26;clear c26;obtain rfl:=Option.some.inj H;have hcz27_0 : wr.cell? ⟨gb312,0,none⟩ = some (.bool true):=(kC BK312.out 0).trans rfl;have hcz27_1 : wr.cell? ⟨gb312,1,none⟩ = some (.int .i64 ((rd_T29 l0 a1).f1)):=(kC BK312.out 1).trans rfl;have hcz27_2 : wr.cell? ⟨gb312,2,none⟩ = some (.int .i64 ((rd_T29 l0 a1).f2)):=(kC BK312.out 2).trans rfl;have hcz27_3 : wr.cell? ⟨gb312,3,none⟩ = some (.int .i64 ((rd_T29 l0 a1).f3)):=(kC BK312.out 3).trans rfl;have hcz27_4 : wr.cell? ⟨gb312,4,none⟩ = some (.int .i64 ((rd_T29 l0 a1).f4)):=(kC BK312.out 4).trans rfl;have hcz27_5 : wr.cell? ⟨gb312,5,none⟩ = some (.slice A311_5 ((rd_T29 l0 a1).f5).length c311_5):=(kC BK312.out 5).trans rfl;have hfz27_0:=kF BK312.out 0;have hfz27_1:=kF BK312.out 1;have hfz27_2:=kF BK312.out 2;have hfz27_3:=kF BK312.out 3;have hfz27_4:=kF BK312.out 4;have hfz27_5:=kF BK312.out 5
               go_wp2
               go_ret
               exact ⟨by first | rfl | (simp [errW_none,errW_some] <;> rfl) | (simp [*,errW_none,errW_some] <;> rfl),by repeat (with_reducible first | exact bmv HB.out | refine bwS ?_ GE312.out)⟩
             · rw [if_neg c26] at H
               have c26b0 : (((rd_T29 l0 a1).f2) == 0) = false:=beq_eq_false_iff_ne.mpr c26;have c26b1 : (((rd_T29 l0 a1).f2) != 0) = true:=bne_iff_ne.mpr c26;obtain rfl:=Option.some.inj H;have hcz28_0 : wr.cell? ⟨gb312,0,none⟩ = some (.bool true):=(kC BK312.out 0).trans rfl;have hcz28_1 : wr.cell? ⟨gb312,1,none⟩ = some (.int .i64 ((rd_T29 l0 a1).f1)):=(kC BK312.out 1).trans rfl;have hcz28_2 : wr.cell? ⟨gb312,2,none⟩ = some (.int .i64 ((rd_T29 l0 a1).f2)):=(kC BK312.out 2).trans rfl;have hcz28_3 : wr.cell? ⟨gb312,3,none⟩ = some (.int .i64 ((rd_T29 l0 a1).f3)):=(kC BK312.out 3).trans rfl;have hcz28_4 : wr.cell? ⟨gb312,4,none⟩ = some (.int .i64 ((rd_T29 l0 a1).f4)):=(kC BK312.out 4).trans rfl;have hcz28_5 : wr.cell? ⟨gb312,5,none⟩ = some (.slice A311_5 ((rd_T29 l0 a1).f5).length c311_5):=(kC BK312.out 5).trans rfl;have hfz28_0:=kF BK312.out 0;have hfz28_1:=kF BK312.out 1;have hfz28_2:=kF BK312.out 2;have hfz28_3:=kF BK312.out 3;have hfz28_4:=kF BK312.out 4;have hfz28_5:=kF BK312.out 5
               go_wp2
               go_ret
               exact ⟨by first | rfl | (simp [errW_none,errW_some] <;> rfl) | (simp [*,errW_none,errW_some] <;> rfl),by repeat (with_reducible first | exact bmv HB.out | refine bwS ?_ GE312.out)⟩
     · replace c6:=Bool.eq_false_iff.mpr c6
       subst c6;rw [if_neg (show ¬ (false = true) by decide)] at H
       by_cases c29 : ((rd_T29 l0 a1).f1) = 0
       · rw [if_pos c29] at H
         have c29b0 : (((rd_T29 l0 a1).f1) == 0) = true:=beq_iff_eq.mpr c29;have c29b1 : (((rd_T29 l0 a1).f1) != 0) = false:=bne_eq_false_iff_eq.mpr c29;clear c29
         by_cases c30 : ((rd_T29 l0 a1).f2) = 0
         · rw [if_pos c30] at H
           have c30b0 : (((rd_T29 l0 a1).f2) == 0) = true:=beq_iff_eq.mpr c30;have c30b1 : (((rd_T29 l0 a1).f2) != 0) = false:=bne_eq_false_iff_eq.mpr c30;clear c30
           by_cases c31 : ((rd_T29 l0 a1).f3) = 0
           · rw [if_pos c31] at H
             have c31b0 : (((rd_T29 l0 a1).f3) == 0) = true:=beq_iff_eq.mpr c31;have c31b1 : (((rd_T29 l0 a1).f3) != 0) = false:=bne_eq_false_iff_eq.mpr c31;clear c31
             by_cases c32 : ((rd_T29 l0 a1).f4) = 0
             · rw [if_pos c32] at H
               have c32b0 : (((rd_T29 l0 a1).f4) == 0) = true:=beq_iff_eq.mpr c32;have c32b1 : (((rd_T29 l0 a1).f4) != 0) = false:=bne_eq_false_iff_eq.mpr c32;clear c32;obtain rfl:=Option.some.inj H;have p311 : 0≤(a1 : Int):=dt_;have q311 : a1 < (l0.length : Int):=dt_;obtain ⟨ad311,A311_5,c311_5,e311,hx311_0,hx311_1,hx311_2,hx311_3,hx311_4,hx311_5,hl311_5,hi311_5⟩:=at_T29 HR0.out a1 p311 q311
               (try rw [← Nbq5.out] at hx311_0)
               cases e311;have HR311_5:=Az.mk hi311_5;have HC311_5:=Az.mk hl311_5;clear hi311_5 hl311_5;replace p311:=eq_true p311;replace q311:=eq_true q311
               go_enter Tryd.func46,Tryd.ntmps46
               go_wp2_with (first | ((with_reducible refine gate_dst (N:=5) rfl ?_);(try (refine gate_guard (by rfl) ?_;dsimp only));refine box_event ?hg (N:=5) ?hd (cs:=#[.bool false,.int .i64 0,.int .i64 0,.int .i64 0,.int .i64 0,.slice none 0 0]) (t:=29) ?hr ?_;(case hd=>rfl);(case hg=>rfl);(case hr=>exact gr_);intro gb312 hg w33 hbox hb;have BK312:=Az.mk (hbox);have GW312:=Az.mk ((by rw [hg];exact (bwZ (bmv HB.out)) : w.heap.size≤gb312));have GE312:=Az.mk ((by rw [hg];exact (bwZ (bmv HB.out)) : w.heap.size≤gb312));replace HB:=Az.mk (bwT (bmv HB.out) hb);clear hb hbox hg;obtain ⟨⟨hcz34_0,hcz34_1,hcz34_2,hcz34_3,hcz34_4,hcz34_5⟩,hfz34_0,hfz34_1,hfz34_2,hfz34_3,hfz34_4,hfz34_5⟩:=cells6 BK312.out))
               go_ret
               exact ⟨by first | rfl | (simp [errW_none,errW_some] <;> rfl) | (simp [*,errW_none,errW_some] <;> rfl),by repeat (with_reducible first | exact bmv HB.out | refine bwS ?_ GE312.out)⟩
             · rw [if_neg c32] at H
               have c32b0 : (((rd_T29 l0 a1).f4) == 0) = false:=beq_eq_false_iff_ne.mpr c32;have c32b1 : (((rd_T29 l0 a1).f4) != 0) = true:=bne_iff_ne.mpr c32;obtain rfl:=Option.some.inj H;have p311 : 0≤(a1 : Int):=dt_;have q311 : a1 < (l0.length : Int):=dt_;obtain ⟨ad311,A311_5,c311_5,e311,hx311_0,hx311_1,hx311_2,hx311_3,hx311_4,hx311_5,hl311_5,hi311_5⟩:=at_T29 HR0.out a1 p311 q311
               (try rw [← Nbq5.out] at hx311_0)
               cases e311;have HR311_5:=Az.mk hi311_5;have HC311_5:=Az.mk hl311_5;clear hi311_5 hl311_5;replace p311:=eq_true p311;replace q311:=eq_true q311
               go_enter Tryd.func46,Tryd.ntmps46
               go_wp2_with (first | ((with_reducible refine gate_dst (N:=5) rfl ?_);(try (refine gate_guard (by rfl) ?_;dsimp only));refine box_event ?hg (N:=5) ?hd (cs:=#[.bool false,.int .i64 0,.int .i64 0,.int .i64 0,.int .i64 0,.slice none 0 0]) (t:=29) ?hr ?_;(case hd=>rfl);(case hg=>rfl);(case hr=>exact gr_);intro gb312 hg w35 hbox hb;have BK312:=Az.mk (hbox);have GW312:=Az.mk ((by rw [hg];exact (bwZ (bmv HB.out)) : w.heap.size≤gb312));have GE312:=Az.mk ((by rw [hg];exact (bwZ (bmv HB.out)) : w.heap.size≤gb312));replace HB:=Az.mk (bwT (bmv HB.out) hb);clear hb hbox hg;obtain ⟨⟨hcz36_0,hcz36_1,hcz36_2,hcz36_3,hcz36_4,hcz36_5⟩,hfz36_0,hfz36_1,hfz36_2,hfz36_3,hfz36_4,hfz36_5⟩:=cells6 BK312.out))
               go_ret
               exact ⟨by first | rfl | (simp [errW_none,errW_some] <;> rfl) | (simp [*,errW_none,errW_some] <;> rfl),by repeat (with_reducible first | exact bmv HB.out | refine bwS ?_ GE312.out)⟩
           · rw [if_neg c31] at H
             have c31b0 : (((rd_T29 l0 a1).f3) == 0) = false:=beq_eq_false_iff_ne.mpr c31;have c31b1 : (((rd_T29 l0 a1).f3) != 0) = true:=bne_iff_ne.mpr c31;obtain rfl:=Option.some.inj H;have p311 : 0≤(a1 : Int):=dt_;have q311 : a1 < (l0.length : Int):=dt_;obtain ⟨ad311,A311_5,c311_5,e311,hx311_0,hx311_1,hx311_2,hx311_3,hx311_4,hx311_5,hl311_5,hi311_5⟩:=at_T29 HR0.out a1 p311 q311
             (try rw [← Nbq5.out] at hx311_0)
             cases e311;have HR311_5:=Az.mk hi311_5;have HC311_5:=Az.mk hl311_5;clear hi311_5 hl311_5;replace p311:=eq_true p311;replace q311:=eq_true q311
             go_enter Tryd.func46,Tryd.ntmps46
             go_wp2_with (first | ((with_reducible refine gate_dst (N:=5) rfl ?_);(try (refine gate_guard (by rfl) ?_;dsimp only));refine box_event ?hg (N:=5) ?hd (cs:=#[.bool false,.int .i64 0,.int .i64 0,.int .i64 0,.int .i64 0,.slice none 0 0]) (t:=29) ?hr ?_;(case hd=>rfl);(case hg=>rfl);(case hr=>exact gr_);intro gb312 hg w37 hbox hb;have BK312:=Az.mk (hbox);have GW312:=Az.mk ((by rw [hg];exact (bwZ (bmv HB.out)) : w.heap.size≤gb312));have GE312:=Az.mk ((by rw [hg];exact (bwZ (bmv HB.out)) : w.heap.size≤gb312));replace HB:=Az.mk (bwT (bmv HB.out) hb);clear hb hbox hg;obtain ⟨⟨hcz38_0,hcz38_1,hcz38_2,hcz38_3,hcz38_4,hcz38_5⟩,hfz38_0,hfz38_1,hfz38_2,hfz38_3,hfz38_4,hfz38_5⟩:=cells6 BK312.out))
             go_ret
             exact ⟨by first | rfl | (simp [errW_none,errW_some] <;> rfl) | (simp [*,errW_none,errW_some] <;> rfl),by repeat (with_reducible first | exact bmv HB.out | refine bwS ?_ GE312.out)⟩
         · rw [if_neg c30] at H
           have c30b0 : (((rd_T29 l0 a1).f2) == 0) = false:=beq_eq_false_iff_ne.mpr c30;have c30b1 : (((rd_T29 l0 a1).f2) != 0) = true:=bne_iff_ne.mpr c30;obtain rfl:=Option.some.inj H;have p311 : 0≤(a1 : Int):=dt_;have q311 : a1 < (l0.length : Int):=dt_;obtain ⟨ad311,A311_5,c311_5,e311,hx311_0,hx311_1,hx311_2,hx311_3,hx311_4,hx311_5,hl311_5,hi311_5⟩:=at_T29 HR0.out a1 p311 q311
           (try rw [← Nbq5.out] at hx311_0)
           cases e311;have HR311_5:=Az.mk hi311_5;have HC311_5:=Az.mk hl311_5;clear hi311_5 hl311_5;replace p311:=eq_true p311;replace q311:=eq_true q311
           go_enter Tryd.func46,Tryd.ntmps46
           go_wp2_with (first | ((with_reducible refine gate_dst (N:=5) rfl ?_);(try (refine gate_guard (by rfl) ?_;dsimp only));refine box_event ?hg (N:=5) ?hd (cs:=#[.bool false,.int .i64 0,.int .i64 0,.int .i64 0,.int .i64 0,.slice none 0 0]) (t:=29) ?hr ?_;(case hd=>rfl);(case hg=>rfl);(case hr=>exact gr_);intro gb312 hg w39 hbox hb;have BK312:=Az.mk (hbox);have GW312:=Az.mk ((by rw [hg];exact (bwZ (bmv HB.out)) : w.heap.size≤gb312));have GE312:=Az.mk ((by rw [hg];exact (bwZ (bmv HB.out)) : w.heap.size≤gb312));replace HB:=Az.mk (bwT (bmv HB.out) hb);clear hb hbox hg;obtain ⟨⟨hcz40_0,hcz40_1,hcz40_2,hcz40_3,hcz40_4,hcz40_5⟩,hfz40_0,hfz40_1,hfz40_2,hfz40_3,hfz40_4,hfz40_5⟩:=cells6 BK312.out))
           go_ret
           exact ⟨by first | rfl | (simp [errW_none,errW_some] <;> rfl) | (simp [*,errW_none,errW_some] <;> rfl),by repeat (with_reducible first | exact bmv HB.out | refine bwS ?_ GE312.out)⟩
       · rw [if_neg c29] at H
         have c29b0 : (((rd_T29 l0 a1).f1) == 0) = false:=beq_eq_false_iff_ne.mpr c29;have c29b1 : (((rd_T29 l0 a1).f1) != 0) = true:=bne_iff_ne.mpr c29;obtain rfl:=Option.some.inj H;have p311 : 0≤(a1 : Int):=dt_;have q311 : a1 < (l0.length : Int):=dt_;obtain ⟨ad311,A311_5,c311_5,e311,hx311_0,hx311_1,hx311_2,hx311_3,hx311_4,hx311_5,hl311_5,hi311_5⟩:=at_T29 HR0.out a1 p311 q311
         (try rw [← Nbq5.out] at hx311_0)
         cases e311;have HR311_5:=Az.mk hi311_5;have HC311_5:=Az.mk hl311_5;clear hi311_5 hl311_5;replace p311:=eq_true p311;replace q311:=eq_true q311
         go_enter Tryd.func46,Tryd.ntmps46
         go_wp2_with (first | ((with_reducible refine gate_dst (N:=5) rfl ?_);(try (refine gate_guard (by rfl) ?_;dsimp only));refine box_event ?hg (N:=5) ?hd (cs:=#[.bool false,.int .i64 0,.int .i64 0,.int .i64 0,.int .i64 0,.slice none 0 0]) (t:=29) ?hr ?_;(case hd=>rfl);(case hg=>rfl);(case hr=>exact gr_);intro gb312 hg w41 hbox hb;have BK312:=Az.mk (hbox);have GW312:=Az.mk ((by rw [hg];exact (bwZ (bmv HB.out)) : w.heap.size≤gb312));have GE312:=Az.mk ((by rw [hg];exact (bwZ (bmv HB.out)) : w.heap.size≤gb312));replace HB:=Az.mk (bwT (bmv HB.out) hb);clear hb hbox hg;obtain ⟨⟨hcz42_0,hcz42_1,hcz42_2,hcz42_3,hcz42_4,hcz42_5⟩,hfz42_0,hfz42_1,hfz42_2,hfz42_3,hfz42_4,hfz42_5⟩:=cells6 BK312.out))
         go_ret
         exact ⟨by first | rfl | (simp [errW_none,errW_some] <;> rfl) | (simp [*,errW_none,errW_some] <;> rfl),by repeat (with_reducible first | exact bmv HB.out | refine bwS ?_ GE312.out)⟩
   · rw [if_neg c4] at H
     exact absurd H (by simp)
 · rw [if_neg c3] at H
   exact absurd H (by simp)
end Go.Proofs.YtbblomnhobodkaaDoor.PTw
namespace Go.Proofs.YtbblomnhobodkaaDoor.PTw
open Go.RowKit Go.Proofs.YtbblomnhobodkaaDoorW.PW Go.Proofs.YtbblomnhobodkaaDoorW.PL Go.Proofs.YtbblomnhobodkaaDoorW.PM
attribute [local go_sem] max2_int min2_int max_two min_two max_three min_three max_four min_four   -- for this text's walks alone
set_option linter.unusedVariables false
set_option linter.unusedSimpArgs false
mutual
def r4Check.j0 : Nat→List (S29)→Bool→Option (Bool)
 | 0,_,_=>none
 | k + 1,x0,x18=>if x18 = true then (some false) else (r4Check.l0 k x0 0)
def r4Check.l0 : Nat→List (S29)→Int→Option (Bool)
 | 0,_,_=>none
 | k + 1,x0,x3=>if x3 < (x0.length : Int) then ((r4vertex.f k x0 x3).bind fun t320=>(if t320 = true then (r4Check.l0 k x0 (wrap64 (x3 + 1))) else (some false))) else (some true)
end
def r4Check.f (k : Nat) (l0 : List (S29)) : Option (Bool):=if ((l0.length : Int) % 2) = 0 then (r4Check.j0 k l0 true) else ((r4Leaves.f l0).bind fun t317=>((r3Right.f t317).bind fun t318=>(if t318 = true then ((r4Tight.f k l0).bind fun t319=>(r4Check.j0 k l0 (!t319))) else (r4Check.j0 k l0 true))))
theorem r4Check.mono_l : ∀ k,(∀ y0 y1,LeO (r4Check.j0 k y0 y1) (r4Check.j0 (k + 1) y0 y1))∧(∀ y0 y1,LeO (r4Check.l0 k y0 y1) (r4Check.l0 (k + 1) y0 y1))
 | 0=>⟨fun _ _ r h=>by simp [r4Check.j0] at h,fun _ _ r h=>by simp [r4Check.l0] at h⟩
 | k + 1=>by
  obtain ⟨ih0,ih1⟩:=r4Check.mono_l k;refine ⟨?_,?_⟩;intro y0 y1;unfold r4Check.j0;rotate_left;intro y0 y1;unfold r4Check.l0;rotate_left
  repeat' first
   | (with_reducible exact ih0 _ _)
   | (with_reducible exact ih1 _ _)
   | (with_reducible exact r4Tight.mono _ _)
   | (with_reducible exact r4vertex.mono _ _ _)
   | (with_reducible exact LeO.refl _)
   | (with_reducible exact LeO.none _)
   | (with_reducible refine LeO.ite ?_ ?_)
   | (with_reducible refine LeO.bind ?_ (fun _=>?_))
   | exact ih0 _ _
   | exact ih1 _ _
   | exact r4Tight.mono _ _
   | exact r4vertex.mono _ _ _
   | exact LeO.none _
   | refine LeO.ite ?_ ?_
   | refine LeO.bind ?_ (fun _=>?_)
theorem r4Check.mono : ∀ a0 k,LeO (r4Check.f k a0) (r4Check.f (k + 1) a0):=by
 intro a0 k;obtain ⟨ih0,ih1⟩:=r4Check.mono_l k;unfold r4Check.f
 repeat' first
  | (with_reducible exact ih0 _ _)
  | (with_reducible exact ih1 _ _)
  | (with_reducible exact r4Tight.mono _ _)
  | (with_reducible exact r4vertex.mono _ _ _)
  | (with_reducible exact LeO.refl _)
  | (with_reducible exact LeO.none _)
  | (with_reducible refine LeO.ite ?_ ?_)
  | (with_reducible refine LeO.bind ?_ (fun _=>?_))
  | exact ih0 _ _
  | exact ih1 _ _
  | exact r4Tight.mono _ _
  | exact r4vertex.mono _ _ _
  | exact LeO.none _
  | refine LeO.ite ?_ ?_
  | refine LeO.bind ?_ (fun _=>?_)
set_option maxHeartbeats 8000000 in
set_option maxRecDepth 100000 in
theorem r4Check.calls (k : Nat) (A0 : Option Addr) (c0 : Nat) (l0 : List (S29)) (r : Bool) (w : World) (hr0 : Kd.C k29 w A0 l0.length l0) (hc0 : l0.length≤c0) (h : r4Check.f k l0 = some r) :
 Calls Tryd.prog 16 #[.slice A0 l0.length c0] w fun e w'=>e = .returned (.bool r)∧Below w.heap.size w w':=by
 have HR0:=Az.mk hr0;have HC0:=Az.mk hc0;clear hr0 hc0;have HB:=Az.mk (Below.refl w.heap.size w);have H : (if ((l0.length : Int) % 2) = 0 then (r4Check.j0 k l0 true) else ((r4Leaves.f l0).bind fun t317=>((r3Right.f t317).bind fun t318=>(if t318 = true then ((r4Tight.f k l0).bind fun t319=>(r4Check.j0 k l0 (!t319))) else (r4Check.j0 k l0 true))))) = some r:=h;clear h;have HC2:=Az.mk H;clear H
 go_enter Tryd.func16,Tryd.ntmps16
 go_upto_region 1 with (fail)
 go_cut [18] (fun v18 wc=>∃ (kq : Nat) (x18_1 : Bool),v18 = .bool x18_1∧Az (r4Check.j0 kq l0 x18_1 = some r)∧Az (kq≤k)∧Az (Below w.heap.size w wc))
 case first=>
  have H:=HC2.out;clear HC2
  by_cases c3 : ((l0.length : Int) % 2) = 0
  · rw [if_pos c3] at H
    have c3b0 : (((l0.length : Int) % 2) == 0) = true:=beq_iff_eq.mpr c3;have c3b1 : (((l0.length : Int) % 2) != 0) = false:=bne_eq_false_iff_eq.mpr c3;clear c3
    (first | rw [c3b0] | (simp only [i64_w,i32_w];rw [c3b0]) | skip)
    have H':=Az.mk H;clear H
    go_wp2
    go_meet
    case rel=>exact ⟨_,(true),rs_,H',⟨by first | omega | exact Nat.le_refl _⟩,⟨bmv HB.out⟩⟩
  · rw [if_neg c3] at H
    have c3b0 : (((l0.length : Int) % 2) == 0) = false:=beq_eq_false_iff_ne.mpr c3;have c3b1 : (((l0.length : Int) % 2) != 0) = true:=bne_iff_ne.mpr c3
    (first | rw [c3b0] | (simp only [i64_w,i32_w];rw [c3b0]) | skip)
    replace H:=Option.bind_eq_some_iff.mp H;obtain ⟨t317,A40,H⟩:=H;(try dsimp only at H);have A4:=Az.mk A40;clear A40;replace H:=Option.bind_eq_some_iff.mp H;obtain ⟨t318,A50,H⟩:=H;(try dsimp only at H);have A5:=Az.mk A50;clear A50
    by_cases c6 : t318 = true
    · subst c6
      rw [if_pos rfl] at H;replace H:=Option.bind_eq_some_iff.mp H;obtain ⟨t319,A70,H⟩:=H;(try dsimp only at H);have A7:=Az.mk A70;clear A70;have H':=Az.mk H;clear H
      go_wp2_with (first | (go_at_call 21;(with_reducible refine (r4Leaves.calls _ _ l0 t317 _ ?side1 ?side2 A4.out).mono ?_);(case side1=>exact C_mv ((Kd.C_below HR0.out HB.out)));(case side2=>exact HC0.out);rintro e w' ⟨rfl,⟨nd,rfl⟩⟩) | (go_at_call 44;(with_reducible refine (r3Right.calls t317 true _ A5.out).mono ?_);rintro e w' ⟨rfl,⟨nd,rfl⟩⟩) | (go_at_call 45;(with_reducible refine (r4Tight.calls k _ _ l0 t319 _ ?side1 ?side2 A7.out).mono ?_);(case side1=>exact C_mv ((Kd.C_below HR0.out HB.out)));(case side2=>exact HC0.out);rintro e w' ⟨rfl,⟨nd,rfl⟩⟩))
      go_meet
      case rel=>exact ⟨_,(!t319),rs_,H',⟨by first | omega | exact Nat.le_refl _⟩,⟨bmv HB.out⟩⟩
    · replace c6:=Bool.eq_false_iff.mpr c6
      subst c6;rw [if_neg (show ¬ (false = true) by decide)] at H;have H':=Az.mk H;clear H
      go_wp2_with (first | (go_at_call 21;(with_reducible refine (r4Leaves.calls _ _ l0 t317 _ ?side1 ?side2 A4.out).mono ?_);(case side1=>exact C_mv ((Kd.C_below HR0.out HB.out)));(case side2=>exact HC0.out);rintro e w' ⟨rfl,⟨nd,rfl⟩⟩) | (go_at_call 44;(with_reducible refine (r3Right.calls t317 false _ A5.out).mono ?_);rintro e w' ⟨rfl,⟨nd,rfl⟩⟩))
      go_meet
      case rel=>exact ⟨_,(true),rs_,H',⟨by first | omega | exact Nat.le_refl _⟩,⟨bmv HB.out⟩⟩
 case rest=>
  clear HC2;(try clear c3);(try clear c3b0);(try clear c3b1);(try clear c6);obtain ⟨kq,x18_1,rfl,HA,HJ1,HB⟩:=hcut
  cases kq with
  | zero=>exact absurd HA.out (by simp [r4Check.j0])
  | succ kj1=>
   have H:=HA.out;clear HA;simp only [r4Check.j0] at H
   by_cases c8 : x18_1 = true
   · subst c8
     rw [if_pos rfl] at H;obtain rfl:=Option.some.inj H
     go_wp2
     go_ret
     exact ⟨by first | rfl | (simp [errW_none,errW_some] <;> rfl) | (simp [*,errW_none,errW_some] <;> rfl),bmv HB.out⟩
   · replace c8:=Bool.eq_false_iff.mpr c8
     subst c8;rw [if_neg (show ¬ (false = true) by decide)] at H;have H':=Az.mk H;clear H
     go_wp2
     go_loopg [3] kj1 (fun kq v3 w'=>∃ (x3_2 : Int),v3 = .int .i64 x3_2∧Az (r4Check.l0 kq l0 x3_2 = some r)∧Az (kq≤kj1)∧Az (Below w.heap.size w w'))
     case atStart=>exact ⟨(0),rs_,H',⟨Nat.le_refl _⟩,⟨bmv HB.out⟩⟩
     case round=>
      clear H';(try clear c3);(try clear c3b0);(try clear c3b1);(try clear c6);(try clear c8);obtain ⟨x3_2,rfl,HA,HK2,HB⟩:=hrel
      cases gk with
      | zero=>exact absurd HA.out (by simp [r4Check.l0])
      | succ k2=>
       have H:=HA.out;clear HA;simp only [r4Check.l0] at H
       by_cases c9 : x3_2 < (l0.length : Int)
       · rw [if_pos c9] at H
         have c9b0 : decide (x3_2 < (l0.length : Int)) = true:=decide_eq_true c9;clear c9;replace H:=Option.bind_eq_some_iff.mp H;obtain ⟨t320,A100,H⟩:=H;(try dsimp only at H);have A10:=Az.mk A100;clear A100
         by_cases c11 : t320 = true
         · subst c11
           rw [if_pos rfl] at H;have H':=Az.mk H;clear H
           go_wp2_with (first | ((with_reducible refine gate_callee (f:=46) rfl ?_);refine goesL_ (some 27) rfl rfl Tryd.func46 (by kernel_rfl) rfl #[.slice A0 l0.length c0,.int .i64 x3_2] rfl tl_ ?_;(with_reducible refine (r4vertex.calls k2 _ _ l0 x3_2 true _ ?side1 ?side2 A10.out).mono ?_);(case side1=>exact C_mv ((Kd.C_below HR0.out HB.out)));(case side2=>exact HC0.out);rintro e w12 ⟨rfl,hb⟩;refine ⟨_,rfl,?_⟩;replace HB:=Az.mk (bwT (bmv HB.out) hb);(try clear hb);(try clear hb2);(try clear hk);(try clear hi)))
           go_roundg k2
           case measure=>have:=HJ1.out;have:=HK2.out;omega
           case rel=>exact ⟨(wrap64 (x3_2 + 1)),rs_,H',⟨by have:=HJ1.out;have:=HK2.out;omega⟩,⟨bmv HB.out⟩⟩
         · replace c11:=Bool.eq_false_iff.mpr c11
           subst c11;rw [if_neg (show ¬ (false = true) by decide)] at H;obtain rfl:=Option.some.inj H
           go_wp2_with (first | ((with_reducible refine gate_callee (f:=46) rfl ?_);refine goesL_ (some 27) rfl rfl Tryd.func46 (by kernel_rfl) rfl #[.slice A0 l0.length c0,.int .i64 x3_2] rfl tl_ ?_;(with_reducible refine (r4vertex.calls k2 _ _ l0 x3_2 false _ ?side1 ?side2 A10.out).mono ?_);(case side1=>exact C_mv ((Kd.C_below HR0.out HB.out)));(case side2=>exact HC0.out);rintro e w13 ⟨rfl,hb⟩;refine ⟨_,rfl,?_⟩;replace HB:=Az.mk (bwT (bmv HB.out) hb);(try clear hb);(try clear hb2);(try clear hk);(try clear hi)))
           go_ret
           exact ⟨by first | rfl | (simp [errW_none,errW_some] <;> rfl) | (simp [*,errW_none,errW_some] <;> rfl),bmv HB.out⟩
       · rw [if_neg c9] at H
         have c9b0 : decide (x3_2 < (l0.length : Int)) = false:=decide_eq_false c9;clear c9;obtain rfl:=Option.some.inj H
         go_wp2
         go_ret
         exact ⟨by first | rfl | (simp [errW_none,errW_some] <;> rfl) | (simp [*,errW_none,errW_some] <;> rfl),bmv HB.out⟩
end Go.Proofs.YtbblomnhobodkaaDoor.PTw
set_option linter.unusedVariables false
set_option linter.unusedSimpArgs false
namespace Go.Proofs.YtbblomnhobodkaaDoor.Pure
open Go.RowKit Go.Proofs.YtbblomnhobodkaaDoor Go.Proofs.YtbblomnhobodkaaDoor.PTw Go.Proofs.YtbblomnhobodkaaDoorW.PW
def Evr {α : Type} (g : Nat→Option α) (r : α) : Prop:=∃ K,∀ k,K≤k→g k = some r
theorem Evr.const {α : Type} {g : Nat→Option α} {r : α} (h : ∀ k,g k = some r) : Evr g r:=⟨0,fun k _=>h k⟩
theorem Evr.succ {α : Type} {g f : Nat→Option α} {r : α} (h : ∀ k,g (k + 1) = f k) (hf : Evr f r) : Evr g r:=by
 obtain ⟨K,hK⟩:=hf;refine ⟨K + 1,fun k hk=>?_⟩
 obtain ⟨k,rfl⟩ : ∃ q,k = q + 1:=⟨k - 1,by omega⟩
 rw [h k];exact hK k (by omega)
theorem Evr.bind {α β : Type} {g : Nat→Option α} {f : Nat→α→Option β} {a : α} {r : β} (h : Evr g a) (hf : Evr (fun k=>f k a) r) : Evr (fun k=>(g k).bind (f k)) r:=by
 obtain ⟨K,hK⟩:=h;obtain ⟨L,hL⟩:=hf;exact ⟨K + L,fun k hk=>by show (g k).bind (f k) = some r;rw [hK k (by omega),Option.bind_some];exact hL k (by omega)⟩
theorem Evr.of_mono {α : Type} {g : Nat→Option α} {r : α} (hm : ∀ k a,g k = some a→g (k + 1) = some a) {K : Nat} (h : g K = some r) : Evr g r:=by
 refine ⟨K,fun k hk=>?_⟩;obtain ⟨d,rfl⟩:=Nat.exists_eq_add_of_le hk;clear hk
 induction d with
 | zero=>exact h
 | succ d ih=>exact hm _ _ ih
theorem Evr.congr {α : Type} {f g : Nat→Option α} {r : α} (h : ∀ k,g k = f k) (hf : Evr f r) : Evr g r:=by
 obtain ⟨K,hK⟩:=hf;exact ⟨K,fun k hk=>(h k).trans (hK k hk)⟩
abbrev VX (l : List S29) (x : Nat) : S29:=rd_T29 l (x : Int)
theorem wrap_id {a : Int} (h : -9223372036854775808≤a∧a≤9223372036854775807) : wrap64 a = a:=by unfold wrap64;omega
def pow2s : List Nat:=[1,2,4,8,16,32]
theorem right_same (n : Nat) (hn : n≤200) : heap_Right.f (n : Int) = some (pow2s.contains n)∧r3Right.f (n : Int) = some (pow2s.contains n):=by
 have : ∀ n : Fin 201,heap_Right.f (n.val : Int) = some (pow2s.contains n.val)∧r3Right.f (n.val : Int) = some (pow2s.contains n.val):=by decide +kernel
 exact this ⟨n,by omega⟩
theorem pow2s_le {n : Nat} (h : pow2s.contains n = true) : 1≤n∧n≤32:=by
 have h' : n ∈ pow2s:=by simpa using h
 simp only [pow2s,List.mem_cons,List.mem_nil_iff,or_false] at h'
 omega
set_option maxRecDepth 100000 in
theorem under_fin : ∀ m : Fin 6,∀ x : Fin 63,∀ y : Fin 63,∃ b,heap_Under.f 20 (y.val : Int) (x.val : Int) ((2 ^ m.val : Nat) : Int) = some b∧r3Under.f 20 (y.val : Int) (x.val : Int) ((2 ^ m.val : Nat) : Int) = some b:=by
 have : ∀ m : Fin 6,∀ x : Fin 63,∀ y : Fin 63,heap_Under.f 20 (y.val : Int) (x.val : Int) ((2 ^ m.val : Nat) : Int) = r3Under.f 20 (y.val : Int) (x.val : Int) ((2 ^ m.val : Nat) : Int)∧(r3Under.f 20 (y.val : Int) (x.val : Int) ((2 ^ m.val : Nat) : Int)).isSome = true:=by decide +kernel
 intro m x y;obtain ⟨h1,h2⟩:=this m x y;obtain ⟨b,hb⟩:=Option.isSome_iff_exists.1 h2;exact ⟨b,h1.trans hb,hb⟩
theorem pow2s_form {n : Nat} (h : pow2s.contains n = true) : ∃ m : Fin 6,n = 2 ^ m.val:=by
 have h' : n ∈ pow2s:=by simpa using h
 simp only [pow2s,List.mem_cons,List.mem_nil_iff,or_false] at h'
 rcases h' with h | h | h | h | h | h
 · exact ⟨⟨0,by omega⟩,h⟩
 · exact ⟨⟨1,by omega⟩,h⟩
 · exact ⟨⟨2,by omega⟩,h⟩
 · exact ⟨⟨3,by omega⟩,h⟩
 · exact ⟨⟨4,by omega⟩,h⟩
 · exact ⟨⟨5,by omega⟩,h⟩
theorem under_same {n x y : Nat} (hn : pow2s.contains n = true) (hx : x < 63) (hy : y < 63) : ∃ b,Evr (fun k=>heap_Under.f k (y : Int) (x : Int) (n : Int)) b∧Evr (fun k=>r3Under.f k (y : Int) (x : Int) (n : Int)) b:=by
 obtain ⟨m,rfl⟩:=pow2s_form hn;obtain ⟨b,h1,h2⟩:=under_fin m ⟨x,hx⟩ ⟨y,hy⟩;exact ⟨b,.of_mono (K:=20) (fun k a h=>heap_Under.mono _ _ _ k _ h) h1,.of_mono (K:=20) (fun k a h=>r3Under.mono _ _ _ k _ h) h2⟩
theorem leaves_at {l : List S29} {n : Nat} (h : l.length = 2 * n - 1) (hn : 1≤n) (hn2 : n≤1000) : r4Leaves.f l = some (n : Int)∧tree_Leaves.f l = some (n : Int):=by
 unfold r4Leaves.f tree_Leaves.f;rw [wrap_id (a:=(l.length : Int) + 1) (by omega),Int.tdiv_eq_ediv_of_nonneg (by omega),wrap_id (by omega)]
 have : ((l.length : Int) + 1) / 2 = (n : Int):=by omega
 rw [this];exact ⟨rfl,rfl⟩
def fullB (l : List S29) (n : Nat) (i : Int) : Bool:=decide (0≤i) && decide (i < (n : Int)) && (rd_T29 l (2 * i)).f0
theorem full_same {l : List S29} {n : Nat} (h : l.length = 2 * n - 1) (hn : 1≤n) (hn2 : n≤1000) (i : Int) : r4Full.f l i = some (fullB l n i)∧tree_full.f l i = some (fullB l n i):=by
 unfold r4Full.f tree_full.f fullB;rw [(leaves_at h hn hn2).1,(leaves_at h hn hn2).2]
 by_cases h1 : i≥0
 · simp only [if_pos h1,Option.bind_some,decide_eq_true (show 0≤i by omega),Bool.true_and]
   by_cases h2 : i < (n : Int)
   · simp only [if_pos h2,decide_eq_true h2,Bool.true_and]
     rw [wrap_id (by omega)];simp only [if_pos (show 0≤2 * i by omega),if_pos (show 2 * i < (l.length : Int) by omega),and_self]
   · simp only [if_neg h2,decide_eq_false h2,Bool.false_and,and_self]
 · simp only [if_neg h1,decide_eq_false (show ¬ 0≤i by omega),Bool.false_and,and_self]
theorem fullB_lt {l : List S29} {n : Nat} {i : Int} (h : fullB l n i = true) : 0≤i∧i < n:=by
 unfold fullB at h;simp only [Bool.and_eq_true,decide_eq_true_eq] at h;exact ⟨h.1.1,h.1.2⟩
theorem ints_l0 (l m : List Int) (he : l.length = m.length) (hl : l.length≤100000000000000000) : ∀ (n k i : Nat),n + i = l.length→n < k→r1Ints.l0 k l m (i : Int) = some (decide (l.drop i = m.drop i))
 | 0,k + 1,i,hn,hk=>by
  rw [r1Ints.l0,if_neg (by omega),List.drop_eq_nil_of_le (by omega),List.drop_eq_nil_of_le (by omega)]
  rfl
 | n + 1,k + 1,i,hn,hk=>by
  rw [r1Ints.l0,if_pos (by omega),if_pos (by omega),if_pos (by omega)]
  have e1 : rd l (i : Int) = l[i]'(by omega):=by simp [rd,List.getD_eq_getElem?_getD,List.getElem?_eq_getElem (show i < l.length by omega)]
  have e2 : rd m (i : Int) = m[i]'(by omega):=by simp [rd,List.getD_eq_getElem?_getD,List.getElem?_eq_getElem (show i < m.length by omega)]
  have d1 : l.drop i = l[i]'(by omega) :: l.drop (i + 1):=List.drop_eq_getElem_cons (by omega);have d2 : m.drop i = m[i]'(by omega) :: m.drop (i + 1):=List.drop_eq_getElem_cons (by omega);rw [d1,d2,e1,e2]
  by_cases c : l[i]'(by omega) = m[i]'(by omega)
  · rw [if_pos c,wrap_id (by omega),show (i : Int) + 1 = ((i + 1 : Nat) : Int) by omega,ints_l0 l m he hl n k (i + 1) (by omega) (by omega)]
    congr 1
    rw [decide_eq_decide,c,List.cons.injEq];exact ⟨fun h=>⟨rfl,h⟩,fun h=>h.2⟩
  · rw [if_neg c]
    congr 1
    exact (decide_eq_false fun h=>c (List.cons.inj h).1).symm
theorem ints_ev (l m : List Int) (hl : l.length≤100000000000000000) : Evr (fun k=>r1Ints.f k l m) (decide (l = m)):=by
 refine ⟨l.length + 1,fun k hk=>?_⟩
 show r1Ints.f k l m = _
 unfold r1Ints.f
 by_cases he : l.length = m.length
 · rw [if_pos (by omega)]
   have:=ints_l0 l m he hl l.length k 0 (by omega) (by omega)
   simpa using this
 · rw [if_neg (by omega),decide_eq_false (fun e=>he (by rw [e]))]
theorem VX_at {l : List S29} {i : Nat} (h : i < l.length) : VX l i = l[i]:=by
 show rd_T29 l (i : Int) = _
 unfold rd_T29;rw [Int.toNat_natCast,List.getD_eq_getElem?_getD,List.getElem?_eq_getElem h];rfl
theorem same_refl {l : List S29} (hl : l.length≤1000) (h5 : ∀ v ∈ l,v.f5.length≤100000000000000000) : Evr (fun k=>r4Same.f k l l) true:=by
 have hl0 : ∀ (d i : Nat),d + i = l.length→Evr (fun k=>r4Same.l0 k l l (i : Int)) true:=by
  intro d
  induction d with
  | zero=>exact fun i hd=>.succ (f:=fun _=>some true) (fun k=>by rw [r4Same.l0,if_neg (by omega)]) (.const fun _=>rfl)
  | succ d ih=>
   intro i hd;have hn:=ih (i + 1) (by omega);have hi:=ints_ev (VX l i).f5 (VX l i).f5 (by rw [VX_at (show i < l.length by omega)];exact h5 _ (List.getElem_mem _));refine .succ (f:=fun k=>(r1Ints.f k (VX l i).f5 (VX l i).f5).bind fun t=>if t = true then r4Same.l0 k l l ((i : Int) + 1) else some false) (fun k=>?_) (.bind hi ?_)
   · rw [r4Same.l0,if_pos (by omega),if_pos (by omega),if_pos (by omega),if_neg (by simp),if_pos rfl,if_pos rfl,if_pos rfl,if_pos rfl,wrap_id (by omega)]
   · rw [decide_eq_true rfl]
     exact hn
 unfold r4Same.f;simp only [if_true];exact hl0 l.length 0 (by omega)
theorem copy_ev {l : List S29} (hl : l.length≤1000) (h5 : ∀ v ∈ l,v.f5.length < 17592186044416) : Evr (fun k=>r4Copy.f k l) l:=by
 have hl0 : ∀ (d i : Nat),d + i = l.length→Evr (fun k=>r4Copy.l0 k l (l.take i) (i : Int)) l:=by
  intro d
  induction d with
  | zero=>
   intro i hd;refine .succ (f:=fun _=>some l) (fun k=>?_) (.const fun _=>rfl);rw [r4Copy.l0,if_neg (by omega),List.take_of_length_le (by omega)]
  | succ d ih=>
   intro i hd
   have hi : i < l.length:=by omega
   have hn:=ih (i + 1) (by omega);refine .succ (fun k=>?_) hn;have e : rd_T29 l (i : Int) = l[i]:=VX_at hi;rw [r4Copy.l0,if_pos (by omega),if_pos (by omega),Option.bind_some,e,if_pos (by have:=h5 _ (List.getElem_mem hi);simpa using this),if_pos (by simp;omega),wrap_id (by omega),List.take_add_one,List.getElem?_eq_getElem hi]
   rfl
 exact hl0 l.length 0 (by omega)
end Go.Proofs.YtbblomnhobodkaaDoor.Pure
set_option linter.unusedVariables false
set_option linter.unusedSimpArgs false
namespace Go.Proofs.YtbblomnhobodkaaDoor.Pure
open Go.RowKit Go.Proofs.YtbblomnhobodkaaDoor Go.Proofs.YtbblomnhobodkaaDoor.PTw Go.Proofs.YtbblomnhobodkaaDoorW.PW
def mkT (N : Nat) (g : Nat→S29) : List S29:=(List.range N).map g
theorem mkT_len (N : Nat) (g : Nat→S29) : (mkT N g).length = N:=by simp [mkT]
theorem mkT_get {N : Nat} {g : Nat→S29} {x : Nat} (h : x < N) : VX (mkT N g) x = g x:=by
 rw [VX_at (by rw [mkT_len];exact h)]
 simp [mkT]
theorem VX_out {l : List S29} {x : Nat} (h : l.length≤x) : VX l x = z29:=by
 show rd_T29 l (x : Int) = _
 unfold rd_T29;rw [Int.toNat_natCast,List.getD_eq_getElem?_getD,List.getElem?_eq_none h]
 rfl
theorem mkT_self (l : List S29) : l = mkT l.length (VX l):=by
 refine List.ext_getElem (by rw [mkT_len]) fun i h1 h2=>?_
 rw [← VX_at h1]
 simp [mkT]
theorem mkT_congr {N : Nat} {g g' : Nat→S29} (h : ∀ x,x < N→g x = g' x) : mkT N g = mkT N g':=by
 unfold mkT
 exact List.map_congr_left fun x hx=>h x (List.mem_range.1 hx)
theorem mkT_set {N : Nat} {g : Nat→S29} {i : Nat} {v : S29} : (mkT N g).set i v = mkT N (fun x=>if x = i then v else g x):=by
 refine List.ext_getElem (by simp [mkT_len]) fun x h1 h2=>?_
 rw [List.getElem_set];simp only [mkT,List.getElem_map,List.getElem_range]
 by_cases c : i = x
 · rw [if_pos c,if_pos c.symm]
 · rw [if_neg c,if_neg (fun e=>c e.symm)]
theorem mkT_app {N M : Nat} {g : Nat→S29} (h : ∀ x,N≤x→g x = z29) : mkT N g ++ List.replicate M z29 = mkT (N + M) g:=by
 refine List.ext_getElem (by simp [mkT_len]) fun x h1 h2=>?_
 rw [List.getElem_append]
 by_cases c : x < N
 · rw [dif_pos (by rw [mkT_len];exact c)]
   simp [mkT]
 · rw [dif_neg (by rw [mkT_len];exact c),List.getElem_replicate]
   simp only [mkT,List.getElem_map,List.getElem_range];exact (h x (by omega)).symm
theorem mkT_take {N M : Nat} {g : Nat→S29} (h : M≤N) : (mkT N g).take M = mkT M g:=by
 refine List.ext_getElem (by simp [mkT_len];omega) fun x h1 h2=>?_
 rw [List.getElem_take]
 simp [mkT]
def pathN (i m : Nat) : List Nat:=(List.range m).map fun k=>i / 2 ^ (k + 1) * 2 ^ (k + 2) + 2 ^ (k + 1) - 1
def ints (l : List Nat) : List Int:=l.map fun (x : Nat)=>(x : Int)
theorem ints_len (l : List Nat) : (ints l).length = l.length:=by simp [ints]
theorem ints_at {l : List Nat} {j : Nat} (h : j < l.length) : rd (ints l) (j : Int) = (l[j] : Int):=by
 simp [rd,ints,List.getD_eq_getElem?_getD,List.getElem?_eq_getElem h]
set_option maxRecDepth 100000 in
theorem path_fin : ∀ m : Fin 6,∀ i : Fin 32,i.val < 2 ^ m.val→heap_Path.f (2 * (i.val : Int)) ((2 ^ m.val : Nat) : Int) = some (ints (pathN i.val m.val),0):=by decide +kernel
theorem path_at {m i : Nat} (hm : m≤5) (hi : i < 2 ^ m) : heap_Path.f (2 * (i : Int)) ((2 ^ m : Nat) : Int) = some (ints (pathN i m),0):=by
 have h32 : i < 32:=Nat.lt_of_lt_of_le hi (Nat.le_trans (Nat.pow_le_pow_right (by decide) hm) (by decide));exact path_fin ⟨m,by omega⟩ ⟨i,h32⟩ hi
theorem pathN_fin : ∀ m : Fin 6,∀ i : Fin 32,i.val < 2 ^ m.val→(pathN i.val m.val).Nodup∧∀ x ∈ pathN i.val m.val,x % 2 = 1∧x < 2 * 2 ^ m.val - 1:=by decide +kernel
theorem pathN_ok {m i : Nat} (hm : m≤5) (hi : i < 2 ^ m) : (pathN i m).Nodup∧∀ x ∈ pathN i m,x % 2 = 1∧x < 2 * 2 ^ m - 1:=by
 have h32 : i < 32:=Nat.lt_of_lt_of_le hi (Nat.le_trans (Nat.pow_le_pow_right (by decide) hm) (by decide));exact pathN_fin ⟨m,by omega⟩ ⟨i,h32⟩ hi
theorem pow_le32 {m : Nat} (hm : m≤5) : 1≤2 ^ m∧2 ^ m≤32:=⟨Nat.one_le_two_pow,Nat.le_trans (Nat.pow_le_pow_right (by decide) hm) (by decide)⟩
theorem mem_cut {P : List Nat} {j x : Nat} (hj : j < P.length) : x ∈ P.drop j↔x = P[j]∨x ∈ P.drop (j + 1):=by
 rw [List.drop_eq_getElem_cons hj,List.mem_cons]
theorem clean_l0 (P : List Nat) (N : Nat) (hP : ∀ x ∈ P,x < N) (hl : P.length≤1000) : ∀ (d j : Nat) (g : Nat→S29),d + j = P.length→Evr (fun k=>tree_clean.l0 k (ints P) ((ints P).length : Int) (j : Int) (mkT N g)) (mkT N (fun x=>if x ∈ P.drop j then z29 else g x)):=by
 intro d
 induction d with
 | zero=>
  intro j g hd;refine .succ (f:=fun _=>some (mkT N g)) (fun k=>by rw [tree_clean.l0,ints_len,if_neg (by omega)]) (.const fun _=>?_);rw [List.drop_eq_nil_of_le (by omega)];simp only [List.not_mem_nil,if_false]
 | succ d ih=>
  intro j g hd
  have hj : j < P.length:=by omega
  have hx:=hP _ (List.getElem_mem hj)
  have mem:=fun x=>mem_cut hj (x:=x)
  have h1:=ih (j + 1) (fun x=>if x = P[j] then z29 else g x) (by omega);refine .succ (f:=fun k=>tree_clean.l0 k (ints P) ((ints P).length : Int) ((j + 1 : Nat) : Int) (mkT N (fun x=>if x = P[j] then z29 else g x))) (fun k=>?_) ?_
  · rw [tree_clean.l0,ints_len,if_pos (by omega),if_pos (by omega),if_pos (by omega),ints_at hj,if_pos (by omega),mkT_len,if_pos (by omega),wrap_id (by omega),Int.toNat_natCast,show (j : Int) + 1 = ((j + 1 : Nat) : Int) by omega,← mkT_set]
    rfl
  · have e : (mkT N fun x=>if x ∈ P.drop j then z29 else g x) = mkT N (fun x=>if x ∈ P.drop (j + 1) then z29 else if x = P[j] then z29 else g x):=mkT_congr fun x _=>by
     by_cases c1 : x = P[j]
     · rw [if_pos ((mem x).2 (.inl c1)),if_pos c1,ite_self]
     · by_cases c2 : x ∈ P.drop (j + 1)
       · rw [if_pos ((mem x).2 (.inr c2)),if_pos c2]
       · rw [if_neg (fun hh=>((mem x).1 hh).elim c1 c2),if_neg c2,if_neg c1]
    rw [e];exact h1
theorem clean_ev {m i : Nat} (hm : m≤5) (hi : i < 2 ^ m) (g : Nat→S29) : Evr (fun k=>tree_clean.f k (mkT (2 * 2 ^ m - 1) g) (i : Int)) (mkT (2 * 2 ^ m - 1) (fun x=>if x ∈ pathN i m then z29 else g x)):=by
 have hp:=pow_le32 hm;unfold tree_clean.f;rw [(leaves_at (l:=mkT (2 * 2 ^ m - 1) g) (n:=2 ^ m) (mkT_len _ _) hp.1 (by omega)).2];simp only [Option.bind_some];rw [wrap_id (by omega),path_at hm hi];simp only [Option.bind_some];have h:=clean_l0 (pathN i m) (2 * 2 ^ m - 1) (fun x hx=>((pathN_ok hm hi).2 x hx).2) (by simp [pathN];omega) (pathN i m).length 0 g (by omega);rw [List.drop_zero] at h;exact h
theorem copied_at {l : List S29} (k : Nat) (hl : l.length≤1000) (h5 : ∀ v ∈ l,v.f5.length < 17592186044416) : tree_copied.f k l = some l:=by
 unfold tree_copied.f;rw [if_pos (by omega),if_pos];rw [List.all_eq_true];intro v hv;exact decide_eq_true (h5 v hv)
def insN (l : List Int) (i : Int) : List Int:=l.take (l.countP (· < i)) ++ i :: l.drop (l.countP (· < i))
def lateIn (v : S29) (i : Int) : S29:=⟨v.f0,v.f1,v.f2,v.f3,v.f4,insN v.f5 i⟩
theorem add_l1 (P : List Nat) (N : Nat) (hP : ∀ x ∈ P,x < N) (hN : P.Nodup) (hl : P.length≤1000) (i : Int) : ∀ (d j : Nat) (g : Nat→S29),d + j = P.length→(∀ x ∈ P.drop j,(g x).f0 = true→(g x).f5.Pairwise (·≤·)∧(g x).f5.length≤1000)→
 Evr (fun k=>tree_Add.l1 k i (mkT N g) (ints P) ((ints P).length : Int) (j : Int)) (mkT N (fun x=>if x ∈ P.drop j∧(g x).f0 = true then lateIn (g x) i else g x),i,0):=by
 intro d
 induction d with
 | zero=>
  intro j g hd _;refine .succ (f:=fun _=>some (mkT N g,i,0)) (fun k=>by rw [tree_Add.l1,ints_len,if_neg (by omega)]) (.const fun _=>?_);rw [List.drop_eq_nil_of_le (by omega)];simp only [List.not_mem_nil,false_and,if_false]
 | succ d ih=>
  intro j g hd hg
  have hj : j < P.length:=by omega
  have hx:=hP _ (List.getElem_mem hj);have hdrop:=List.drop_eq_getElem_cons hj
  have mem:=fun x=>mem_cut hj (x:=x)
  have hnot : P[j] ∉ P.drop (j + 1):=by
   have:=hN
   rw [← List.take_append_drop j P,hdrop] at this
   have:=(List.nodup_append.1 this).2.1
   exact (List.nodup_cons.1 this).1
  by_cases c : (g P[j]).f0 = true
  · obtain ⟨hs,hlen⟩:=hg P[j] (by rw [hdrop];exact List.mem_cons_self ..) c
    have h1:=ih (j + 1) (fun x=>if x = P[j] then lateIn (g P[j]) i else g x) (by omega) (fun x hx2=>by
     have : x≠P[j]:=fun e=>hnot (by rw [← e];exact hx2)
     simp only [this,if_false]
     exact hg x (by rw [hdrop];exact List.mem_cons_of_mem _ hx2))
    have hcnt:=List.countP_le_length (p:=fun a=>decide (a < i)) (l:=(g P[j]).f5);refine .succ (f:=fun k=>tree_Add.l1 k i (mkT N (fun x=>if x = P[j] then lateIn (g P[j]) i else g x)) (ints P) ((ints P).length : Int) ((j + 1 : Nat) : Int)) (fun k=>?_) ?_
    · rw [tree_Add.l1,ints_len,if_pos (by omega),if_pos (by omega),if_pos (by omega),ints_at hj,if_pos (by omega),mkT_len,if_pos (by omega)]
      have e : rd_T29 (mkT N g) (P[j] : Int) = g P[j]:=mkT_get hx;rw [e,if_pos c];unfold sBS.f;rw [if_pos (by omega),if_pos hs,Option.bind_some];unfold sIn.f;rw [if_pos (by omega),if_pos (by omega),if_pos (by omega)];simp only [Option.bind_some,Int.toNat_natCast];rw [mkT_set,wrap_id (by omega),show (j : Int) + 1 = ((j + 1 : Nat) : Int) by omega]
      rfl
    · have e : (mkT N fun x=>if x ∈ P.drop j∧(g x).f0 = true then lateIn (g x) i else g x) = mkT N (fun x=>if x ∈ P.drop (j + 1)∧(if x = P[j] then lateIn (g P[j]) i else g x).f0 = true then lateIn (if x = P[j] then lateIn (g P[j]) i else g x) i else if x = P[j] then lateIn (g P[j]) i else g x):=mkT_congr fun x _=>by
       by_cases c1 : x = P[j]
       · have c' : (g x).f0 = true:=by rw [c1];exact c
         rw [if_pos ⟨(mem x).2 (.inl c1),c'⟩,if_neg (fun hh=>hnot (by rw [← c1];exact hh.1)),if_pos c1,c1]
       · simp only [if_neg c1]
         by_cases c2 : x ∈ P.drop (j + 1)∧(g x).f0 = true
         · rw [if_pos c2,if_pos ⟨(mem x).2 (.inr c2.1),c2.2⟩]
         · rw [if_neg c2,if_neg (fun hh=>((mem x).1 hh.1).elim c1 (fun h2=>c2 ⟨h2,hh.2⟩))]
      rw [e];exact h1
  · have h1:=ih (j + 1) g (by omega) (fun x hx2=>hg x (by rw [hdrop];exact List.mem_cons_of_mem _ hx2))
    refine .succ (f:=fun k=>tree_Add.l1 k i (mkT N g) (ints P) ((ints P).length : Int) ((j + 1 : Nat) : Int)) (fun k=>?_) ?_
    · rw [tree_Add.l1,ints_len,if_pos (by omega),if_pos (by omega),if_pos (by omega),ints_at hj,if_pos (by omega),mkT_len,if_pos (by omega)]
      have e : rd_T29 (mkT N g) (P[j] : Int) = g P[j]:=mkT_get hx;rw [e,if_neg c,wrap_id (by omega),show (j : Int) + 1 = ((j + 1 : Nat) : Int) by omega]
    · have e : (mkT N fun x=>if x ∈ P.drop j∧(g x).f0 = true then lateIn (g x) i else g x) = mkT N (fun x=>if x ∈ P.drop (j + 1)∧(g x).f0 = true then lateIn (g x) i else g x):=mkT_congr fun x _=>by
       by_cases c1 : x = P[j]
       · rw [if_neg (fun hh=>c (by rw [← c1];exact hh.2)),if_neg (fun hh=>hnot (by rw [← c1];exact hh.1))]
       · by_cases c2 : x ∈ P.drop (j + 1)∧(g x).f0 = true
         · rw [if_pos c2,if_pos ⟨(mem x).2 (.inr c2.1),c2.2⟩]
         · rw [if_neg c2,if_neg (fun hh=>((mem x).1 hh.1).elim c1 (fun h2=>c2 ⟨h2,hh.2⟩))]
      rw [e];exact h1
def addL (l : List S29) (i m : Nat) (leaf : S29) : List S29:=mkT (2 * 2 ^ m - 1) (fun x=>if x ∈ pathN i m∧(VX l x).f0 = true then lateIn (VX l x) i else if x = 2 * i then leaf else VX l x)
structure LateOk (l : List S29) : Prop where
 len : ∀ v ∈ l,v.f5.length≤1000
 up : ∀ v ∈ l,v.f0 = true→v.f5.Pairwise (·≤·)
theorem LateOk.at {l : List S29} (h : LateOk l) (x : Nat) : (VX l x).f5.length≤1000∧((VX l x).f0 = true→(VX l x).f5.Pairwise (·≤·)):=by
 by_cases c : x < l.length
 · rw [VX_at c];exact ⟨h.len _ (List.getElem_mem c),h.up _ (List.getElem_mem c)⟩
 · rw [VX_out (by omega)]
   exact ⟨by simp [z29],fun e=>by simp [z29] at e⟩
end Go.Proofs.YtbblomnhobodkaaDoor.Pure
set_option linter.unusedVariables false
set_option linter.unusedSimpArgs false
namespace Go.Proofs.YtbblomnhobodkaaDoor.Pure
open Go.RowKit Go.Proofs.YtbblomnhobodkaaDoor Go.Proofs.YtbblomnhobodkaaDoor.PTw Go.Proofs.YtbblomnhobodkaaDoorW.PW
theorem add_j3_open {N m i : Nat} (hm : m≤5) (hi : i < 2 ^ m) (hN : N = 2 * 2 ^ m - 1) (g : Nat→S29) (f0 : Bool) (f1 f2 f3 f4 : Int) (l5 : List Int) (k : Nat) :
 tree_Add.j3 (k + 1) ((2 ^ m : Nat) : Int) (i : Int) (mkT N g) f0 f1 f2 f3 f4 l5 = tree_Add.l1 k (i : Int) (mkT N (fun x=>if x = 2 * i then ⟨true,f1,f2,f3,f4,[]⟩ else g x)) (ints (pathN i m)) ((ints (pathN i m)).length : Int) 0:=by
 have hp:=pow_le32 hm;have hpa:=path_at hm hi
 generalize 2 ^ m = n at *
 rw [tree_Add.j3];have hlo : tree_leafOf.f f0 f1 f2 f3 f4 l5 = some (true,f1,f2,f3,f4,[]):=rfl;rw [hlo,Option.bind_some,wrap_id (by omega),if_pos (by omega),mkT_len,if_pos (by omega),hpa,Option.bind_some,show (2 * (i : Int)).toNat = 2 * i by omega,mkT_set]
theorem add_j3 {N m i : Nat} (hm : m≤5) (hi : i < 2 ^ m) (hN : N = 2 * 2 ^ m - 1) (g : Nat→S29) (hg : ∀ x,(g x).f5.length≤1000∧((g x).f0 = true→(g x).f5.Pairwise (·≤·))) (f0 : Bool) (f1 f2 f3 f4 : Int) (l5 : List Int) :
 Evr (fun k=>tree_Add.j3 k ((2 ^ m : Nat) : Int) (i : Int) (mkT N g) f0 f1 f2 f3 f4 l5) (mkT N (fun x=>if x ∈ pathN i m∧(g x).f0 = true then lateIn (g x) i else if x = 2 * i then ⟨true,f1,f2,f3,f4,[]⟩ else g x),(i : Int),0):=by
 have hok:=pathN_ok hm hi
 have hpl : (pathN i m).length≤1000:=by simp [pathN];omega
 have hop:=add_j3_open hm hi hN g f0 f1 f2 f3 f4 l5
 generalize pathN i m = P at *
 generalize ((2 ^ m : Nat) : Int) = n at *
 have h:=add_l1 P N (fun x hx=>by have:=(hok.2 x hx).2;omega) hok.1 hpl (i : Int) P.length 0 (fun x=>if x = 2 * i then ⟨true,f1,f2,f3,f4,[]⟩ else g x) (by omega) (fun x hx=>by
  have h2:=(hok.2 x hx).1
  have : x≠2 * i:=by omega
  simp only [this,if_false]
  exact fun hf=>⟨(hg x).2 hf,(hg x).1⟩)
 refine .succ hop ?_
 have e : (mkT N fun x=>if x ∈ P∧(g x).f0 = true then lateIn (g x) i else if x = 2 * i then ⟨true,f1,f2,f3,f4,[]⟩ else g x) = mkT N (fun x=>if x ∈ P.drop 0∧(if x = 2 * i then (⟨true,f1,f2,f3,f4,[]⟩ : S29) else g x).f0 = true then lateIn (if x = 2 * i then (⟨true,f1,f2,f3,f4,[]⟩ : S29) else g x) i else if x = 2 * i then ⟨true,f1,f2,f3,f4,[]⟩ else g x):=mkT_congr fun x _=>by
  rw [List.drop_zero]
  by_cases c : x = 2 * i
  · have hn : x ∉ P:=fun hx=>by have:=(hok.2 x hx).1;omega
    rw [if_neg (fun hh=>hn hh.1),if_pos c,if_neg (fun hh=>hn hh.1)]
  · simp only [if_neg c]
 rw [e];exact h
theorem add_l0 {l : List S29} {n : Nat} (h : l.length = 2 * n - 1) (hn : 1≤n) (hn2 : n≤32) (f0 : Bool) (f1 f2 f3 f4 : Int) (l5 : List Int) {i : Nat} (hi : i≤n) (hfull : ∀ j,j < i→(VX l (2 * j)).f0 = true) (hfree : i < n→(VX l (2 * i)).f0 = false) {r : List S29 × Int × Int} (hr : Evr (fun k=>tree_Add.j1 k l (n : Int) (i : Int) f0 f1 f2 f3 f4 l5) r) : ∀ (d j : Nat),d + j = i→Evr (fun k=>tree_Add.l0 k l (n : Int) (j : Int) f0 f1 f2 f3 f4 l5) r:=by
 intro d
 induction d with
 | zero=>
  intro j hd
  have : j = i:=by omega
  subst this;refine .succ (f:=fun k=>tree_Add.j1 k l (n : Int) (j : Int) f0 f1 f2 f3 f4 l5) (fun k=>?_) hr;rw [tree_Add.l0]
  by_cases c : j < n
  · have e:=hfree c
    rw [if_pos (by omega),wrap_id (by omega),if_pos (by omega),if_pos (by omega)];have e' : (rd_T29 l (2 * (j : Int))).f0 = false:=e;rw [e']
    rfl
  · rw [if_neg (by omega)]
 | succ d ih=>
  intro j hd;refine .succ (fun k=>?_) (ih (j + 1) (by omega));have e' : (rd_T29 l (2 * (j : Int))).f0 = true:=hfull j (by omega);rw [tree_Add.l0,if_pos (by omega),wrap_id (a:=2 * (j : Int)) (by omega),if_pos (by omega),if_pos (by omega),e',if_pos rfl,wrap_id (by omega),show (j : Int) + 1 = ((j + 1 : Nat) : Int) by omega]
theorem add_ev {l : List S29} {m m' i : Nat} (hm : m≤5) (h : l.length = 2 * 2 ^ m - 1) (hl : LateOk l) (hi : i≤2 ^ m) (hfull : ∀ j,j < i→(VX l (2 * j)).f0 = true) (hfree : i < 2 ^ m→(VX l (2 * i)).f0 = false) (hm' : (i < 2 ^ m∧m' = m)∨(i = 2 ^ m∧m' = m + 1∧m'≤5)) (f0 : Bool) (f1 f2 f3 f4 : Int) (l5 : List Int) :
 Evr (fun k=>tree_Add.f k l f0 f1 f2 f3 f4 l5) (addL l i m' ⟨true,f1,f2,f3,f4,[]⟩,(i : Int),0):=by
 have hp:=pow_le32 hm;have hg:=hl.at
 have h5 : ∀ v ∈ l,v.f5.length < 17592186044416:=fun v hv=>by have:=hl.len v hv;omega
 refine .congr (f:=fun k=>tree_Add.l0 k l ((2 ^ m : Nat) : Int) 0 f0 f1 f2 f3 f4 l5) (fun k=>by unfold tree_Add.f;rw [(leaves_at h hp.1 (by omega)).2,Option.bind_some]) ?_;refine add_l0 h hp.1 hp.2 f0 f1 f2 f3 f4 l5 hi hfull hfree ?_ i 0 (by omega)
 rcases hm' with ⟨hlt,rfl⟩ | ⟨rfl,rfl,hm5⟩
 · refine .succ (f:=fun k=>tree_Add.j2 k l ((2 ^ m' : Nat) : Int) (i : Int) false f0 f1 f2 f3 f4 l5) (fun k=>?_) (.succ (f:=fun k=>tree_Add.j3 k ((2 ^ m' : Nat) : Int) (i : Int) l f0 f1 f2 f3 f4 l5) (fun k=>?_) ?_)
   · rw [tree_Add.j1,if_neg (by omega)]
   · rw [tree_Add.j2,if_neg (by decide),copied_at k (by omega) h5,Option.bind_some,if_neg (by omega)]
   · have:=add_j3 (N:=l.length) hm hlt h (VX l) hg f0 f1 f2 f3 f4 l5
     rw [← mkT_self l,h] at this;exact this
 · refine .succ (f:=fun k=>tree_Add.j2 k l ((2 ^ m : Nat) : Int) ((2 ^ m : Nat) : Int) false f0 f1 f2 f3 f4 l5) (fun k=>?_) (.succ (f:=fun k=>tree_Add.j3 k ((2 ^ (m + 1) : Nat) : Int) ((2 ^ m : Nat) : Int) (mkT (2 * 2 ^ (m + 1) - 1) (VX l)) f0 f1 f2 f3 f4 l5) (fun k=>?_) ?_)
   · have h16 : 2 ^ m≤16:=Nat.le_trans (Nat.pow_le_pow_right (by decide) (show m≤4 by omega)) (by decide)
     rw [tree_Add.j1,if_pos rfl,decide_eq_false (by omega)]
   · have h16 : 2 ^ m≤16:=Nat.le_trans (Nat.pow_le_pow_right (by decide) (show m≤4 by omega)) (by decide)
     rw [tree_Add.j2,if_neg (by decide),copied_at k (by omega) h5,Option.bind_some,if_pos rfl,wrap_id (by omega),if_pos (by omega),if_pos (by omega),wrap_id (by omega)]
     have e1 : l ++ List.replicate (2 * ((2 ^ m : Nat) : Int)).toNat z29 = mkT (2 * 2 ^ (m + 1) - 1) (VX l):=by
      conv=>lhs;rw [mkT_self l]
      rw [mkT_app (fun x hx=>VX_out hx)]
      congr 1
      rw [h,Nat.pow_succ]
      omega
     rw [e1,show ((2 ^ m : Nat) : Int) * 2 = ((2 ^ (m + 1) : Nat) : Int) by rw [Nat.pow_succ];omega]
   · exact add_j3 hm5 (by rw [Nat.pow_succ];omega) rfl (VX l) hg f0 f1 f2 f3 f4 l5
theorem add_none {l : List S29} (h : l.length = 63) (hfull : ∀ j,j < 32→(VX l (2 * j)).f0 = true) (f0 : Bool) (f1 f2 f3 f4 : Int) (l5 : List Int) : Evr (fun k=>tree_Add.f k l f0 f1 f2 f3 f4 l5) ([],0,41):=by
 refine .congr (f:=fun k=>tree_Add.l0 k l 32 0 f0 f1 f2 f3 f4 l5) (fun k=>by unfold tree_Add.f;rw [(leaves_at (n:=32) (by omega) (by omega) (by omega)).2,Option.bind_some];rfl) ?_;refine add_l0 (n:=32) (i:=32) (by omega) (by omega) (by omega) f0 f1 f2 f3 f4 l5 (by omega) hfull (by omega) ?_ 32 0 (by omega);refine .succ (f:=fun k=>tree_Add.j2 k l 32 32 true f0 f1 f2 f3 f4 l5) (fun k=>?_) (.succ (f:=fun _=>some (([] : List S29),0,41)) (fun k=>?_) (.const fun _=>rfl))
 · rw [tree_Add.j1];rfl
 · rw [tree_Add.j2,if_pos rfl]
end Go.Proofs.YtbblomnhobodkaaDoor.Pure
set_option linter.unusedVariables false
set_option linter.unusedSimpArgs false
namespace Go.Proofs.YtbblomnhobodkaaDoor.Pure
open Go.RowKit Go.Proofs.YtbblomnhobodkaaDoor Go.Proofs.YtbblomnhobodkaaDoor.PTw Go.Proofs.YtbblomnhobodkaaDoorW.PW
theorem ints_append (a b : List Nat) : ints (a ++ b) = ints a ++ ints b:=by simp [ints]
def fullN (l : List S29) (j d : Nat) : List Nat:=(List.range' j d).filter fun i=>(VX l (2 * i)).f0
theorem members_l0 {l : List S29} {n : Nat} (h : l.length = 2 * n - 1) (hn : 1≤n) (hn2 : n≤1000) : ∀ (d j : Nat) (acc : List Nat),d + j = n→acc.length≤j→Evr (fun k=>tree_Members.l0 k l (ints acc) (n : Int) (j : Int)) (ints (acc ++ fullN l j d)):=by
 intro d
 induction d with
 | zero=>
  intro j acc hd ha;refine .succ (f:=fun _=>some (ints acc)) (fun k=>by rw [tree_Members.l0,if_neg (by omega)]) (.const fun _=>?_)
  simp [fullN]
 | succ d ih=>
  intro j acc hd ha;have e0 : (rd_T29 l (2 * (j : Int))).f0 = (VX l (2 * j)).f0:=rfl
  have e1 : fullN l j (d + 1) = if (VX l (2 * j)).f0 = true then j :: fullN l (j + 1) d else fullN l (j + 1) d:=by
   unfold fullN;rw [List.range'_succ,List.filter_cons]
  by_cases c : (VX l (2 * j)).f0 = true
  · rw [e1,if_pos c,show acc ++ j :: fullN l (j + 1) d = acc ++ [j] ++ fullN l (j + 1) d by simp]
    refine .succ (fun k=>?_) (ih (j + 1) (acc ++ [j]) (by omega) (by simp;omega));rw [tree_Members.l0,if_pos (by omega),wrap_id (a:=2 * (j : Int)) (by omega),if_pos (by omega),if_pos (by omega),e0,if_pos c,ints_len,if_pos (by omega),wrap_id (by omega),show (j : Int) + 1 = ((j + 1 : Nat) : Int) by omega,ints_append]
    rfl
  · rw [e1,if_neg c]
    refine .succ (fun k=>?_) (ih (j + 1) acc (by omega) (by omega));rw [tree_Members.l0,if_pos (by omega),wrap_id (a:=2 * (j : Int)) (by omega),if_pos (by omega),if_pos (by omega),e0,if_neg c,wrap_id (by omega),show (j : Int) + 1 = ((j + 1 : Nat) : Int) by omega]
theorem members_ev {l : List S29} {n : Nat} (h : l.length = 2 * n - 1) (hn : 1≤n) (hn2 : n≤1000) : Evr (fun k=>tree_Members.f k l) (ints (fullN l 0 n)):=by
 refine .congr (f:=fun k=>tree_Members.l0 k l (ints []) (n : Int) 0) (fun k=>by unfold tree_Members.f;rw [(leaves_at h hn hn2).2,Option.bind_some];rfl) ?_
 have:=members_l0 h hn hn2 n 0 [] (by omega) (by simp)
 rw [List.nil_append] at this;exact this
theorem tight_no {l : List S29} {n : Nat} (h : l.length = 2 * n - 1) (hn : 1≤n) (hn2 : n≤1000) (hno : ∀ i,n / 2≤i→i < n→(VX l (2 * i)).f0 = false) : Evr (fun k=>tree_tight.f k l) false:=by
 have hl0 : ∀ (d j : Nat),d + j = n→n / 2≤j→Evr (fun k=>tree_tight.l0 k l (n : Int) (j : Int)) false:=by
  intro d
  induction d with
  | zero=>exact fun j hd _=>.succ (f:=fun _=>some false) (fun k=>by rw [tree_tight.l0,if_neg (by omega)]) (.const fun _=>rfl)
  | succ d ih=>
   intro j hd hj;have e0 : (rd_T29 l (2 * (j : Int))).f0 = false:=hno j hj (by omega);refine .succ (fun k=>?_) (ih (j + 1) (by omega) (by omega));rw [tree_tight.l0,if_pos (by omega),wrap_id (a:=2 * (j : Int)) (by omega),if_pos (by omega),if_pos (by omega),e0,if_neg (by decide),wrap_id (by omega),show (j : Int) + 1 = ((j + 1 : Nat) : Int) by omega]
 refine .congr (f:=fun k=>tree_tight.l0 k l (n : Int) ((n / 2 : Nat) : Int)) (fun k=>?_) (hl0 (n - n / 2) (n / 2) (by omega) (Nat.le_refl _));unfold tree_tight.f;rw [(leaves_at h hn hn2).2,Option.bind_some,Int.tdiv_eq_ediv_of_nonneg (by omega),wrap_id (by omega),show (n : Int) / 2 = ((n / 2 : Nat) : Int) by omega]
theorem tight_yes {l : List S29} {n : Nat} (h : l.length = 2 * n - 1) (hn : 1≤n) (hn2 : n≤1000) {i : Nat} (hi : n / 2≤i) (hi2 : i < n) (hf : (VX l (2 * i)).f0 = true) : Evr (fun k=>tree_tight.f k l) true:=by
 have hl0 : ∀ (d j : Nat),d + j = i→Evr (fun k=>tree_tight.l0 k l (n : Int) (j : Int)) true:=by
  intro d
  induction d with
  | zero=>
   intro j hd
   have : j = i:=by omega
   subst this;refine .succ (f:=fun _=>some true) (fun k=>?_) (.const fun _=>rfl);have e0 : (rd_T29 l (2 * (j : Int))).f0 = true:=hf;rw [tree_tight.l0,if_pos (by omega),wrap_id (a:=2 * (j : Int)) (by omega),if_pos (by omega),if_pos (by omega),e0,if_pos rfl]
  | succ d ih=>
   intro j hd
   by_cases c : (rd_T29 l (2 * (j : Int))).f0 = true
   · refine .succ (f:=fun _=>some true) (fun k=>?_) (.const fun _=>rfl)
     rw [tree_tight.l0,if_pos (by omega),wrap_id (a:=2 * (j : Int)) (by omega),if_pos (by omega),if_pos (by omega),if_pos c]
   · refine .succ (fun k=>?_) (ih (j + 1) (by omega))
     rw [tree_tight.l0,if_pos (by omega),wrap_id (a:=2 * (j : Int)) (by omega),if_pos (by omega),if_pos (by omega),if_neg c,wrap_id (by omega),show (j : Int) + 1 = ((j + 1 : Nat) : Int) by omega]
 refine .congr (f:=fun k=>tree_tight.l0 k l (n : Int) ((n / 2 : Nat) : Int)) (fun k=>?_) (hl0 (i - n / 2) (n / 2) (by omega));unfold tree_tight.f;rw [(leaves_at h hn hn2).2,Option.bind_some,Int.tdiv_eq_ediv_of_nonneg (by omega),wrap_id (by omega),show (n : Int) / 2 = ((n / 2 : Nat) : Int) by omega]
structure Tops (g : Nat→S29) (m m' : Nat) : Prop where
 le : m'≤m
 no : ∀ i,2 ^ m'≤i→i < 2 ^ m→(g (2 * i)).f0 = false
 yes : ∃ i,2 ^ m' / 2≤i∧i < 2 ^ m'∧(g (2 * i)).f0 = true
theorem shrink {g : Nat→S29} {m' : Nat} : ∀ (m : Nat),m≤5→Tops g m m'→Evr (fun k=>tree_Remove.l0 k (mkT (2 * 2 ^ m - 1) g)) (mkT (2 * 2 ^ m' - 1) g,0):=by
 intro m
 induction m with
 | zero=>
  intro hm ht
  have : m' = 0:=by have:=ht.le;omega
  subst this;obtain ⟨i,h1,h2,h3⟩:=ht.yes
  have:=tight_yes (l:=mkT (2 * 2 ^ 0 - 1) g) (n:=2 ^ 0) (mkT_len _ _) (by decide) (by decide) h1 h2 (by rw [mkT_get (by omega)];exact h3)
  exact .succ (f:=fun k=>(tree_tight.f k (mkT (2 * 2 ^ 0 - 1) g)).bind fun b=>if b = true then some (mkT (2 * 2 ^ 0 - 1) g,0) else tree_Remove.l0 k ((mkT (2 * 2 ^ 0 - 1) g).take ((mkT (2 * 2 ^ 0 - 1) g).length / 2))) (fun k=>by rw [tree_Remove.l0]) (this.bind (.const fun _=>by rw [if_pos rfl]))
 | succ m ih=>
  intro hm ht;have hp:=pow_le32 (m:=m + 1) hm
  have hps : 2 ^ (m + 1) = 2 * 2 ^ m:=by rw [Nat.pow_succ];omega
  by_cases c : m' = m + 1
  · subst c
    obtain ⟨i,h1,h2,h3⟩:=ht.yes
    have:=tight_yes (l:=mkT (2 * 2 ^ (m + 1) - 1) g) (n:=2 ^ (m + 1)) (mkT_len _ _) hp.1 (by omega) h1 h2 (by rw [mkT_get (by omega)];exact h3)
    exact .succ (f:=fun k=>(tree_tight.f k (mkT (2 * 2 ^ (m + 1) - 1) g)).bind fun b=>if b = true then some (mkT (2 * 2 ^ (m + 1) - 1) g,0) else tree_Remove.l0 k ((mkT (2 * 2 ^ (m + 1) - 1) g).take ((mkT (2 * 2 ^ (m + 1) - 1) g).length / 2))) (fun k=>by rw [tree_Remove.l0]) (this.bind (.const fun _=>by rw [if_pos rfl]))
  · have hle : m'≤m:=by have:=ht.le;omega
    have hpm : 2 ^ m'≤2 ^ m:=Nat.pow_le_pow_right (by decide) hle
    have:=tight_no (l:=mkT (2 * 2 ^ (m + 1) - 1) g) (n:=2 ^ (m + 1)) (mkT_len _ _) hp.1 (by omega) (fun i h1 h2=>by rw [mkT_get (by omega)];exact ht.no i (by omega) h2)
    have hi:=ih (by omega) ⟨hle,fun i h1 h2=>ht.no i h1 (by omega),ht.yes⟩;refine .succ (f:=fun k=>(tree_tight.f k (mkT (2 * 2 ^ (m + 1) - 1) g)).bind fun b=>if b = true then some (mkT (2 * 2 ^ (m + 1) - 1) g,0) else tree_Remove.l0 k ((mkT (2 * 2 ^ (m + 1) - 1) g).take ((mkT (2 * 2 ^ (m + 1) - 1) g).length / 2))) (fun k=>by rw [tree_Remove.l0]) (this.bind ?_);refine .congr (fun k=>?_) hi;rw [if_neg (by decide),mkT_len,mkT_take (by omega),show (2 * 2 ^ (m + 1) - 1) / 2 = 2 * 2 ^ m - 1 by omega]
def cutG (l : List S29) (i m : Nat) : Nat→S29:=fun x=>if x ∈ pathN i m then z29 else if x = 2 * i then z29 else VX l x
theorem remove_ev {l : List S29} {m m' i : Nat} (hm : m≤5) (h : l.length = 2 * 2 ^ m - 1) (hl : LateOk l) (hi : i < 2 ^ m) (hf : (VX l (2 * i)).f0 = true) (hc : (fullN l 0 (2 ^ m)).length≠1) (ht : Tops (cutG l i m) m m') : Evr (fun k=>tree_Remove.f k l (i : Int)) (mkT (2 * 2 ^ m' - 1) (cutG l i m),0):=by
 have hp:=pow_le32 hm
 have h5 : ∀ v ∈ l,v.f5.length < 17592186044416:=fun v hv=>by have:=hl.len v hv;omega
 have hfb : tree_full.f l (i : Int) = some true:=by
  rw [(full_same h hp.1 (by omega) _).2];unfold fullB;rw [decide_eq_true (by omega),decide_eq_true (by omega)];exact congrArg some hf
 have hms:=members_ev h hp.1 (by omega);have hcl:=clean_ev hm hi (fun x=>if x = 2 * i then z29 else VX l x)
 have hcl2 : Evr (fun k=>tree_clean.f k ((l.set (2 * i) z29)) (i : Int)) (mkT (2 * 2 ^ m - 1) (cutG l i m)):=by
  have e : l.set (2 * i) z29 = mkT (2 * 2 ^ m - 1) (fun x=>if x = 2 * i then z29 else VX l x):=by
   conv=>lhs;rw [mkT_self l]
   rw [mkT_set,h]
  rw [e];exact hcl
 refine .congr (f:=fun k=>(tree_Members.f k l).bind fun ms=>if ms.length = 1 then some (([] : List S29),40) else (tree_clean.f k (l.set (2 * i) z29) (i : Int)).bind fun t3=>tree_Remove.l0 k t3) (fun k=>?_) (hms.bind ?_)
 · unfold tree_Remove.f
   rw [hfb,Option.bind_some,if_pos rfl,copied_at k (by omega) h5,Option.bind_some,wrap_id (by omega),if_pos (by omega),if_pos (by omega),show (2 * (i : Int)).toNat = 2 * i by omega]
   rfl
 · rw [ints_len]
   simp only [if_neg hc];exact hcl2.bind (shrink m hm ht)
theorem remove_one {l : List S29} {m : Nat} {i : Int} (hm : m≤5) (h : l.length = 2 * 2 ^ m - 1) (hc : fullB l (2 ^ m) i = true→(fullN l 0 (2 ^ m)).length = 1) : Evr (fun k=>tree_Remove.f k l i) ([],40):=by
 have hp:=pow_le32 hm;have hms:=members_ev h hp.1 (by omega)
 by_cases c : fullB l (2 ^ m) i = true
 · refine .congr (f:=fun k=>(tree_Members.f k l).bind fun ms=>if ms.length = 1 then some (([] : List S29),40) else ((tree_copied.f k l).bind fun t2=>if 0≤(wrap64 (2 * i)) then (if (wrap64 (2 * i)) < (t2.length : Int) then ((tree_clean.f k (t2.set ((wrap64 (2 * i)) : Int).toNat (⟨false,0,0,0,0,([] : List Int)⟩ : S29)) i).bind fun t3=>tree_Remove.l0 k t3) else none) else none)) (fun k=>?_) (hms.bind ?_)
   · unfold tree_Remove.f
     rw [(full_same h hp.1 (by omega) _).2,c,Option.bind_some,if_pos rfl]
   · rw [ints_len]
     simp only [if_pos (hc c)]
     exact .const fun _=>rfl
 · refine .const fun k=>?_
   unfold tree_Remove.f;rw [(full_same h hp.1 (by omega) _).2,Option.bind_some,if_neg c]
end Go.Proofs.YtbblomnhobodkaaDoor.Pure
