/- What this claim reaches of longer texts of this session. -/
import Derived.Test.YtbblomnhobodkaaDoorRows
import Derived.ProofKit
import Derived.LaidMore
import Derived.OpenShut
import Derived.Stop.Joined
import Derived.Lib.TrailingZeros
set_option linter.unusedVariables false
set_option linter.unusedSimpArgs false
namespace Go.Proofs.YtbblomnhobodkaaDoor
open Go.ChangeShapes Go.WideShapes Go.ChangeAt Go.RowKit
def laidL {H : Type} : List (String × DataW H):=[("math/bits.deBruijn32tab",Rows.laid_math_bits_deBruijn32tab),("math/bits.deBruijn64tab",Rows.laid_math_bits_deBruijn64tab)]
theorem g64 : Tryd.prog.globalNamed "math/bits.deBruijn64tab" = some 1:=by kernel_rfl
theorem ty64 : (Tryd.prog.globals[1]?).map (·.type) = some 99:=by kernel_rfl
theorem datum64 {H : Type} : (Rows.laid_math_bits_deBruijn64tab : DataW H) = .agg (Lib.deBruijn64tab.map fun (n : Nat)=>.lit (.int .u8 n)):=rfl
theorem door_met (os : Os) (args : Array Value) : laidMetH Tryd.prog laidL ((World.doorLaid Tryd.prog 4000 os).forCall (fun _ _=>0) ⟨#[],args,[]⟩).memory:=
 laidMetH_of_parts3 (fuel:=8) (laidMet_of_run' 8 (by kernel_rfl) (by kernel_rfl)) (by kernel_rfl) (by kernel_rfl)
theorem of_laid {W : World} (h : laidMetH Tryd.prog laidL W) : ∀ j,j < Lib.deBruijn64tab.length→W.cell? ⟨1,j,none⟩ = some (.int .u8 (Lib.deBruijn64tab.getD j 0)):=by
 rw [MakeChecks.laidMetH_plain _ _ _ (by kernel_rfl)] at h
 obtain ⟨ps,⟨g0,t0,cs0,f0,p0,q0,hg0,ht0,hv0,hd0,⟨g1,t1,cs1,f1,p1,q1,hg1,ht1,hv1,hd1,_,_⟩,_⟩,_,_⟩:=h
 obtain rfl:=Option.some.inj (g64.symm.trans hg1)
 obtain rfl:=Option.some.inj (ty64.symm.trans ht1)
 obtain ⟨xs,m1,rfl,hx1,hlen,hn3,hel⟩:=DataW.trod_array Tryd.underlying99 hd1
 have c5 : Tryd.prog.cellsOf 5 = 1:=by kernel_rfl
 rw [datum64] at hx1
 simp only [Prod.mk.injEq,DataW.agg.injEq] at hx1
 intro j hj
 have hj64 : j < 64:=hj
 have h0:=hel j hj64
 rw [List.getElem?_eq_getElem (by omega),c5] at h0
 obtain ⟨k,e1,e2,_⟩:=DataW.trod_int Tryd.underlying5 h0
 have hk:=congrArg (fun l=>l[j]?) hx1.1
 simp only [List.getElem?_map,List.getElem?_eq_getElem (show j < xs.length by omega),List.getElem?_eq_getElem hj,Option.map_some,e2,Option.some.injEq,DataW.lit.injEq,Lit.int.injEq,true_and] at hk
 rw [World.var?_cell hg1 hv1 j,List.getD_eq_getElem?_getD,List.getElem?_eq_getElem hj,Option.getD_some,hk]
 have:=congrArg (fun l=>l[0]?) e1
 simp only [Nat.mul_one,List.getElem?_take,List.getElem?_drop,Nat.add_zero] at this
 simpa using this
end Go.Proofs.YtbblomnhobodkaaDoor
