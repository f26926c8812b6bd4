/- What this claim reaches of longer texts of this session. -/
import Derived.Test.YtbblomnhobodkaaDoorWArr
import Derived.Test.YtbblomnhobodkaaDoorProg
import Derived.Below
import Derived.Deep.Draws
import Derived.Deep.AppendLies
import Derived.Maps.AppendAt
import Derived.OwnWalk
import Derived.Laws.BytesArg
import Derived.Laws.MakeOwn
import Derived.Laws.OwnMore
import Derived.Deep.OwnRows
import Derived.Tactics
import Derived.Lib.ConvBytes
import Derived.Laws.Slices
import Derived.WalkKit
import Derived.KernelRfl
import Derived.RowKit3
import Derived.Deep.LoopGhost
import Derived.Deep.QuietTactic
import Derived.BigQuiet
import Derived.WideLaws
import Derived.Deep.DeepCutAuto
import Derived.Deep.CutBlock
import Derived.Deep.RegionHeld3
import Derived.Laws.Rows
import Derived.Lib.AppendStr
import Derived.ArgAppend
import Derived.Laws.IdiomCopy
import Derived.OrdersHeld
import Derived.Laws.BitsLemmas
import Derived.RowKit
import Derived.Laws.StructEq
import Derived.Orders
import Derived.WalkSpells
import Derived.WalkLawsBesides
import Derived.Lib.Hide
namespace Go.Proofs.YtbblomnhobodkaaDoorW.PW
open Go.RowKit
section
variable {P : Program}
theorem run_append_zeros (w : World) (base : Nat) (t ti ty e : TypeId) (i : TypeInfo) (z : Value) (size bytes : Nat) (ht : P.underlying t = some (.slice e)) {k : IntKind} (hti : P.underlying ti = some (.int k)) (hi : P.info? e = some i) (hz : i.zero = some z)
 (hsize : i.size = size) (hby : i.bytes = bytes) (hzs : z.cells.size = size) (hsz : 0 < size) (hb0 : 0 < bytes)
 (v : Value) (n : Nat) (xs : List Value) (hown : w.ownsRow base e size v n xs) (kx : IntKind) (m : Nat) (h1 : ∀ u ∈ (Builtin.zeroCells z.cells m).toList,u.oneCell' = true)
 (hbytes : (n + m) * bytes≤140737488355328) (hbase : base≤w.heap.size) :
 ∃ v' w',(Builtin.append_ #[t,ti] ty #[v,.int kx m]).run P w = .ok v' w'∧w'.ownsRow base e size v' (n + m) (xs ++ (Builtin.zeroCells z.cells m).toList)∧w.grownBy w' v.ownBlock∧
  (v'.ownBlock = v.ownBlock∨v'.ownBlock = some w.heap.size):=by
 subst hsize
 subst hby
 have hle : n + m≤140737488355328:=Nat.le_trans (Nat.le_mul_of_pos_right _ hb0) hbytes
 have h63 : n + m≤maxLen:=by simp only [maxLen];omega
 have hw : IntKind.i64.wrap (m : Int) = m:=by rw [IntKind.wrap_i64];omega
 have hw0 : IntKind.i64.wrap 0 = 0:=by rw [IntKind.wrap_i64];rfl
 have hneg : ¬ ((m : Int) < 0):=by omega
 have hmb : m * i.bytes≤140737488355328:=Nat.le_trans (Nat.mul_le_mul_right _ (Nat.le_add_left m n)) hbytes
 have hbig : ¬ (281474976710656 < (m : Int) * (i.bytes : Int)):=by
  rw [← Int.natCast_mul]
  omega
 have hsn : i.size≠0:=by omega
 obtain ⟨news,hnews⟩ : ∃ news,news = (Builtin.zeroCells z.cells m).toList:=⟨_,rfl⟩
 rw [← hnews] at h1 ⊢
 have hl : news.length = m * i.size:=by rw [hnews,Array.length_toList,size_zeroCells,hzs]
 have hna : Builtin.zeroCells z.cells m = news.toArray:=by rw [hnews]
 have hlen : (xs ++ news).length = (n + m) * i.size:=by rw [List.length_append,hown.1,hl,Nat.add_mul]
 have hnil : m = 0→news = []:=fun h=>List.eq_nil_of_length_eq_zero (by rw [hl,h,Nat.zero_mul])
 have grown : ∀ (old : Nat),old < n + m→∀ (row : Option Nat),
  (w.drew.alloc (.cells (xs.toArray ++ news.toArray ++ Builtin.zeroCells z.cells (grownCap w (n + m) old e - (n + m))) e)).ownsRow base e i.size
   (.slice (some ⟨w.heap.size,0,none⟩) (n + m) (grownCap w (n + m) old e)) (n + m) (xs ++ news)∧
  w.grownBy (w.drew.alloc (.cells (xs.toArray ++ news.toArray ++ Builtin.zeroCells z.cells (grownCap w (n + m) old e - (n + m))) e)) row:=by
  intro old ho row
  have hge:=grownCap_ge w (n + m) old e
  have hcm : grownCap w (n + m) old e≤maxLen:=grownCap_le_maxLen w (n + m) old e h63
  refine ⟨⟨hlen,.inr ⟨w.heap.size,_,_,rfl,hbase,heap_alloc_new w.drew _,hge,hcm,?_,?_⟩⟩,⟨rfl,rfl,rfl,by simp,fun k hk _=>heap_alloc_old w.drew _ hk⟩⟩
  · simp only [Array.size_append,List.size_toArray,size_zeroCells,hzs,hown.1,hl,← Nat.add_mul]
    congr 1
    omega
  · simp only [Array.toList_append,List.append_assoc]
    rw [← List.append_assoc,← hlen]
    exact List.take_left
 have runs : ∀ (A : Option Addr) (cap : Nat),cap < n + m→(Builtin.firstCells i.size n (.slice A n cap)).run P w.drew = .ok xs.toArray w.drew→(Builtin.append_ #[t,ti] ty #[.slice A n cap,.int kx m]).run P w =
  .ok (.slice (some ⟨w.heap.size,0,none⟩) (n + m) (grownCap w (n + m) cap e)) (w.drew.alloc (.cells (xs.toArray ++ news.toArray ++ Builtin.zeroCells z.cells (grownCap w (n + m) cap e - (n + m))) e)):=by
  intro A cap hcap hfo
  have hn : ¬ (n + m≤cap):=by omega
  have h63' : ¬ (9223372036854775807 < ((n : Int) + (m : Int))):=by omega
  have hfit:=growslice_fits hcap hbytes
  have h48' : ¬ (281474976710656 < Builtin.nextslicecap (n + m) cap * i.bytes):=by omega
  by_cases hm : m = 0
  · have hnl:=hnil hm
    subst hm
    rw [hnl]
    simp only [Nat.add_zero] at hn h63' h48' ⊢
    have h63'' : ¬ (9223372036854775807 < (n : Int)):=by omega
    simp [Builtin.append_,run_underlying ht,run_underlying hti,sizeOf,typeInfo,zeroValue,hi,hz,asInt,asIntOf,hw0,hn,h63'',h48',Question.forced,hfo,newRow,grownCap]
  · have hmz : ¬ (m * i.size = 0):=Nat.mul_ne_zero hm hsn
    simp [Builtin.append_,run_underlying ht,run_underlying hti,sizeOf,typeInfo,zeroValue,hi,hz,asInt,asIntOf,hw,hneg,hbig,hn,h63',h48',Question.forced,hfo,newRow,grownCap,hmz,hna]
    congr 2
    apply Array.ext'
    simp [List.append_assoc]
 rcases hown.2 with ⟨rfl,rfl⟩ | ⟨g,cap,cur,rfl,hbg,hg,hnc,hcm,hcs,htake⟩
 · have hx : xs = []:=List.eq_nil_of_length_eq_zero (by simpa using hown.1)
   subst hx
   by_cases hm : m = 0
   · have hnl:=hnil hm
     subst hm
     rw [hnl]
     refine ⟨.slice none 0 0,w,?_,World.ownsRow_nil w base e i.size,⟨rfl,rfl,rfl,Nat.le_refl _,fun _ _ _=>rfl⟩,Or.inl rfl⟩
     simp [Builtin.append_,run_underlying ht,run_underlying hti,sizeOf,typeInfo,hi,asInt,asIntOf,hw0]
   · have hgr:=grown 0 (by omega) (Value.ownBlock (.slice none 0 0))
     exact ⟨_,_,runs none 0 (by omega) (by simp [Builtin.firstCells]),hgr.1,hgr.2,Or.inr rfl⟩
 · by_cases hroom : n + m≤cap
   · have hfit : n * i.size + news.length≤cur.size:=by rw [hl,hcs,← Nat.add_mul];exact Nat.mul_le_mul_right _ hroom
     obtain ⟨cur',h3,h4,h5⟩:=setCells_row news (n * i.size) w cur hg hfit
     obtain ⟨s1,s2,s3,s4⟩:=setCells_same g news (n * i.size) w
     have hst:=run_storeCells_cells (P:=P) g (n * i.size) news 0 w (fun j hj=>by rw [cell_of_row w g _ cur e (0,0) hg];simp;omega) (fun j _=>kF hg _) h1
     simp only [Nat.add_zero] at hst
     refine ⟨.slice (some ⟨g,0,none⟩) (n + m) cap,w.setCells g (n * i.size) news,?_,⟨hlen,.inr ⟨g,cap,cur',rfl,hbg,h3,hroom,hcm,by rw [h4,hcs],?_⟩⟩,⟨s1,s2,s3,by rw [s4];exact Nat.le_refl _,fun k _ hk=>setCells_far news _ k (fun e=>hk (by simp [Value.ownBlock,e]))⟩,Or.inl rfl⟩
     · by_cases hm : m = 0
       · have hnl:=hnil hm
         subst hm
         rw [hnl] at hst ⊢
         simp [Builtin.append_,run_underlying ht,run_underlying hti,sizeOf,typeInfo,hi,asInt,asIntOf,hw0,hnc,add_plain,hst]
       · have hmz : ¬ (m * i.size = 0):=Nat.mul_ne_zero hm hsn
         simp [Builtin.append_,run_underlying ht,run_underlying hti,sizeOf,typeInfo,zeroValue,hi,hz,asInt,asIntOf,hw,hneg,hbig,hroom,hmz,hna,add_plain,hst]
     · rw [h5]
       have h6 : cur.toList.take (n * i.size) = xs:=htake
       rw [h6,← hlen]
       exact List.take_left
   · have holds : ∀ j u,xs[j]? = some u→w.cell? ((⟨g,0,none⟩ : Addr).add j) = some u:=hown.cells (g:=g) rfl
     have hgr:=grown cap (by omega) (Value.ownBlock (.slice (some ⟨g,0,none⟩) n cap))
     exact ⟨_,_,runs (some ⟨g,0,none⟩) cap (by omega) (run_firstCells_some (P:=P) w.drew i.size n _ n cap xs hown.1 (by simpa using holds)),hgr.1,hgr.2,Or.inr rfl⟩
end
namespace Kd
theorem reps_zeros {α : Type} {R : α→List Value→Prop} {z : Value} {size : Nat} {z0 : α} (hz : z.cells.size = size) (hs : 0 < size) (h0 : R z0 z.cells.toList) (m : Nat) : Reps R size (List.replicate m z0) (Builtin.zeroCells z.cells m).toList:=by
 have h:=reps_made hz hs h0 m
 rw [show Builtin.zeroCells z.cells m = madeCells z.cells (m * size) by unfold Builtin.zeroCells madeCells;rw [hz]]
 exact h
section
variable {P : Program} {ops : Array Oper} {rest : List Oper} {o : Oper} {a : Act} {Q : Exit→Act→World→Prop} {Kc : Act→World→Prop} {α : Type}
theorem R_zeros_run (d : Kd α) {W : World} (base : Nat) (t ti ty e : TypeId) (z : Value) (bytes : Nat) (ht : P.underlying t = some (.slice e)) {k : IntKind} (hti : P.underlying ti = some (.int k)) (hinfo : (P.info? e).map (fun i=>(i.zero,i.size,i.bytes)) = some (some z,d.sz,bytes)) (hz : z.cells.size = d.sz) (hs0 : 0 < d.sz) (hb0 : 0 < bytes)
 (v : Value) (xs : List α) (z0 : α) {ok : Nat→Prop} (hzero : d.M W base (fun _=>False) z0 z.cells.toList) (hfresh : ∀ k,W.heap.size≤k→ok k) (HO : d.R e W base ok v xs) (kx : IntKind) (n : Int) (h0 : 0≤n) (hl : (xs.length + n.toNat) * bytes≤140737488355328) (hbase : base≤W.heap.size) :
 ∃ v1 w1,(Builtin.append_ #[t,ti] ty #[v,.int kx n]).run P W = .ok v1 w1∧d.R e w1 base ok v1 (xs ++ List.replicate n.toNat z0)∧W.grownBy w1 v.ownBlock∧(v1.ownBlock = v.ownBlock∨∃ b,v1.ownBlock = some b∧W.heap.size≤b):=by
 obtain ⟨m,rfl⟩:=Int.eq_ofNat_of_zero_le h0
 simp only [Int.toNat_natCast] at hl ⊢
 obtain ⟨i0,hi,hzz⟩:=Option.map_eq_some_iff.1 hinfo
 simp only [Prod.mk.injEq] at hzz
 obtain ⟨hz0,hz1,hz2⟩:=hzz
 obtain ⟨hok,inner,hown,hr⟩:=HO
 have hnM : Reps (d.M W base (fun _=>False)) d.sz (List.replicate m z0) (Builtin.zeroCells z.cells m).toList:=reps_zeros hz hs0 hzero m
 obtain ⟨v1,w1,hrun,h2,hg,hat⟩:=run_append_zeros (P:=P) W base t ti ty e i0 z d.sz bytes ht hti hi hz0 hz1 hz2 hz hs0 hb0 v xs.length inner hown kx m (reps_one hnM hs0 (fun _ _ hp=>d.K_one (d.K_of_M hp))) hl hbase
 have hat' : v1.ownBlock = v.ownBlock∨∃ b,v1.ownBlock = some b∧W.heap.size≤b:=by
  rcases hat with hat | hat
  · exact .inl hat
  · exact .inr ⟨_,hat,Nat.le_refl _⟩
 have hne : ∀ k,some k≠v.ownBlock→k < W.heap.size→some k≠v1.ownBlock:=by
  intro k hk hlt
  rcases hat' with hat | ⟨b,hb,hle⟩
  · rw [hat];exact hk
  · rw [hb]
    intro he
    injection he with he
    omega
 have step : ∀ {q : α} {c : List Value} {o : Nat→Prop},d.M W base o q c→(∀ k,o k→ok k∧some k≠v.ownBlock)→d.M w1 base (fun k=>ok k∧some k≠v1.ownBlock) q c:=by
  intro q c o hq ho
  have h1:=d.M_move (w1:=w1) (fun k hk=>hg.block k hk.2.2.1 (ho k hk.1).2) (d.M_bound hq)
  exact d.M_mono (fun k hk=>⟨(ho k hk.1).1,hne k (ho k hk.1).2 hk.2.2.1⟩) h1
 refine ⟨v1,w1,hrun,⟨fun k hk=>?_,inner ++ (Builtin.zeroCells z.cells m).toList,by rw [List.length_append,List.length_replicate];exact h2,reps_append (hr.imp_ (fun _ _ hq=>step hq (fun _ hk=>hk))) (hnM.imp_ (fun _ _ hq=>step hq (fun _ hk=>hk.elim)))⟩,hg,hat'⟩
 rcases hat' with hat | ⟨b,hb,hle⟩
 · exact hok k (hat ▸ hk)
 · rw [hb] at hk
   injection hk with hk
   exact hfresh k (by omega)
theorem R_append_zeros (d : Kd α) {w0 W : World} (base : Nat) (hgd : o.guard = none) (s x : Operand) (t ti e : TypeId) (z : Value) (bytes : Nat)
 (ho : o.op = .call { callee:=.builtin .append,args:=#[s,x],argTypes:=#[t,ti] })
 (ht : P.underlying t = some (.slice e)) {k : IntKind} (hti : P.underlying ti = some (.int k)) (hinfo : (P.info? e).map (fun i=>(i.zero,i.size,i.bytes)) = some (some z,d.sz,bytes)) (hz : z.cells.size = d.sz) (hs0 : 0 < d.sz) (hb0 : 0 < bytes)
 (v : Value) (xs : List α) (z0 : α) {kx : IntKind} (n : Int) (ok : Nat→Prop) (hs : a.eval s = v) (hx : a.eval x = .int kx n) (hzero : d.M W base (fun _=>False) z0 z.cells.toList) (hfresh : ∀ k,W.heap.size≤k→ok k)
 (HO : d.R e W base ok v xs) (h0 : 0≤n) (HB : Below base w0 W) (hbase : base≤W.heap.size) (hl : (xs.length + n.toNat) * bytes≤140737488355328)
 (h : ∀ v1 w1,d.R e w1 base ok v1 (xs ++ List.replicate n.toNat z0)→Below base w0 w1→W.grownBy w1 v.ownBlock→(v1.ownBlock = v.ownBlock∨∃ b,v1.ownBlock = some b∧W.heap.size≤b)→wpList P ops Q rest (a.put o.dst v1) w1) :
 wpList P ops Q (o :: rest) a W:=by
 obtain ⟨v1,w1,hr1,h1,hg,hat⟩:=R_zeros_run (P:=P) d base t ti o.type e z bytes ht hti hinfo hz hs0 hb0 v xs z0 hzero hfresh HO kx n h0 hl hbase
 refine wpList_plain hgd fun K hK=>?_
 unfold Oper.wp execOp
 simp only [ho,resolve,invoke,builtin,Sem.run_bind,Sem.run_pure,Result.andThen_ok,List.map_toArray,List.map_cons,List.map_nil,hs,hx,hr1]
 exact hK _ _ (h v1 w1 h1 (HB.grown hg hbase (R_base HO)) hg hat)
end
def tagO {α : Type} (f : Nat→Nat) (d : Kd α) : Kd (α × Option Nat) where
 sz:=d.sz
 E:=d.E
 K:=fun w x cs=>d.K w x.1 cs
 M:=fun w base ok x cs=>d.M w base (fun k=>ok k∧some (f k) = x.2) x.1 cs
 K_len:=fun h=>d.K_len h
 K_one:=fun h=>d.K_one h
 K_below:=fun hb h=>d.K_below hb h
 K_of_M:=fun h=>d.K_of_M h
 M_mono:=fun hok h=>d.M_mono (fun k hk=>⟨hok k hk.1,hk.2⟩) h
 M_bound:=fun h=>d.M_mono (fun _ hk=>⟨⟨hk.1.1,hk.2⟩,hk.1.2⟩) (d.M_bound h)
 M_move:=fun hm h=>d.M_move (fun k hk=>hm k hk.1) h
 M_lower:=fun hb h=>d.M_lower hb h
section
variable {α : Type} {d : Kd α} {e : Nat} {w : World} {base : Nat} {ok : Nat→Prop} {v : Value} {xs : List α}
def zipO (xs : List α) (z : α) (m : Nat) : List (α × Option Nat):=xs.zipIdx.map (fun p=>(p.1,some p.2)) ++ List.replicate m (z,none)
theorem zipO_length (xs : List α) (z : α) (m : Nat) : (zipO xs z m).length = (xs ++ List.replicate m z).length:=by simp [zipO]
theorem S_zipO {f : Nat→Nat} {z : α} {m : Nat} (h : (tagO f d).R e w base ok v (zipO xs z m)) : S d e w base ok v (xs ++ List.replicate m z):=by
 obtain ⟨h0,inner,ho,hr⟩:=h
 have hl:=hr.1
 rw [zipO_length] at ho hl
 refine ⟨f,h0,inner,by rw [List.length_zipIdx];exact ho,by rw [List.length_zipIdx];exact hl,fun j p hj=>?_⟩
 rw [List.getElem?_zipIdx,Nat.zero_add] at hj
 obtain ⟨x,hx,rfl⟩:=Option.map_eq_some_iff.1 hj
 rcases Nat.lt_or_ge j xs.length with hlt | hge
 · rw [List.getElem?_append_left hlt] at hx
   have h2:=hr.2 j (x,some j) (by
    unfold zipO
    rw [List.getElem?_append_left (by simpa using hlt),List.getElem?_map,zip_at hx]
    rfl)
   exact d.M_mono (fun k hk=>⟨hk.1,by have:=hk.2;simpa using this⟩) h2
 · rw [List.getElem?_append_right hge] at hx
   have hxz : z = x:=by
    have:=(List.getElem?_eq_some_iff.1 hx).2
    simpa using this
   subst hxz
   have hjm:=(List.getElem?_eq_some_iff.1 hx).1
   have h2:=hr.2 j (z,none) (by
    unfold zipO
    rw [List.getElem?_append_right (by simpa using hge)]
    rw [List.getElem?_replicate]
    rw [List.length_replicate] at hjm
    rw [if_pos (by simpa using hjm)])
   exact d.M_mono (fun k hk=>absurd hk.2 (by simp)) h2
theorem R_zipO (h : S d e w base ok v xs) : ∃ f,(tagO f d).R e w base ok v (xs.zipIdx.map (fun p=>(p.1,some p.2))):=by
 obtain ⟨f,h0,inner,ho,hr⟩:=h
 refine ⟨f,h0,inner,by rw [List.length_map];exact ho,by rw [List.length_map];exact hr.1,fun j p hj=>?_⟩
 rw [List.getElem?_map] at hj
 obtain ⟨q,hq,rfl⟩:=Option.map_eq_some_iff.1 hj
 exact d.M_mono (fun k hk=>⟨hk.1,by have : f k = q.2:=hk.2;show some (f k) = some q.2;rw [this]⟩) (hr.2 j q hq)
end
section
variable {P : Program} {ops : Array Oper} {rest : List Oper} {o : Oper} {a : Act} {Q : Exit→Act→World→Prop} {Kc : Act→World→Prop} {α : Type}
theorem S_append_zeros (d : Kd α) {w0 W : World} (base : Nat) (hgd : o.guard = none) (s x : Operand) (t ti e : TypeId) (z : Value) (bytes : Nat)
 (ho : o.op = .call { callee:=.builtin .append,args:=#[s,x],argTypes:=#[t,ti] })
 (ht : P.underlying t = some (.slice e)) {k : IntKind} (hti : P.underlying ti = some (.int k)) (hinfo : (P.info? e).map (fun i=>(i.zero,i.size,i.bytes)) = some (some z,d.sz,bytes)) (hz : z.cells.size = d.sz) (hs0 : 0 < d.sz) (hb0 : 0 < bytes)
 (v : Value) (xs : List α) (z0 : α) {kx : IntKind} (n : Int) (ok : Nat→Prop) (hs : a.eval s = v) (hx : a.eval x = .int kx n) (hzero : d.M W base (fun _=>False) z0 z.cells.toList) (hfresh : ∀ k,W.heap.size≤k→ok k)
 (HO : S d e W base ok v xs) (h0 : 0≤n) (HB : Below base w0 W) (hbase : base≤W.heap.size) (hl : (xs.length + n.toNat) * bytes≤140737488355328)
 (h : ∀ v1 w1,S d e w1 base ok v1 (xs ++ List.replicate n.toNat z0)→Below base w0 w1→W.grownBy w1 v.ownBlock→(v1.ownBlock = v.ownBlock∨∃ b,v1.ownBlock = some b∧W.heap.size≤b)→wpList P ops Q rest (a.put o.dst v1) w1) :
 wpList P ops Q (o :: rest) a W:=by
 obtain ⟨f,HR⟩:=R_zipO HO
 refine R_append_zeros (tagO f d) base hgd s x t ti e z bytes ho ht hti hinfo hz hs0 hb0 v _ (z0,none) n ok hs hx (d.M_mono (fun _ hk=>hk.elim) hzero) hfresh HR h0 HB hbase (by rw [List.length_map,List.length_zipIdx];exact hl) ?_
 intro v1 w1 hr
 exact h v1 w1 (S_zipO (f:=f) hr)
end
end Kd
end Go.Proofs.YtbblomnhobodkaaDoorW.PW
namespace Go.Proofs.YtbblomnhobodkaaDoorW.PW
open Go.RowKit
namespace Kd
structure Heap {α : Type} (d : Kd α) : Prop where
 K : ∀ {w w1 : World} {x : α} {cs : List Value},(∀ k,k < w.heap.size→w1.heap[k]? = w.heap[k]?)→d.K w x cs→d.K w1 x cs
theorem cell_heap {w w1 : World} (hb : ∀ k,k < w.heap.size→w1.heap[k]? = w.heap[k]?) {a : Addr} {v : Value} (h : w.cell? a = some v) : w1.cell? a = some v:=by
 have:=hb a.block (World.block_lt_of_cell? w a h)
 simpa [World.cell?,this] using h
theorem Heap.C {α : Type} {d : Kd α} (hd : Heap d) {w w1 : World} {A : Option Addr} {n : Nat} {xs : List α} (hb : ∀ k,k < w.heap.size→w1.heap[k]? = w.heap[k]?) (h : d.C w A n xs) : d.C w1 A n xs:=
 ⟨h.1,h.2.1,fun hn=>by
  obtain ⟨ad,e,hc⟩:=h.2.2 hn
  refine ⟨ad,e,fun j p hj=>?_⟩
  obtain ⟨c,hs,hr,hcell⟩:=hc j p hj
  exact ⟨c,hs,hd.K hb hr,fun i u hu=>cell_heap hb (hcell i u hu)⟩⟩
theorem heap_int (k : IntKind) : Heap (Kd.int k):=⟨fun _ h=>h⟩
theorem heap_bool : Heap Kd.bool:=⟨fun _ h=>h⟩
theorem heap_slice {α : Type} {d : Kd α} (e : Nat) (hd : Heap d) : Heap (slice e d):=⟨by
 rintro w w1 x cs hb ⟨A,c,rfl,hl,hr⟩
 exact ⟨A,c,rfl,hl,hd.C hb hr⟩⟩
theorem heap_pair {α β : Type} {a : Kd α} {b : Kd β} (ha : Heap a) (hb' : Heap b) : Heap (pair a b):=⟨by
 rintro w w1 x cs hb ⟨c0,c1,rfl,h0,h1⟩
 exact ⟨c0,c1,rfl,ha.K hb h0,hb'.K hb h1⟩⟩
theorem heap_iso {α β : Type} {d : Kd α} (f : β→α) (hd : Heap d) : Heap (iso d f):=⟨fun hb h=>hd.K hb h⟩
end Kd
end Go.Proofs.YtbblomnhobodkaaDoorW.PW
namespace Go.Proofs.YtbblomnhobodkaaDoorW.PW
open Go.RowKit
def Kept (w W : World) (S : Nat→Prop) : Prop:=w.heap.size≤W.heap.size∧∀ i,i < w.heap.size→¬ S i→W.heap[i]? = w.heap[i]?
section
variable {w W W2 : World} {S S2 S' : Nat→Prop}
theorem Kept.refl (w : World) (S : Nat→Prop) : Kept w w S:=⟨Nat.le_refl _,fun _ _ _=>rfl⟩
theorem Kept.of_below (h : Below w.heap.size w W) (S : Nat→Prop) : Kept w W S:=⟨h.size,fun i hi _=>h.block i hi⟩
theorem Kept.mono (h : Kept w W S) (hs : ∀ k,S k→S' k) : Kept w W S':=⟨h.1,fun i hi hn=>h.2 i hi (fun hk=>hn (hs i hk))⟩
theorem Kept.then_ (h : Kept w W S) (k : Kept W W2 S2) (hs : ∀ k,S2 k→S k∨w.heap.size≤k) : Kept w W2 S:=
 ⟨Nat.le_trans h.1 k.1,fun i hi hn=>(k.2 i (Nat.lt_of_lt_of_le hi h.1) (fun h2=>(hs i h2).elim hn (fun h3=>by omega))).trans (h.2 i hi hn)⟩
theorem Kept.of_grown {row : Option Nat} (hg : W.grownBy W2 row) (h : Kept w W S) (hr : ∀ k,row = some k→S k∨w.heap.size≤k) : Kept w W2 S:=
 h.then_ (S2:=fun k=>row = some k) ⟨hg.size,fun i hi hn=>hg.block i hi (fun he=>hn he.symm)⟩ hr
theorem Kept.below (h : Kept w W S) (hb : Below W.heap.size W W2) : Kept w W2 S:=h.then_ (Kept.of_below hb (fun _=>False)) (fun _ hk=>hk.elim)
theorem Kept.alloc (h : Kept w W S) (o : Obj) : Kept w (W.alloc o) S:=h.below (bwA (Below.refl _ _) o)
theorem Kept.drew (h : Kept w W S) : Kept w W.drew S:=h
theorem Kept.drewN (h : Kept w W S) (m : Nat) : Kept w (W.drewN m) S:=h
theorem Kept.setCell (h : Kept w W S) {p : Addr} (hp : S p.block∨w.heap.size≤p.block) (u : Value) : Kept w (W.setCell p u) S:=
 h.then_ (S2:=fun k=>k = p.block) ⟨by simp [World.setCell],fun i _ hn=>Below.heap_setCell W p u i hn⟩ (fun k hk=>by rw [hk];exact hp)
theorem Kept.keep {g : Nat} (h : KeepBut w W g none) (k : Kept W W2 S2) (hs : ∀ k,S2 k→w.heap.size≤k) : KeepBut w W2 g none:=
 ⟨Nat.le_trans h.1 k.1,fun i hi hg hr=>(k.2 i (Nat.lt_of_lt_of_le hi h.1) (fun h2=>by have:=hs i h2;omega)).trans (h.2 i hi hg hr)⟩
end
namespace Kd
end Kd
end Go.Proofs.YtbblomnhobodkaaDoorW.PW
namespace Go.Proofs.YtbblomnhobodkaaDoorW.PW
open Go.RowKit
def Foot (P : World→Prop) (W : World) (ok : Nat→Prop) : Prop:=∀ W' : World,(∀ k,ok k→k < W.heap.size→W'.heap[k]? = W.heap[k]?)→P W'
theorem heap_lt {W W1 : World} {k : Nat} (h : W1.heap[k]? = W.heap[k]?) (hlt : k < W.heap.size) : k < W1.heap.size:=by
 rw [Array.getElem?_eq_getElem hlt] at h
 exact (Array.getElem?_eq_some_iff.1 h).1
namespace Foot
variable {P Q : World→Prop} {W W1 : World} {ok ok' : Nat→Prop}
theorem now (h : Foot P W ok) : P W:=h W (fun _ _ _=>rfl)
theorem mono (h : Foot P W ok) (hok : ∀ k,ok k→ok' k) : Foot P W ok':=fun W' hW=>h W' (fun k hk hlt=>hW k (hok k hk) hlt)
theorem bound (h : Foot P W ok) : Foot P W (fun k=>ok k∧k < W.heap.size):=fun W' hW=>h W' (fun k hk hlt=>hW k ⟨hk,hlt⟩ hlt)
theorem step (h : Foot P W ok) (hm : ∀ k,ok k→k < W.heap.size→W1.heap[k]? = W.heap[k]?) : Foot P W1 ok:=fun W' hW=>h W' (fun k hk hlt=>(hW k hk (heap_lt (hm k hk hlt) hlt)).trans (hm k hk hlt))
theorem imp (h : Foot P W ok) (hi : ∀ W',P W'→Q W') : Foot Q W ok:=fun W' hW=>hi W' (h W' hW)
theorem old (h : Foot P W ok) (hb : Below W.heap.size W W1) : Foot P W1 (fun k=>ok k∧k < W.heap.size):=(h.bound).step (fun k _ hlt=>hb.block k hlt)
end Foot
namespace Kd
def F {α : Type} (d : Kd α) (W : World) (ok : Nat→Prop) (A : Option Addr) (n : Nat) (xs : List α) : Prop:=Foot (fun W=>d.C W A n xs) W ok
def FK {α : Type} (d : Kd α) (W : World) (ok : Nat→Prop) (x : α) (c : List Value) : Prop:=Foot (fun W=>d.K W x c) W ok
section
variable {α β : Type} {d : Kd α} {e base n n' cc g N : Nat} {ok ok' okp S : Nat→Prop} {w w0 w1 W W1 : World} {A A' : Option Addr} {u v v1 : Value} {xs : List α} {xs' : List β} {d' : Kd β} {x : α} {c : List Value}
theorem F_now (h : F d W ok A n xs) : d.C W A n xs:=Foot.now h
theorem F_mono (h : F d W ok A n xs) (hok : ∀ k,ok k→ok' k) : F d W ok' A n xs:=Foot.mono h hok
theorem F_bound (h : F d W ok A n xs) : F d W (fun k=>ok k∧k < W.heap.size) A n xs:=Foot.bound h
theorem F_step (h : F d W ok A n xs) (hm : ∀ k,ok k→k < W.heap.size→W1.heap[k]? = W.heap[k]?) : F d W1 ok A n xs:=Foot.step h hm
theorem F_imp (h : F d W ok A n xs) (hi : ∀ W',d.C W' A n xs→d'.C W' A' n' xs') : F d' W ok A' n' xs':=Foot.imp h hi
theorem F_below (h : F d W ok A n xs) (hb : Below W.heap.size W W1) : F d W1 ok A n xs:=F_step h (fun k _ hlt=>hb.block k hlt)
theorem F_alloc (h : F d W ok A n xs) (o : Obj) : F d (W.alloc o) ok A n xs:=F_below h (bwA (Below.refl _ _) o)
theorem F_drew (h : F d W ok A n xs) : F d W.drew ok A n xs:=F_below h (below_drew (Below.refl _ _))
theorem F_drewN (h : F d W ok A n xs) (m : Nat) : F d (W.drewN m) ok A n xs:=F_below h (bwN (Below.refl _ _) m)
theorem F_nil (d : Kd α) (W : World) (ok : Nat→Prop) : F d W ok none ([] : List α).length []:=fun W' _=>C_nil d W'
theorem F_elder' (h : F d W ok A n xs) (hbase : ∀ k,v.ownBlock = some k→W.heap.size≤k) (hb : Below W.heap.size W W1) : F d W1 (fun k=>ok k∧some k≠v.ownBlock) A n xs:=
 F_mono (Foot.old h hb) (fun k hk=>⟨hk.1,fun he=>by have:=hbase k he.symm;have:=hk.2;omega⟩)
theorem F_elderB (h : F d W ok A n xs) (a : Nat) (ha : W.heap.size≤a) : F d W (fun k=>ok k∧k≠a) A n xs:=F_mono (F_bound h) (fun k hk=>⟨hk.1,by have:=hk.2;omega⟩)
theorem F_after (h : F d W (fun k=>ok k∧some k≠v.ownBlock) A n xs) (hg : W.grownBy W1 v.ownBlock) (hat : v1.ownBlock = v.ownBlock∨∃ b,v1.ownBlock = some b∧W.heap.size≤b) : F d W1 (fun k=>ok k∧some k≠v1.ownBlock) A n xs:=by
 refine F_mono (Foot.step (F_bound h) (fun k hk hlt=>hg.block k hlt hk.1.2)) (fun k hk=>⟨hk.1.1,?_⟩)
 rcases hat with hat | ⟨b,hb,hle⟩
 · rw [hat];exact hk.1.2
 · rw [hb]
   intro he
   injection he with he
   have:=hk.2
   omega
theorem C_F (hd : Heap d) (h : d.C w A n xs) : F d w (fun k=>k < w.heap.size) A n xs:=fun _ hW=>hd.C (fun k hlt=>hW k hlt hlt) h
theorem R_F (h : d.R e W base ok (.slice A n cc) xs) : F d W ok A n xs:=fun W' hW=>by
 have h2:=R_reads' (R_step h hW)
 rw [h2.1]
 exact h2.2.2
theorem FK_now (h : FK d W ok x c) : d.K W x c:=Foot.now h
theorem FK_mono (h : FK d W ok x c) (hok : ∀ k,ok k→ok' k) : FK d W ok' x c:=Foot.mono h hok
theorem FK_bound (h : FK d W ok x c) : FK d W (fun k=>ok k∧k < W.heap.size) x c:=Foot.bound h
theorem FK_step (h : FK d W ok x c) (hm : ∀ k,ok k→k < W.heap.size→W1.heap[k]? = W.heap[k]?) : FK d W1 ok x c:=Foot.step h hm
theorem FK_of_M (h : d.M W base ok x c) : FK d W ok x c:=fun _ hW=>d.K_of_M (M_step h hW)
theorem emptied (W : World) (g : Nat) : ∃ W' : World,(∀ k,k≠g→W'.heap[k]? = W.heap[k]?)∧∀ a : Addr,a.block = g→W'.cell? a = none:=by
 refine ⟨{ W with heap:=W.heap.setIfInBounds g (.cells #[] 0) },fun k hk=>by simp [Ne.symm hk],fun a ha=>?_⟩
 subst ha
 by_cases hlt : a.block < W.heap.size
 · simp [World.cell?,hlt]
 · simp [World.cell?,hlt]
end
end Kd
end Go.Proofs.YtbblomnhobodkaaDoorW.PW
namespace Go.Proofs.YtbblomnhobodkaaDoorW.PW
open Go.RowKit
namespace Kd
def chunks (sz : Nat) (n : Nat) (inner : List Value) : List (List Value):=(List.range n).map fun j=>(inner.drop (j * sz)).take sz
theorem chunks_length (sz n : Nat) (inner : List Value) : (chunks sz n inner).length = n:=by simp [chunks]
theorem chunks_at {sz n : Nat} {inner : List Value} {j : Nat} (hj : j < n) : (chunks sz n inner)[j]? = some ((inner.drop (j * sz)).take sz):=by simp [chunks,hj]
theorem chunks_get {sz n : Nat} {inner : List Value} {j : Nat} {c : List Value} (h : (chunks sz n inner)[j]? = some c) : c = (inner.drop (j * sz)).take sz:=by
 have hj : j < n:=by have:=(List.getElem?_eq_some_iff.1 h).1;rwa [chunks_length] at this
 rw [chunks_at hj] at h
 injection h with h
 exact h.symm
theorem reps_raw {α : Type} {Rr : α→List Value→Prop} {sz : Nat} {xs : List α} {inner : List Value} (h : Reps Rr sz xs inner) (hR : ∀ x c,Rr x c→c.length = sz∧∀ u ∈ c,u.oneCell' = true) : Reps (fun x cs=>cs = x∧cs.length = sz∧∀ u ∈ cs,u.oneCell' = true) sz (chunks sz xs.length inner) inner:=by
 refine ⟨by rw [chunks_length];exact h.1,fun j p hj=>?_⟩
 have hjl : j < xs.length:=by have:=(List.getElem?_eq_some_iff.1 hj).1;rwa [chunks_length] at this
 have hp:=chunks_get hj
 exact ⟨hp.symm,hR _ _ (h.2 j _ (List.getElem?_eq_getElem hjl))⟩
section
variable {α : Type} {d : Kd α} {e base n cc g : Nat} {ok ok' okp S : Nat→Prop} {w w1 W W1 : World} {A : Option Addr} {u v v1 : Value} {xs : List α} {x : α} {c : List Value}
theorem F_get (h : F d W ok A n xs) (z : α) (i : Int) (h0 : 0≤i) (h1 : i < n) :
 ∃ ad c,A = some ad∧c.length = d.sz∧FK d W ok (xs.getD i.toNat z) c∧(∀ j u,c[j]? = some u→W.cell? (ad.add (i.toNat * d.sz + j)) = some u)∧(0 < d.sz→ok ad.block):=by
 obtain ⟨ad,c,rfl,hcl,hK,hcc⟩:=C_get (F_now h) z i h0 h1
 have hin : 0 < d.sz→ok ad.block:=by
  intro hs
  by_cases hk : ok ad.block
  · exact hk
  · obtain ⟨W',h2,h3⟩:=emptied W ad.block
    obtain ⟨ad',c',he,hcl',_,hcc'⟩:=C_get (h W' (fun k hk' _=>h2 k (fun e=>hk (e ▸ hk')))) z i h0 h1
    injection he with he
    subst he
    have h4:=hcc' 0 _ (List.getElem?_eq_getElem (by omega))
    rw [h3 _ (add_block _ _)] at h4
    cases h4
 refine ⟨ad,c,rfl,hcl,fun W' hW=>?_,hcc,hin⟩
 obtain ⟨ad',c',he,hcl',hK',hcc'⟩:=C_get (h W' hW) z i h0 h1
 injection he with he
 subst he
 have hc : c = c':=by
  apply List.ext_getElem?
  intro j
  by_cases hj : j < d.sz
  · have hb : W'.heap[ad.block]? = W.heap[ad.block]?:=by
     have h5:=hcc j _ (List.getElem?_eq_getElem (by omega))
     have h6:=World.block_lt_of_cell? W _ h5
     rw [add_block] at h6
     exact hW _ (hin (by omega)) h6
    have h5:=hcc j _ (List.getElem?_eq_getElem (by omega))
    have h6:=hcc' j _ (List.getElem?_eq_getElem (by omega))
    have h7 : W'.cell? (ad.add (i.toNat * d.sz + j)) = W.cell? (ad.add (i.toNat * d.sz + j)):=by simp [World.cell?,add_block,hb]
    rw [h7,h5] at h6
    rw [List.getElem?_eq_getElem (by omega),List.getElem?_eq_getElem (by omega)]
    exact h6
  · rw [List.getElem?_eq_none (by omega),List.getElem?_eq_none (by omega)]
 rw [hc]
 exact hK'
theorem F_rows (h : F d W ok A n xs) : ReadsRow (fun x c=>FK d W ok x c) d.sz W A n xs:=by
 obtain ⟨hl,hm,hn⟩:=F_now h
 refine ⟨hl,hm,fun hp=>?_⟩
 obtain ⟨ad,rfl,_⟩:=hn hp
 refine ⟨ad,rfl,fun j p hj=>?_⟩
 obtain ⟨hjl,hjp⟩:=List.getElem?_eq_some_iff.1 hj
 obtain ⟨ad',c,he,hcl,hK,hcc,_⟩:=F_get h p (j : Int) (by omega) (by omega)
 injection he with he
 subst he
 simp only [Int.toNat_natCast] at hK hcc
 rw [List.getD_eq_getElem?_getD,hj] at hK
 exact ⟨c,hcl,hK,hcc⟩
def N {α : Type} (d : Kd α) (e : Nat) (w : World) (base : Nat) (ok : Nat→Prop) (v : Value) (xs : List α) : Prop:=
 (∀ k,v.ownBlock = some k→ok k)∧∃ rows : List (List Value),rows.length = xs.length∧(raw d.sz).R e w base (fun k=>some k = v.ownBlock) v rows∧∀ (j : Nat) (x : α) (c : List Value),xs[j]? = some x→rows[j]? = some c→FK d w (fun k=>ok k∧some k≠v.ownBlock) x c
theorem raw_tight {sz : Nat} {rows : List (List Value)} (h : (raw sz).R e w base ok v rows) : (raw sz).R e w base (fun k=>some k = v.ownBlock) v rows:=R_tight rfl h
theorem raw_any {sz : Nat} {rows : List (List Value)} (h : (raw sz).R e w base ok v rows) : (raw sz).R e w base (fun _=>True) v rows:=R_mono h (fun _ _=>trivial)
theorem R_N (h : d.R e w base ok v xs) : N d e w base ok v xs:=by
 obtain ⟨h0,inner,ho,hr⟩:=h
 refine ⟨h0,chunks d.sz xs.length inner,chunks_length _ _ _,⟨fun k hk=>hk.symm,inner,by rw [chunks_length];exact ho,reps_raw hr (fun x c hp=>⟨d.K_len (d.K_of_M hp),d.K_one (d.K_of_M hp)⟩)⟩,fun j x c hx hc=>?_⟩
 rw [chunks_get hc]
 exact FK_of_M (hr.2 j x hx)
theorem S_N (h : Kd.S d e w base ok v xs) : N d e w base ok v xs:=R_N (S_R h)
theorem N_nil (d : Kd α) (e : Nat) (w : World) (base : Nat) (ok : Nat→Prop) : N d e w base ok (.slice none 0 0) []:=R_N (R_nil _ _ _ _ _)
theorem N_mono (h : N d e w base ok v xs) (hok : ∀ k,ok k→ok' k) : N d e w base ok' v xs:=by
 obtain ⟨h0,rows,hl,hR,hf⟩:=h
 exact ⟨fun k hk=>hok k (h0 k hk),rows,hl,hR,fun j x c hx hc=>FK_mono (hf j x c hx hc) (fun k hk=>⟨hok k hk.1,hk.2⟩)⟩
theorem N_lt (h : N d e w base ok v xs) : ∀ k,v.ownBlock = some k→k < w.heap.size:=by
 obtain ⟨_,rows,_,hR,_⟩:=h
 exact R_lt hR
theorem N_base (h : N d e w base ok v xs) : ∀ k,v.ownBlock = some k→base≤k:=by
 obtain ⟨_,rows,_,hR,_⟩:=h
 exact R_base hR
theorem N_bound (h : N d e w base ok v xs) : N d e w base (fun k=>ok k∧k < w.heap.size) v xs:=by
 have hlt:=N_lt h
 obtain ⟨h0,rows,hl,hR,hf⟩:=h
 exact ⟨fun k hk=>⟨h0 k hk,hlt k hk⟩,rows,hl,hR,fun j x c hx hc=>FK_mono (FK_bound (hf j x c hx hc)) (fun k hk=>⟨⟨hk.1.1,hk.2⟩,hk.1.2⟩)⟩
theorem N_lower {base' : Nat} (h : N d e w base ok v xs) (hb : base'≤base) : N d e w base' ok v xs:=by
 obtain ⟨h0,rows,hl,hR,hf⟩:=h
 exact ⟨h0,rows,hl,R_lower hR hb,hf⟩
theorem N_step (h : N d e w base ok v xs) (hm : ∀ k,ok k→k < w.heap.size→w1.heap[k]? = w.heap[k]?) : N d e w1 base ok v xs:=by
 obtain ⟨h0,rows,hl,hR,hf⟩:=h
 exact ⟨h0,rows,hl,R_step hR (fun k hk hlt=>hm k (h0 k hk.symm) hlt),fun j x c hx hc=>FK_step (hf j x c hx hc) (fun k hk hlt=>hm k hk.1 hlt)⟩
theorem N_below (h : N d e w base ok v xs) (hb : Below w.heap.size w w1) : N d e w1 base ok v xs:=N_step h (fun k _ hk=>hb.block k hk)
theorem N_alloc (h : N d e w base ok v xs) (o : Obj) : N d e (w.alloc o) base ok v xs:=N_below h (bwA (Below.refl _ _) o)
theorem N_drew (h : N d e w base ok v xs) : N d e w.drew base ok v xs:=N_below h (below_drew (Below.refl _ _))
theorem N_drewN (h : N d e w base ok v xs) (m : Nat) : N d e (w.drewN m) base ok v xs:=N_below h (bwN (Below.refl _ _) m)
theorem N_elder' (h : N d e W base ok v xs) (hbase : ∀ k,u.ownBlock = some k→W.heap.size≤k) (hb : Below W.heap.size W w1) : N d e w1 base (fun k=>ok k∧some k≠u.ownBlock) v xs:=
 N_mono (N_below (N_bound h) hb) (fun k hk=>⟨hk.1,fun he=>by have:=hbase k he.symm;have:=hk.2;omega⟩)
theorem N_old (h : N d e W base ok v xs) (hb : Below W.heap.size W w1) : N d e w1 base (fun k=>ok k∧k < W.heap.size) v xs:=N_below (N_bound h) hb
theorem N_told {b : Nat} (h : N d e w1 base (fun k=>ok k∧k < b) v xs) (hbase : ∀ k,u.ownBlock = some k→b≤k) : N d e w1 base (fun k=>(ok k∧some k≠u.ownBlock)∧k < b) v xs:=
 N_mono h (fun k hk=>⟨⟨hk.1,fun e=>Nat.lt_irrefl _ (Nat.lt_of_lt_of_le hk.2 (hbase k e.symm))⟩,hk.2⟩)
theorem N_slice (h : N d e w base ok v xs) : ∃ A c,v = .slice A xs.length c:=by
 obtain ⟨_,rows,hl,hR,_⟩:=h
 obtain ⟨A,c,he⟩:=R_slice hR
 exact ⟨A,c,by rw [he,hl]⟩
theorem N_reads' {n c : Nat} (h : N d e w base ok (.slice A n c) xs) : n = xs.length∧n≤c∧d.C w A xs.length xs:=by
 obtain ⟨_,rows,hl,hR,hf⟩:=h
 obtain ⟨hn,hc,hC⟩:=R_reads' hR
 refine ⟨by omega,hc,?_⟩
 rw [hl] at hC
 refine ⟨rfl,hC.2.1,fun hp=>?_⟩
 obtain ⟨ad,he,hcell⟩:=hC.2.2 hp
 refine ⟨ad,he,fun j p hj=>?_⟩
 have hjl : j < rows.length:=by have:=(List.getElem?_eq_some_iff.1 hj).1;omega
 obtain ⟨c',hcl,hK,hcc⟩:=hcell j _ (List.getElem?_eq_getElem hjl)
 have hk:=FK_now (hf j p _ hj (List.getElem?_eq_getElem hjl))
 refine ⟨c',hcl,?_,hcc⟩
 rw [show c' = rows[j] from hK.1]
 exact hk
theorem N_elem {n cap : Nat} (h : N d e W base ok (.slice (some ⟨g,0,none⟩) n cap) xs) (z : α) (i : Int) (h0 : 0≤i) (h1 : i < n) :
 ∃ c,c.length = d.sz∧FK d W (fun k=>ok k∧k≠g) (xs.getD i.toNat z) c∧(∀ j u,c[j]? = some u→W.cell? ⟨g,i.toNat * d.sz + j,none⟩ = some u)∧∀ j,W.frozen? ⟨g,i.toNat * d.sz + j,none⟩ = false:=by
 obtain ⟨_,rows,hl,hR,hf⟩:=h
 have hn:=(R_reads' hR).1
 obtain ⟨c,hcl,hM,hcc,hfr⟩:=R_elem hR [] i h0 h1
 have hil : i.toNat < rows.length:=by omega
 have hil' : i.toNat < xs.length:=by omega
 have hc : c = rows[i.toNat]:=by
  have h2:=hM.1
  rwa [List.getD_eq_getElem?_getD,List.getElem?_eq_getElem hil] at h2
 refine ⟨c,hcl,?_,hcc,hfr⟩
 rw [List.getD_eq_getElem?_getD,List.getElem?_eq_getElem hil']
 exact FK_mono (hf _ _ _ (List.getElem?_eq_getElem hil') (by rw [hc];exact List.getElem?_eq_getElem hil)) (fun k hk=>⟨hk.1,fun he=>hk.2 (by rw [he];simp [Value.ownBlock])⟩)
theorem N_get {ad : Addr} {n cap : Nat} (h : N d e W base ok (.slice (some ad) n cap) xs) (z : α) (i : Int) (h0 : 0≤i) (h1 : i < n) :
 ∃ c,c.length = d.sz∧FK d W (fun k=>ok k∧some k≠(Value.slice (some ad) n cap).ownBlock) (xs.getD i.toNat z) c∧∀ j u,c[j]? = some u→W.cell? (ad.add (i.toNat * d.sz + j)) = some u:=by
 obtain ⟨g,rfl⟩ : ∃ g,ad = ⟨g,0,none⟩:=by
  obtain ⟨_,rows,_,hR,_⟩:=h
  exact R_head hR
 obtain ⟨c,hcl,hM,hcc,_⟩:=N_elem h z i h0 h1
 refine ⟨c,hcl,FK_mono hM (fun k hk=>⟨hk.1,fun he=>hk.2 (by simpa [Value.ownBlock] using he)⟩),fun j u hu=>?_⟩
 rw [add_at,Nat.zero_add]
 exact hcc j u hu
end
end Kd
end Go.Proofs.YtbblomnhobodkaaDoorW.PW
namespace Go.Proofs.YtbblomnhobodkaaDoorW.PW
theorem Reps.one {α : Type} {R : α→List Value→Prop} {ps : List α} {cs : List Value} {p : α} {v : Value} (hp : R p [v]) (h : Reps R 1 ps cs) : Reps R 1 (p :: ps) (v :: cs):=by
 refine ⟨by simp [h.1],fun j q hq=>?_⟩
 cases j with
 | zero=>
  simp only [List.getElem?_cons_zero,Option.some.injEq] at hq
  subst hq
  simpa using hp
 | succ j=>
  simp only [List.getElem?_cons_succ] at hq
  have h1:=h.2 j q hq
  simpa [Nat.mul_one] using h1
theorem Reps.front {α : Type} {R : α→List Value→Prop} {size : Nat} {ps : List α} {cs c all : List Value} {p : α} (hp : R p c) (hc : c.length = size) (h : Reps R size ps cs) (ha : c ++ cs = all) : Reps R size (p :: ps) all:=by
 subst ha
 refine ⟨by rw [List.length_append,hc,h.1,List.length_cons,Nat.succ_mul,Nat.add_comm],fun j q hq=>?_⟩
 cases j with
 | zero=>
  simp only [List.getElem?_cons_zero,Option.some.injEq] at hq
  subst hq
  rw [Nat.zero_mul,List.drop_zero,List.take_append_of_le_length (by omega),List.take_of_length_le (by omega)]
  exact hp
 | succ j=>
  simp only [List.getElem?_cons_succ] at hq
  have h1:=h.2 j q hq
  rw [Nat.succ_mul,List.drop_append,List.drop_of_length_le (by rw [hc];exact Nat.le_add_left _ _),List.nil_append,hc,Nat.add_sub_cancel]
  exact h1
theorem Reps.c2 {α : Type} {R : α→List Value→Prop} {ps : List α} {cs : List Value} {p : α} {va vb : Value} (hp : R p [va,vb]) (h : Reps R 2 ps cs) : Reps R 2 (p :: ps) (va :: vb :: cs):=Reps.front hp rfl h rfl
theorem Reps.c3 {α : Type} {R : α→List Value→Prop} {ps : List α} {cs : List Value} {p : α} {va vb vc : Value} (hp : R p [va,vb,vc]) (h : Reps R 3 ps cs) : Reps R 3 (p :: ps) (va :: vb :: vc :: cs):=Reps.front hp rfl h rfl
theorem Reps.c4 {α : Type} {R : α→List Value→Prop} {ps : List α} {cs : List Value} {p : α} {va vb vc vd : Value} (hp : R p [va,vb,vc,vd]) (h : Reps R 4 ps cs) : Reps R 4 (p :: ps) (va :: vb :: vc :: vd :: cs):=Reps.front hp rfl h rfl
theorem Reps.c5 {α : Type} {R : α→List Value→Prop} {ps : List α} {cs : List Value} {p : α} {va vb vc vd ve : Value} (hp : R p [va,vb,vc,vd,ve]) (h : Reps R 5 ps cs) : Reps R 5 (p :: ps) (va :: vb :: vc :: vd :: ve :: cs):=Reps.front hp rfl h rfl
theorem Reps.c6 {α : Type} {R : α→List Value→Prop} {ps : List α} {cs : List Value} {p : α} {va vb vc vd ve vf : Value} (hp : R p [va,vb,vc,vd,ve,vf]) (h : Reps R 6 ps cs) : Reps R 6 (p :: ps) (va :: vb :: vc :: vd :: ve :: vf :: cs):=Reps.front hp rfl h rfl
theorem Reps.c7 {α : Type} {R : α→List Value→Prop} {ps : List α} {cs : List Value} {p : α} {va vb vc vd ve vf vg : Value} (hp : R p [va,vb,vc,vd,ve,vf,vg]) (h : Reps R 7 ps cs) : Reps R 7 (p :: ps) (va :: vb :: vc :: vd :: ve :: vf :: vg :: cs):=Reps.front hp rfl h rfl
theorem Reps.c8 {α : Type} {R : α→List Value→Prop} {ps : List α} {cs : List Value} {p : α} {va vb vc vd ve vf vg vh : Value} (hp : R p [va,vb,vc,vd,ve,vf,vg,vh]) (h : Reps R 8 ps cs) : Reps R 8 (p :: ps) (va :: vb :: vc :: vd :: ve :: vf :: vg :: vh :: cs):=Reps.front hp rfl h rfl
theorem Reps.c9 {α : Type} {R : α→List Value→Prop} {ps : List α} {cs : List Value} {p : α} {va vb vc vd ve vf vg vh vi : Value} (hp : R p [va,vb,vc,vd,ve,vf,vg,vh,vi]) (h : Reps R 9 ps cs) : Reps R 9 (p :: ps) (va :: vb :: vc :: vd :: ve :: vf :: vg :: vh :: vi :: cs):=Reps.front hp rfl h rfl
theorem Reps.c10 {α : Type} {R : α→List Value→Prop} {ps : List α} {cs : List Value} {p : α} {va vb vc vd ve vf vg vh vi vj : Value} (hp : R p [va,vb,vc,vd,ve,vf,vg,vh,vi,vj]) (h : Reps R 10 ps cs) : Reps R 10 (p :: ps) (va :: vb :: vc :: vd :: ve :: vf :: vg :: vh :: vi :: vj :: cs):=Reps.front hp rfl h rfl
end Go.Proofs.YtbblomnhobodkaaDoorW.PW
namespace Go.Proofs.YtbblomnhobodkaaDoorW.PL
def up (b : Nat→Bool) (i : Nat) : Nat→Bool:=fun j=>if j = i then true else b j
section
variable {P : Program} {ops : Array Oper} {Q : Exit→Act→World→Prop} {md : Region.Mode} {T : Bool × List (List Nat × List Nat)} {B : List Nat} {O : List Nat} {b : Nat→Bool} {i j n : Nat}
theorem put_comm {a : Act} {s t : Tmp} {u v : Value} (h : s≠t) : (a.put (some s) u).put (some t) v = (a.put (some t) v).put (some s) u:=by
 simp only [Act.put]
 rw [Array.setIfInBounds_comm _ _ h]
end
end Go.Proofs.YtbblomnhobodkaaDoorW.PL
namespace Go.Proofs.YtbblomnhobodkaaDoorW.PW
open Go.RowKit
section
variable {P : Program} {ops : Array Oper} {rest : List Oper} {o : Oper} {a : Act} {Q : Exit→Act→World→Prop} {W : World}
theorem gate_guard (hw : Region.wanted o (yielded ops a.tmps) = true) (h : wpList P ops Q ({ o with guard:=none } :: rest) a W) : wpList P ops Q (o :: rest) a W:=by
 have h1 : Region.wanted { o with guard:=none } (yielded ops a.tmps) = true:=rfl
 unfold wpList at h ⊢
 rw [if_pos h1] at h
 rw [if_pos hw]
 exact h
end
end Go.Proofs.YtbblomnhobodkaaDoorW.PW
namespace Go.Proofs.YtbblomnhobodkaaDoorW.PW
open Go.RowKit
namespace Kd
section
variable {α : Type} {d : Kd α} {e base n cap g : Nat} {ok ok' okp : Nat→Prop} {w w1 W : World} {v v1 : Value} {xs ys : List α}
theorem N_appended {rows news : List (List Value)} (h0 : ∀ k,v.ownBlock = some k→ok k) (hl : rows.length = xs.length) (hf : ∀ (j : Nat) (x : α) (c : List Value),xs[j]? = some x→rows[j]? = some c→FK d W (fun k=>ok k∧some k≠v.ownBlock) x c)
 (hl2 : news.length = ys.length) (hf2 : ∀ (j : Nat) (x : α) (c : List Value),ys[j]? = some x→news[j]? = some c→FK d W okp x c) (hokp : ∀ k,okp k→ok k∧some k≠v.ownBlock) (hfresh : ∀ k,W.heap.size≤k→ok k)
 (hR : (raw d.sz).R e w1 base (fun _=>True) v1 (rows ++ news)) (hg : W.grownBy w1 v.ownBlock) (hat : v1.ownBlock = v.ownBlock∨∃ b,v1.ownBlock = some b∧W.heap.size≤b) : N d e w1 base ok v1 (xs ++ ys):=by
 have hne : ∀ k,some k≠v.ownBlock→k < W.heap.size→some k≠v1.ownBlock:=by
  intro k hk hlt
  rcases hat with hat | ⟨b,hb,hle⟩
  · rw [hat];exact hk
  · rw [hb]
    intro he
    injection he with he
    omega
 have step : ∀ {x : α} {c : List Value} {o : Nat→Prop},FK d W o x c→(∀ k,o k→ok k∧some k≠v.ownBlock)→FK d w1 (fun k=>ok k∧some k≠v1.ownBlock) x c:=by
  intro x c o hq ho
  exact FK_mono (FK_step (FK_bound hq) (fun k hk hlt=>hg.block k hlt (ho k hk.1).2)) (fun k hk=>⟨(ho k hk.1).1,hne k (ho k hk.1).2 hk.2⟩)
 refine ⟨fun k hk=>?_,rows ++ news,by rw [List.length_append,List.length_append,hl,hl2],raw_tight hR,fun j x c hx hc=>?_⟩
 · rcases hat with hat | ⟨b,hb,hle⟩
   · exact h0 k (hat ▸ hk)
   · rw [hb] at hk
     injection hk with hk
     exact hfresh k (by omega)
 · rcases Nat.lt_or_ge j xs.length with hlt | hge
   · rw [List.getElem?_append_left hlt] at hx
     rw [List.getElem?_append_left (by omega)] at hc
     exact step (hf j x c hx hc) (fun _ hk=>hk)
   · rw [List.getElem?_append_right hge] at hx
     rw [List.getElem?_append_right (by omega),hl] at hc
     exact step (hf2 _ x c hx hc) hokp
theorem N_made {rows : List (List Value)} (hR : (raw d.sz).R e w1 base (fun k=>k = W.heap.size) v1 rows) (hg : W.grownBy w1 none) (hat : ∃ b,v1.ownBlock = some b∧W.heap.size≤b) (hl : rows.length = xs.length) (hf : ∀ (j : Nat) (x : α) (c : List Value),xs[j]? = some x→rows[j]? = some c→FK d W okp x c)
 (hok : ∀ k,okp k→ok k) (hfresh : ok W.heap.size) : N d e w1 base ok v1 xs:=by
 obtain ⟨b,hb,hle⟩:=hat
 refine ⟨fun k hk=>by rw [hR.1 k hk];exact hfresh,rows,hl,raw_tight hR,fun j x c hx hc=>?_⟩
 refine FK_mono (FK_step (FK_bound (hf j x c hx hc)) (fun k hk hlt=>hg.block k hlt (by simp))) (fun k hk=>⟨hok k hk.1,fun he=>?_⟩)
 rw [hb] at he
 injection he with he
 have:=hk.2
 omega
theorem reads_raw {Rr : α→List Value→Prop} {sz m : Nat} {A : Option Addr} (h : ReadsRow Rr sz W A m ys) (hR : ∀ x c,Rr x c→c.length = sz∧∀ u ∈ c,u.oneCell' = true) :
 ∃ news : List (List Value),news.length = ys.length∧ReadsRow (fun x cs=>cs = x∧cs.length = sz∧∀ u ∈ cs,u.oneCell' = true) sz W A m news∧∀ (j : Nat) (x : α) (c : List Value),ys[j]? = some x→news[j]? = some c→Rr x c:=by
 rcases Nat.eq_zero_or_pos m with h0 | hp
 · have hy : ys = []:=List.eq_nil_of_length_eq_zero (h.1.trans h0)
   subst hy
   exact ⟨[],rfl,⟨h0 ▸ rfl,h.2.1,fun hp=>by omega⟩,fun j x c hx=>by simp at hx⟩
 · obtain ⟨ad,rfl,_⟩:=h.2.2 hp
   obtain ⟨inner,hr,hc⟩:=ReadsRow.inner_ h
   refine ⟨chunks sz ys.length inner,chunks_length _ _ _,⟨by rw [chunks_length];exact h.1,h.2.1,fun _=>⟨ad,rfl,fun j p hj=>?_⟩⟩,fun j x c hx hcc=>?_⟩
   · have hjl : j < ys.length:=by have:=(List.getElem?_eq_some_iff.1 hj).1;rwa [chunks_length] at this
     have hpe:=chunks_get hj
     have hq:=hR _ _ (hr.2 j _ (List.getElem?_eq_getElem hjl))
     rw [← hpe] at hq
     refine ⟨p,hq.1,⟨rfl,hq⟩,fun i u hu=>?_⟩
     have hu2 : inner[j * sz + i]? = some u:=by
      rw [hpe,List.getElem?_take] at hu
      split at hu
      · rw [List.getElem?_drop] at hu
        exact hu
      · cases hu
     exact hc _ u hu2
   · rw [chunks_get hcc]
     exact hr.2 j x hx
end
section
variable {P : Program} {ops : Array Oper} {rest : List Oper} {o : Oper} {a : Act} {Q : Exit→Act→World→Prop} {Kc : Act→World→Prop} {α : Type}
theorem N_append_rows (d : Kd α) {w0 W : World} (base : Nat) (hgd : o.guard = none) (s x : Operand) (t e : TypeId) (z : Value) (bytes : Nat)
 (ho : o.op = .call { callee:=.builtin .append,args:=#[s,x],argTypes:=#[t,t] })
 (ht : P.underlying t = some (.slice e)) (hinfo : (P.info? e).map (fun i=>(i.zero,i.size,i.bytes)) = some (some z,d.sz,bytes)) (hz : z.cells.size = d.sz) (hs0 : 0 < d.sz) (hb0 : 0 < bytes)
 (v : Value) (xs ys : List α) (A : Option Addr) (m c : Nat) (ok okp : Nat→Prop) (hs : a.eval s = v) (hx : a.eval x = .slice A m c)
 (HO : N d e W base ok v xs) (HR : F d W okp A m ys) (hokp : ∀ k,okp k→ok k∧some k≠v.ownBlock) (hfresh : ∀ k,W.heap.size≤k→ok k)
 (HB : Below base w0 W) (hbase : base≤W.heap.size) (hl : (xs.length + m) * bytes≤140737488355328)
 (h : ∀ v1 w1,N d e w1 base ok v1 (xs ++ ys)→Below base w0 w1→W.grownBy w1 v.ownBlock→(v1.ownBlock = v.ownBlock∨∃ b,v1.ownBlock = some b∧W.heap.size≤b)→wpList P ops Q rest (a.put o.dst v1) w1) :
 wpList P ops Q (o :: rest) a W:=by
 obtain ⟨h0,rows,hlr,hR,hf⟩:=HO
 obtain ⟨news,hnl,hnr,hnf⟩:=reads_raw (F_rows HR) (fun y c hk=>⟨d.K_len (FK_now hk),d.K_one (FK_now hk)⟩)
 refine R_append_rows (raw d.sz) base hgd s x t e z bytes ho ht hinfo hz hs0 hb0 v rows news A m c (fun _=>True) (fun _=>False) hs hx (raw_any hR) hnr (fun _ _ hk=>hk) (fun _ hk=>hk.elim) (fun _ _=>trivial) HB hbase (by rw [hlr];exact hl) ?_
 intro v1 w1 hr hb hg hat
 exact h v1 w1 (N_appended h0 hlr hf hnl hnf hokp hfresh hr hg hat) hb hg hat
theorem N_lit (d : Kd α) {w0 W : World} (base e : Nat) (hgd : o.guard = none) {N' : Tmp} (_hd : o.dst = some N') {xs : List α} {inner : List Value} {ok okp : Nat→Prop}
 (hrun : (execOp a.eval o).run P W = .ok (.value (.slice (some ⟨W.heap.size,0,none⟩) xs.length xs.length)) (W.alloc (.cells inner.toArray e)))
 (hrep : Reps (FK d W okp) d.sz xs inner) (hok : ∀ k,okp k→ok k) (hfresh : ok W.heap.size) (HB : Below base w0 W) (hbase : base≤W.heap.size) (hm : xs.length≤9223372036854775807)
 (h : ∀ v1 w1,N d e w1 base ok v1 xs→Below base w0 w1→W.grownBy w1 none→(∃ b,v1.ownBlock = some b∧W.heap.size≤b)→wpList P ops Q rest (a.put o.dst v1) w1) :
 wpList P ops Q (o :: rest) a W:=by
 refine R_lit (raw d.sz) base e hgd _hd (xs:=chunks d.sz xs.length inner) (inner:=inner) (ok:=fun k=>k = W.heap.size) (okp:=fun _=>False) (by rw [chunks_length];exact hrun) (reps_raw hrep (fun y c hk=>⟨d.K_len (FK_now hk),d.K_one (FK_now hk)⟩)) (fun _ hk=>hk.elim) rfl HB hbase (by rw [chunks_length];exact hm) ?_
 intro v1 w1 hr hb hg hat
 exact h v1 w1 (N_made hr hg hat (chunks_length _ _ _) (fun j y c hy hc=>by rw [chunks_get hc];exact hrep.2 j y hy) hok hfresh) hb hg hat
end
end Kd
end Go.Proofs.YtbblomnhobodkaaDoorW.PW
namespace Go.Proofs.YtbblomnhobodkaaDoorW.PM
open Go.RowKit Go.Proofs.YtbblomnhobodkaaDoorW.PW
namespace Kd
open Go.Proofs.YtbblomnhobodkaaDoorW.PW.Kd
end Kd
namespace Kd
open Go.Proofs.YtbblomnhobodkaaDoorW.PW.Kd
end Kd
theorem max2_int (k k' : IntKind) (x y : Int) : Builtin.max2 (.int k x) (.int k' y) = pure (.int k (if x < y then y else x)):=by simp only [Builtin.max2,gt_iff_lt]
theorem min2_int (k k' : IntKind) (x y : Int) : Builtin.min2 (.int k x) (.int k' y) = pure (.int k (if y < x then y else x)):=by simp only [Builtin.min2]
theorem max_two (ats : Array TypeId) (ty : TypeId) (a b : Value) : Builtin.max_ ats ty #[a,b] = (Builtin.max2 a b >>= fun s=>pure s):=by simp only [Builtin.max_,List.foldlM_cons,List.foldlM_nil]
theorem min_two (ats : Array TypeId) (ty : TypeId) (a b : Value) : Builtin.min_ ats ty #[a,b] = (Builtin.min2 a b >>= fun s=>pure s):=by simp only [Builtin.min_,List.foldlM_cons,List.foldlM_nil]
theorem max_three (ats : Array TypeId) (ty : TypeId) (a b c : Value) : Builtin.max_ ats ty #[a,b,c] = (Builtin.max2 a b >>= fun s=>Builtin.max2 s c >>= fun s=>pure s):=by simp only [Builtin.max_,List.foldlM_cons,List.foldlM_nil]
theorem min_three (ats : Array TypeId) (ty : TypeId) (a b c : Value) : Builtin.min_ ats ty #[a,b,c] = (Builtin.min2 a b >>= fun s=>Builtin.min2 s c >>= fun s=>pure s):=by simp only [Builtin.min_,List.foldlM_cons,List.foldlM_nil]
theorem max_four (ats : Array TypeId) (ty : TypeId) (a b c d : Value) : Builtin.max_ ats ty #[a,b,c,d] = (Builtin.max2 a b >>= fun s=>Builtin.max2 s c >>= fun s=>Builtin.max2 s d >>= fun s=>pure s):=by simp only [Builtin.max_,List.foldlM_cons,List.foldlM_nil]
theorem min_four (ats : Array TypeId) (ty : TypeId) (a b c d : Value) : Builtin.min_ ats ty #[a,b,c,d] = (Builtin.min2 a b >>= fun s=>Builtin.min2 s c >>= fun s=>Builtin.min2 s d >>= fun s=>pure s):=by simp only [Builtin.min_,List.foldlM_cons,List.foldlM_nil]
end Go.Proofs.YtbblomnhobodkaaDoorW.PM
namespace Go.Proofs.YtbblomnhobodkaaDoorW.PW
open Go.RowKit
section
variable {P : Program} {ops : Array Oper} {rest : List Oper} {o : Oper} {a : Act} {Q : Exit→Act→World→Prop} {W : World}
theorem gate_callee {f : FuncId} {aS : Array Operand} {ts : Array TypeId} (_ho : o.op = .call { callee:=.value (.func f),args:=aS,argTypes:=ts }) (h : wpList P ops Q (o :: rest) a W) : wpList P ops Q (o :: rest) a W:=h
theorem gate_builtin {b : Builtin} {xs : Array Operand} {ts : Array TypeId} (_ho : o.op = .call { callee:=.builtin b,args:=xs,argTypes:=ts }) (h : wpList P ops Q (o :: rest) a W) : wpList P ops Q (o :: rest) a W:=h
end
def shl (k : IntKind) (x y : Int) : Int:=k.wrap (x * 2 ^ min y.toNat k.bits)
def shr (k : IntKind) (x y : Int) : Int:=x / 2 ^ min y.toNat k.bits
theorem shl_small {k : IntKind} {x y j : Int} (h : shl k x y = j) (hy : y≤k.bits) : k.wrap (x * 2 ^ y.toNat) = j:=by rw [← h];unfold shl;rw [Nat.min_eq_left (by omega)]
theorem shr_small {k : IntKind} {x y j : Int} (h : shr k x y = j) (hy : y≤k.bits) : x / 2 ^ y.toNat = j:=by rw [← h];unfold shr;rw [Nat.min_eq_left (by omega)]
theorem drewN_self (w : World) (n : Nat) : w.drewN n = w.drewN n:=rfl
namespace Kd
section
variable {α : Type} {d : Kd α} {e base g n cap : Nat} {ok oki okp : Nat→Prop} {W : World} {xs : List α} {i : Int} {c : List Value}
theorem H_at (h : H d e W base ok (.slice (some ⟨g,0,none⟩) n cap) xs i oki c) (h0 : 0≤i) (h1 : i < n) : (∀ j u,c[j]? = some u→W.cell? ⟨g,i.toNat * d.sz + j,none⟩ = some u)∧∀ j,W.frozen? ⟨g,i.toNat * d.sz + j,none⟩ = false:=by
 obtain ⟨rows,_,hraw,_,_,hcc,_⟩:=H_raw h h0 h1
 obtain ⟨_,_,_,_,hfr⟩:=R_elem hraw [] i h0 h1
 exact ⟨hcc,hfr⟩
theorem S_seg0 (hH : H d e W base ok (.slice (some ⟨g,0,none⟩) n cap) xs i oki c) (h0 : 0≤i) (h1 : i < n) {seg : List Value} {j : Nat} (hj : j + seg.length≤d.sz)
 {x' : α} (hM : d.M W base okp x' (c.take j ++ seg ++ c.drop (j + seg.length))) (hokp : ∀ k,okp k→oki k) :
 S d e (W.setCells g (i.toNat * d.sz + j) seg) base ok (.slice (some ⟨g,0,none⟩) n cap) (xs.set i.toNat x')∧W.grownBy (W.setCells g (i.toNat * d.sz + j) seg) (some g):=
 S_seg (okg:=fun _=>False) (H_mono hH (fun _ hk=>⟨hk,fun h=>h⟩)) h0 h1 hj hM (fun k hk=>.inl (hokp k hk)) (fun _ hk=>hk.elim)
end
end Kd
end Go.Proofs.YtbblomnhobodkaaDoorW.PW
namespace Go.Proofs.YtbblomnhobodkaaDoorW.PW
open Go.RowKit
namespace Kd
def V {α : Type} (d : Kd α) (_e : Nat) (W : World) (_base : Nat) (ok : Nat→Prop) (v : Value) (xs : List α) : Prop:=∃ A c,v = .slice A xs.length c∧xs.length≤c∧F d W ok A xs.length xs
section
variable {α β : Type} {d : Kd α} {e base base' n m c g N' lo hi : Nat} {ok ok' S : Nat→Prop} {w W w1 : World} {A : Option Addr} {ad : Addr} {u v v1 : Value} {xs : List α}
theorem V_map (h : V d e W base ok v xs) (hF : ∀ A,F d W ok A xs.length xs→F d w1 ok' A xs.length xs) : V d e w1 base' ok' v xs:=by
 obtain ⟨A,c,hv,hl,hf⟩:=h
 exact ⟨A,c,hv,hl,hF A hf⟩
theorem V_mk (hl : xs.length≤c) (hf : F d W ok A xs.length xs) : V d e W base ok (.slice A xs.length c) xs:=⟨A,c,rfl,hl,hf⟩
theorem V_at (h : V d e W base ok (.slice A n c) xs) : n = xs.length∧n≤c∧F d W ok A xs.length xs:=by
 obtain ⟨A',c',hv,hl,hf⟩:=h
 injection hv with ha hn hc
 subst ha;subst hc
 exact ⟨hn,by rw [hn];exact hl,hf⟩
theorem V_reads' (h : V d e W base ok (.slice A n c) xs) : n = xs.length∧n≤c∧d.C W A xs.length xs:=⟨(V_at h).1,(V_at h).2.1,F_now (V_at h).2.2⟩
theorem V_F (h : V d e W base ok (.slice A n c) xs) : F d W ok A n xs:=by
 obtain ⟨hn,_,hf⟩:=V_at h
 rw [hn]
 exact hf
theorem V_nil (d : Kd α) (e : Nat) (W : World) (base : Nat) (ok : Nat→Prop) : V d e W base ok (.slice none 0 0) []:=⟨none,0,rfl,Nat.le_refl _,F_nil d W ok⟩
theorem R_V (h : d.R e W base ok v xs) : V d e W base' ok v xs:=by
 obtain ⟨A,c,rfl⟩:=R_slice h
 exact ⟨A,c,rfl,(R_reads' h).2.1,R_F h⟩
theorem S_V (h : Kd.S d e W base ok v xs) : V d e W base' ok v xs:=R_V (S_R h)
theorem V_mono (h : V d e W base ok v xs) (hok : ∀ k,ok k→ok' k) : V d e W base ok' v xs:=V_map h (fun _ hf=>F_mono hf hok)
theorem V_below (h : V d e W base ok v xs) (hb : Below W.heap.size W w1) : V d e w1 base ok v xs:=V_map h (fun _ hf=>F_below hf hb)
theorem V_alloc (h : V d e W base ok v xs) (o : Obj) : V d e (W.alloc o) base ok v xs:=V_map h (fun _ hf=>F_alloc hf o)
theorem V_drew (h : V d e W base ok v xs) : V d e W.drew base ok v xs:=V_map h (fun _ hf=>F_drew hf)
theorem V_drewN (h : V d e W base ok v xs) (m : Nat) : V d e (W.drewN m) base ok v xs:=V_map h (fun _ hf=>F_drewN hf m)
theorem V_after (h : V d e W base (fun k=>ok k∧some k≠u.ownBlock) v xs) (hg : W.grownBy w1 u.ownBlock) (hat : v1.ownBlock = u.ownBlock∨∃ b,v1.ownBlock = some b∧W.heap.size≤b) : V d e w1 base (fun k=>ok k∧some k≠v1.ownBlock) v xs:=V_map h (fun _ hf=>F_after hf hg hat)
theorem V_afterv (h : V d e W base (fun k=>ok k∧some k≠v.ownBlock) u xs) (hg : W.grownBy w1 v.ownBlock) (hat : v1.ownBlock = v.ownBlock∨∃ b,v1.ownBlock = some b∧W.heap.size≤b) : V d e w1 base (fun k=>ok k∧some k≠v1.ownBlock) u xs:=V_after h hg hat
theorem V_elder' (h : V d e W base ok v xs) (hbase : ∀ k,u.ownBlock = some k→W.heap.size≤k) (hb : Below W.heap.size W w1) : V d e w1 base (fun k=>ok k∧some k≠u.ownBlock) v xs:=V_map h (fun _ hf=>F_elder' hf hbase hb)
theorem V_elderB (h : V d e W base ok v xs) (a : Nat) (ha : W.heap.size≤a) : V d e W base (fun k=>ok k∧k≠a) v xs:=V_map h (fun _ hf=>F_elderB hf a ha)
theorem R_newM {M : Nat→Prop} (h : d.R e w1 W.heap.size ok v xs) (hle : w.heap.size≤W.heap.size) (hM : ∀ k,w.heap.size≤k→M k) : d.R e w1 W.heap.size (fun k=>M k∧ok k) v xs:=R_mono (R_bound h) (fun k hk=>⟨hM k (Nat.le_trans hle hk.2.1),hk.1⟩)
theorem S_newM {M : Nat→Prop} (h : Kd.S d e w1 W.heap.size ok v xs) (hle : w.heap.size≤W.heap.size) (hM : ∀ k,w.heap.size≤k→M k) : Kd.S d e w1 W.heap.size (fun k=>M k∧ok k) v xs:=S_mono (S_bound h) (fun k hk=>⟨hM k (Nat.le_trans hle hk.2.1),hk.1⟩)
end
end Kd
end Go.Proofs.YtbblomnhobodkaaDoorW.PW
namespace Go.Proofs.YtbblomnhobodkaaDoor.PTw
open Go.RowKit Go.Proofs.YtbblomnhobodkaaDoorW.PW Go.Proofs.YtbblomnhobodkaaDoorW.PL Go.Proofs.YtbblomnhobodkaaDoorW.PM
attribute [local go_sem] max2_int min2_int max_two min_two max_three min_three max_four min_four   -- for this text's walks alone
set_option linter.unusedVariables false
set_option linter.unusedSimpArgs false
def errW : Option Int→Value
 | none=>.nilIface
 | some c=>.iface 0 (.int .i64 c)
theorem errW_none : errW none = .nilIface:=rfl
theorem errW_some (c : Int) : errW (some c) = .iface 0 (.int .i64 c):=rfl
theorem info3 : (Tryd.prog.info? 3).map (fun i=>(i.zero,i.size,i.bytes)) = some (some (.int .i64 0),1,8):=by kernel_rfl
theorem info29 : (Tryd.prog.info? 29).map (fun i=>(i.zero,i.size,i.bytes)) = some (some (.agg #[(.bool false),(.int .i64 0),(.int .i64 0),(.int .i64 0),(.int .i64 0),(.slice none 0 0)]),6,64):=by kernel_rfl
structure S29 where
 f0 : Bool
 f1 : Int
 f2 : Int
 f3 : Int
 f4 : Int
 f5 : (List Int)
def z29 : S29:=⟨false,(0 : Int),(0 : Int),(0 : Int),(0 : Int),([] : List Int)⟩
def k29 : Kd S29:=Kd.iso (Kd.pair Kd.bool (Kd.pair (Kd.int .i64) (Kd.pair (Kd.int .i64) (Kd.pair (Kd.int .i64) (Kd.pair (Kd.int .i64) (Kd.slice 3 (Kd.int .i64))))))) (fun x : S29=>(x.f0,x.f1,x.f2,x.f3,x.f4,x.f5))
theorem k29_heap : Kd.Heap k29:=Kd.heap_iso _ (Kd.heap_pair Kd.heap_bool (Kd.heap_pair (Kd.heap_int .i64) (Kd.heap_pair (Kd.heap_int .i64) (Kd.heap_pair (Kd.heap_int .i64) (Kd.heap_pair (Kd.heap_int .i64) (Kd.heap_slice 3 (Kd.heap_int .i64)))))))
theorem k29_open {w : World} {x : S29} {cs : List Value} (h : k29.K w x cs) : ∃ A5 c5,cs = [.bool x.f0,.int .i64 x.f1,.int .i64 x.f2,.int .i64 x.f3,.int .i64 x.f4,.slice A5 x.f5.length c5]∧x.f5.length≤c5∧(Kd.int .i64).C w A5 x.f5.length x.f5:=by
 obtain ⟨_,_,rfl,rfl,⟨_,_,rfl,rfl,⟨_,_,rfl,rfl,⟨_,_,rfl,rfl,⟨_,_,rfl,rfl,⟨A5,c5,rfl,l5,g5⟩⟩⟩⟩⟩⟩:=h
 exact ⟨A5,c5,rfl,l5,g5⟩
theorem k29_openM {w : World} {base : Nat} {ok : Nat→Prop} {x : S29} {cs : List Value} (h : k29.M w base ok x cs) : ∃ v5,cs = [.bool x.f0,.int .i64 x.f1,.int .i64 x.f2,.int .i64 x.f3,.int .i64 x.f4,v5]∧(Kd.int .i64).R 3 w base ok v5 x.f5:=by
 obtain ⟨_,_,rfl,rfl,⟨_,_,rfl,rfl,⟨_,_,rfl,rfl,⟨_,_,rfl,rfl,⟨_,_,rfl,rfl,⟨v5,rfl,g5⟩⟩⟩⟩⟩⟩:=h
 exact ⟨v5,rfl,g5⟩
theorem k29_mk (w : World) (x : S29) {A5 : Option Addr} {c5 : Nat} (l5 : x.f5.length≤c5) (g5 : (Kd.int .i64).C w A5 x.f5.length x.f5) : k29.K w x [.bool x.f0,.int .i64 x.f1,.int .i64 x.f2,.int .i64 x.f3,.int .i64 x.f4,.slice A5 x.f5.length c5]:=⟨[.bool x.f0],[.int .i64 x.f1,.int .i64 x.f2,.int .i64 x.f3,.int .i64 x.f4,.slice A5 x.f5.length c5],rfl,rfl,⟨[.int .i64 x.f1],[.int .i64 x.f2,.int .i64 x.f3,.int .i64 x.f4,.slice A5 x.f5.length c5],rfl,rfl,⟨[.int .i64 x.f2],[.int .i64 x.f3,.int .i64 x.f4,.slice A5 x.f5.length c5],rfl,rfl,⟨[.int .i64 x.f3],[.int .i64 x.f4,.slice A5 x.f5.length c5],rfl,rfl,⟨[.int .i64 x.f4],[.slice A5 x.f5.length c5],rfl,rfl,⟨A5,c5,rfl,l5,g5⟩⟩⟩⟩⟩⟩
theorem k29_mkM (w : World) (base : Nat) (ok : Nat→Prop) (x : S29) {v5 : Value} (g5 : (Kd.int .i64).R 3 w base ok v5 x.f5) : k29.M w base ok x [.bool x.f0,.int .i64 x.f1,.int .i64 x.f2,.int .i64 x.f3,.int .i64 x.f4,v5]:=⟨[.bool x.f0],[.int .i64 x.f1,.int .i64 x.f2,.int .i64 x.f3,.int .i64 x.f4,v5],rfl,rfl,⟨[.int .i64 x.f1],[.int .i64 x.f2,.int .i64 x.f3,.int .i64 x.f4,v5],rfl,rfl,⟨[.int .i64 x.f2],[.int .i64 x.f3,.int .i64 x.f4,v5],rfl,rfl,⟨[.int .i64 x.f3],[.int .i64 x.f4,v5],rfl,rfl,⟨[.int .i64 x.f4],[v5],rfl,rfl,⟨v5,rfl,g5⟩⟩⟩⟩⟩⟩
theorem k29_openF {W : World} {ok : Nat→Prop} {x : S29} {cs : List Value} (h : Kd.FK k29 W ok x cs) : ∃ A5 c5,cs = [.bool x.f0,.int .i64 x.f1,.int .i64 x.f2,.int .i64 x.f3,.int .i64 x.f4,.slice A5 x.f5.length c5]∧x.f5.length≤c5∧Kd.F (Kd.int .i64) W ok A5 x.f5.length x.f5:=by
 obtain ⟨A5,c5,rfl,l5,_⟩:=k29_open (Kd.FK_now h)
 exact ⟨A5,c5,rfl,l5,(fun W' hW=>by obtain ⟨A5_,c5_,he,l5_,g5_⟩:=k29_open (h W' hW);injection (Option.some.inj (show some (Value.slice A5 x.f5.length c5) = some (Value.slice A5_ x.f5.length c5_) from congrArg (fun l=>l[5]?) he)) with ha_ _ _;rw [ha_];exact g5_)⟩
theorem k29_mkF (W : World) (ok : Nat→Prop) (x : S29) {A5 : Option Addr} {c5 : Nat} (l5 : x.f5.length≤c5) (g5 : Kd.F (Kd.int .i64) W ok A5 x.f5.length x.f5) : Kd.FK k29 W ok x [.bool x.f0,.int .i64 x.f1,.int .i64 x.f2,.int .i64 x.f3,.int .i64 x.f4,.slice A5 x.f5.length c5]:=fun W2 hW=>k29_mk W2 x l5 (g5 W2 hW)
def rd_T29 (xs : List S29) (i : Int) : S29:=xs.getD i.toNat z29
theorem at_T29 {w : World} {A : Option Addr} {n : Nat} {xs : List S29} (h : Kd.C k29 w A n xs) (i : Int) (h0 : 0≤i) (h1 : i < n) : ∃ ad A5 c5,A = some ad∧w.cell? (ad.add (i.toNat * 6)) = some (.bool (rd_T29 xs i).f0)∧w.cell? ⟨(ad.add (i.toNat * 6)).block,(ad.add (i.toNat * 6)).off + 1,none⟩ = some (.int .i64 (rd_T29 xs i).f1)∧w.cell? ⟨(ad.add (i.toNat * 6)).block,(ad.add (i.toNat * 6)).off + 2,none⟩ = some (.int .i64 (rd_T29 xs i).f2)∧w.cell? ⟨(ad.add (i.toNat * 6)).block,(ad.add (i.toNat * 6)).off + 3,none⟩ = some (.int .i64 (rd_T29 xs i).f3)∧w.cell? ⟨(ad.add (i.toNat * 6)).block,(ad.add (i.toNat * 6)).off + 4,none⟩ = some (.int .i64 (rd_T29 xs i).f4)∧w.cell? ⟨(ad.add (i.toNat * 6)).block,(ad.add (i.toNat * 6)).off + 5,none⟩ = some (.slice A5 (rd_T29 xs i).f5.length c5)∧(rd_T29 xs i).f5.length≤c5∧(Kd.int .i64).C w A5 (rd_T29 xs i).f5.length (rd_T29 xs i).f5:=by
 obtain ⟨ad,c,e,_,hK,hc0⟩:=Kd.C_get h z29 i h0 h1
 have hc : ∀ j u,c[j]? = some u→w.cell? (ad.add (i.toNat * 6 + j)) = some u:=hc0
 obtain ⟨A5,c5,rfl,l5,g5⟩:=k29_open hK
 exact ⟨ad,A5,c5,e,hc 0 _ rfl,by rw [← add_field _ _ 1 (by omega)];exact hc 1 _ rfl,by rw [← add_field _ _ 2 (by omega)];exact hc 2 _ rfl,by rw [← add_field _ _ 3 (by omega)];exact hc 3 _ rfl,by rw [← add_field _ _ 4 (by omega)];exact hc 4 _ rfl,by rw [← add_field _ _ 5 (by omega)];exact hc 5 _ rfl,l5,g5⟩
structure S32 where
 f0 : Int
 f1 : Int
 f2 : S29
 f3 : Int
def z32 : S32:=⟨(0 : Int),(0 : Int),z29,(0 : Int)⟩
def k32 : Kd S32:=Kd.iso (Kd.pair (Kd.int .i64) (Kd.pair (Kd.int .i64) (Kd.pair k29 (Kd.int .i64)))) (fun x : S32=>(x.f0,x.f1,x.f2,x.f3))
theorem k32_heap : Kd.Heap k32:=Kd.heap_iso _ (Kd.heap_pair (Kd.heap_int .i64) (Kd.heap_pair (Kd.heap_int .i64) (Kd.heap_pair k29_heap (Kd.heap_int .i64))))
theorem k32_open {w : World} {x : S32} {cs : List Value} (h : k32.K w x cs) : ∃ A7 c7,cs = [.int .i64 x.f0,.int .i64 x.f1,.bool x.f2.f0,.int .i64 x.f2.f1,.int .i64 x.f2.f2,.int .i64 x.f2.f3,.int .i64 x.f2.f4,.slice A7 x.f2.f5.length c7,.int .i64 x.f3]∧x.f2.f5.length≤c7∧(Kd.int .i64).C w A7 x.f2.f5.length x.f2.f5:=by
 obtain ⟨_,_,rfl,rfl,⟨_,_,rfl,rfl,⟨_,_,rfl,s2,rfl⟩⟩⟩:=h
 obtain ⟨A7,c7,rfl,l7,g7⟩:=k29_open s2
 exact ⟨A7,c7,rfl,l7,g7⟩
def rd_T32 (xs : List S32) (i : Int) : S32:=xs.getD i.toNat z32
theorem at_T32 {w : World} {A : Option Addr} {n : Nat} {xs : List S32} (h : Kd.C k32 w A n xs) (i : Int) (h0 : 0≤i) (h1 : i < n) : ∃ ad A7 c7,A = some ad∧w.cell? (ad.add (i.toNat * 9)) = some (.int .i64 (rd_T32 xs i).f0)∧w.cell? ⟨(ad.add (i.toNat * 9)).block,(ad.add (i.toNat * 9)).off + 1,none⟩ = some (.int .i64 (rd_T32 xs i).f1)∧w.cell? ⟨(ad.add (i.toNat * 9)).block,(ad.add (i.toNat * 9)).off + 2,none⟩ = some (.bool (rd_T32 xs i).f2.f0)∧w.cell? ⟨(ad.add (i.toNat * 9)).block,(ad.add (i.toNat * 9)).off + 3,none⟩ = some (.int .i64 (rd_T32 xs i).f2.f1)∧w.cell? ⟨(ad.add (i.toNat * 9)).block,(ad.add (i.toNat * 9)).off + 4,none⟩ = some (.int .i64 (rd_T32 xs i).f2.f2)∧w.cell? ⟨(ad.add (i.toNat * 9)).block,(ad.add (i.toNat * 9)).off + 5,none⟩ = some (.int .i64 (rd_T32 xs i).f2.f3)∧w.cell? ⟨(ad.add (i.toNat * 9)).block,(ad.add (i.toNat * 9)).off + 6,none⟩ = some (.int .i64 (rd_T32 xs i).f2.f4)∧w.cell? ⟨(ad.add (i.toNat * 9)).block,(ad.add (i.toNat * 9)).off + 7,none⟩ = some (.slice A7 (rd_T32 xs i).f2.f5.length c7)∧w.cell? ⟨(ad.add (i.toNat * 9)).block,(ad.add (i.toNat * 9)).off + 8,none⟩ = some (.int .i64 (rd_T32 xs i).f3)∧(rd_T32 xs i).f2.f5.length≤c7∧(Kd.int .i64).C w A7 (rd_T32 xs i).f2.f5.length (rd_T32 xs i).f2.f5:=by
 obtain ⟨ad,c,e,_,hK,hc0⟩:=Kd.C_get h z32 i h0 h1
 have hc : ∀ j u,c[j]? = some u→w.cell? (ad.add (i.toNat * 9 + j)) = some u:=hc0
 obtain ⟨A7,c7,rfl,l7,g7⟩:=k32_open hK
 exact ⟨ad,A7,c7,e,hc 0 _ rfl,by rw [← add_field _ _ 1 (by omega)];exact hc 1 _ rfl,by rw [← add_field _ _ 2 (by omega)];exact hc 2 _ rfl,by rw [← add_field _ _ 3 (by omega)];exact hc 3 _ rfl,by rw [← add_field _ _ 4 (by omega)];exact hc 4 _ rfl,by rw [← add_field _ _ 5 (by omega)];exact hc 5 _ rfl,by rw [← add_field _ _ 6 (by omega)];exact hc 6 _ rfl,by rw [← add_field _ _ 7 (by omega)];exact hc 7 _ rfl,by rw [← add_field _ _ 8 (by omega)];exact hc 8 _ rfl,l7,g7⟩
end Go.Proofs.YtbblomnhobodkaaDoor.PTw
set_option linter.unusedVariables false
set_option linter.unusedSimpArgs false
namespace Go.Mix
def QF : Exit→Act→World→Prop:=fun _ _ _=>False
section
variable {P : Program} {ops : Array Oper} {S : World→Prop} {Q : Exit→Act→World→Prop}
def step (P : Program) (ops : Array Oper) (S : World→Prop) (f : Nat) (o : Oper) (K : Act→World→Prop) (a : Act) (w : World) : Prop:=
 match f with
 | 0=>if Region.wanted o (yielded ops a.tmps) then o.wp P a w (fun a' w'=>S w'∧K a' w') QF else K (a.put o.dst undef) w
 | 1=>∃ v,YieldsIf P ops S o v a∧K (a.put o.dst v) w
 | 2=>∃ v,YieldsIf P ops (fun w'=>w' = w) o v a∧K (a.put o.dst v) w
 | _=>if Region.wanted o (yielded ops a.tmps) then o.wp P a w K QF else K (a.put o.dst undef) w
abbrev It:=Nat × Nat × Oper   -- flag,place,operation
def walk (P : Program) (ops : Array Oper) (S : World→Prop) (Q : Exit→Act→World→Prop) : List It→Act→World→Prop
 | [],a,w=>Q .normal a w
 | (f,_,o) :: rest,a,w=>step P ops S f o (walk P ops S Q rest) a w
theorem wp_some {o : Oper} {a : Act} {w : World} {K : Act→World→Prop} (h : o.wp P a w K QF) : ∃ a' w',K a' w':=by
 unfold Oper.wp at h
 generalize (execOp a.eval o).run P w = r at h
 cases r with
 | ok n w'=>
  cases n <;> simp only [Oper.upon] at h
  case value u=>exact ⟨_,_,h⟩
  case skip=>exact ⟨_,_,h⟩
  case defer d=>exact ⟨_,_,h⟩
  case enter f args=>
   obtain ⟨e,w'',fr,hR,_⟩:=h []
   cases e with
   | returned v=>exact ⟨_,_,hR⟩
   | panicked c=>exact hR.elim
   | outgrown=>obtain ⟨_,_,h⟩:=hR;exact h.elim
  case row row args=>
   obtain ⟨v,w'',hR,_⟩:=h default []
   exact ⟨_,_,hR⟩
 | halt x w'=>
  cases x <;> simp only [Oper.upon] at h
  case panic u=>exact h.elim
theorem yields_one {o : Oper} {v u : Value} {a : Act} {w : World} {S' : World→Prop} (hS : S w) (hS' : S' w) (h : YieldsIf P ops S o v a) (k : YieldsIf P ops S' o u a) : v = u:=by
 rcases h with ⟨hw,hv⟩ | ⟨hw,rfl⟩ <;> rcases k with ⟨kw,kv⟩ | ⟨kw,rfl⟩
 · have h1:=hv w hS;have h2:=kv w hS'
   rw [h1] at h2;cases h2;rfl
 · rw [hw] at kw;cases kw
 · rw [hw] at kw;cases kw
 · rfl
theorem yields_put {o : Oper} {v : Value} {a : Act} {d : Option Tmp} {u : Value} (hs : ∀ cs b,o.op≠.select cs b) (h : ∀ t,d = some t→t ∉ o.looksAt ops) :
 YieldsIf P ops S o v (a.put d u)↔YieldsIf P ops S o v a:=by
 unfold YieldsIf
 rw [execOp_put o hs a d u h,wanted_put o a d u h]
theorem wp_put {x : Oper} {a : Act} {w : World} {d : Option Tmp} {v : Value} {K K' : Act→World→Prop} (hs : ∀ cs b,x.op≠.select cs b)
 (h1 : ∀ t,d = some t→t ∉ x.looksAt ops) (h2 : ∀ t,d = some t→x.dst≠some t)
 (hK : ∀ (u : Value) (ds : List Deferred) w',K (({ a with defers:=ds } : Act).put x.dst u |>.put d v) w'→K' (({ a with defers:=ds } : Act).put x.dst u) w')
 (h : x.wp P (a.put d v) w K QF) : x.wp P a w K' QF:=by
 unfold Oper.wp at *
 rw [execOp_put x hs a d v h1] at h
 have e0 : ∀ u,(a.put d v).put x.dst u = (a.put x.dst u).put d v:=fun u=>Act.put_comm a v u h2
 generalize (execOp a.eval x).run P w = r at *
 cases r with
 | ok n w'=>
  cases n <;> simp only [Oper.upon] at h ⊢
  case value u=>rw [e0] at h;exact hK u a.defers w' h
  case skip=>rw [e0] at h;exact hK undef a.defers w' h
  case defer q=>
   have e1 : ({ a.put d v with defers:=q :: (a.put d v).defers } : Act).put x.dst undef = (({ a with defers:=q :: a.defers } : Act).put x.dst undef).put d v:=by
    rw [Act.put_defers,Act.put_comm _ v undef h2]
   rw [e1] at h
   exact hK undef (q :: a.defers) w' h
  case enter f args=>
   refine Calls.mono h fun e w'' he=>?_
   cases e with
   | returned u=>simp only [e0] at he;exact hK u a.defers w'' he
   | panicked c=>exact he
   | outgrown=>exact he
  case row row args=>exact Rows.mono h fun u w'' he=>by rw [e0] at he;exact hK u a.defers w'' he
 | halt x w'=>
  cases x <;> simp only [Oper.upon] at h ⊢
  case panic u=>exact h
theorem wp_unput {x : Oper} {a : Act} {w : World} {d : Option Tmp} {v : Value} {K K' : Act→World→Prop} (hs : ∀ cs b,x.op≠.select cs b)
 (h1 : ∀ t,d = some t→t ∉ x.looksAt ops) (h2 : ∀ t,d = some t→x.dst≠some t)
 (hK : ∀ (u : Value) (ds : List Deferred) w',K (({ a with defers:=ds } : Act).put x.dst u) w'→K' ((({ a with defers:=ds } : Act).put x.dst u).put d v) w')
 (h : x.wp P a w K QF) : x.wp P (a.put d v) w K' QF:=by
 unfold Oper.wp at *
 rw [execOp_put x hs a d v h1]
 have e0 : ∀ u,(a.put d v).put x.dst u = (a.put x.dst u).put d v:=fun u=>Act.put_comm a v u h2
 generalize (execOp a.eval x).run P w = r at *
 cases r with
 | ok n w'=>
  cases n <;> simp only [Oper.upon] at h ⊢
  case value u=>rw [e0];exact hK u a.defers w' h
  case skip=>rw [e0];exact hK undef a.defers w' h
  case defer q=>
   have e1 : ({ a.put d v with defers:=q :: (a.put d v).defers } : Act).put x.dst undef = (({ a with defers:=q :: a.defers } : Act).put x.dst undef).put d v:=by
    rw [Act.put_defers,Act.put_comm _ v undef h2]
   rw [e1]
   exact hK undef (q :: a.defers) w' h
  case enter f args=>
   refine Calls.mono h fun e w'' he=>?_
   cases e with
   | returned u=>simp only [e0];exact hK u a.defers w'' he
   | panicked c=>exact he
   | outgrown=>exact he
  case row row args=>exact Rows.mono h fun u w'' he=>by rw [e0];exact hK u a.defers w'' he
 | halt x w'=>
  cases x <;> simp only [Oper.upon] at h ⊢
  case panic u=>exact h
theorem wp_mono' {o : Oper} {a : Act} {w : World} {K K' : Act→World→Prop} (h : ∀ a w,K a w→K' a w) (hh : o.wp P a w K QF) : o.wp P a w K' QF:=
 Oper.wp_mono h hh
def good (f g : Nat) : Bool:=(f == 1 && g≤2) || (g == 1 && f≤2) || (f == 2 && g == 2)
theorem step_swap {f g : Nat} {y x : Oper} {K : Act→World→Prop} {a : Act} {w : World} (hg : good f g = true) (hap : y.apart ops x = true)
 (hsy : ∀ cs b,y.op≠.select cs b) (hsx : ∀ cs b,x.op≠.select cs b) (hS : S w∨(f = 2∧g = 2))
 (h : step P ops S f y (step P ops S g x K) a w) : step P ops S g x (step P ops S f y K) a w:=by
 obtain ⟨p1,p2,p3⟩:=Oper.apart_spec hap
 have p2' : ∀ t,x.dst = some t→y.dst≠some t:=fun t ht hy=>p2 t hy ht
 have two : ∀ {S1 S2 : World→Prop},(∃ v,YieldsIf P ops S1 y v a∧∃ u,YieldsIf P ops S2 x u (a.put y.dst v)∧K ((a.put y.dst v).put x.dst u) w)→
  ∃ u,YieldsIf P ops S2 x u a∧∃ v,YieldsIf P ops S1 y v (a.put x.dst u)∧K ((a.put x.dst u).put y.dst v) w:=by
  rintro S1 S2 ⟨v,hv,u,hu,hK⟩
  exact ⟨u,(yields_put hsx p1).1 hu,v,(yields_put hsy p3).2 hv,by rw [Act.put_comm a v u p2] at hK;exact hK⟩
 have cases3 : (f = 1∧g = 0)∨(f = 0∧g = 1)∨((f = 1∨f = 2)∧(g = 1∨g = 2)):=by
  simp only [good,Bool.or_eq_true,Bool.and_eq_true,beq_iff_eq,decide_eq_true_eq] at hg
  omega
 rcases cases3 with ⟨rfl,rfl⟩ | ⟨rfl,rfl⟩ | ⟨hf,hg'⟩
 · have hSw : S w:=by rcases hS with h | ⟨h,_⟩;exact h;cases h
   simp only [step] at h ⊢
   obtain ⟨v,hv,h⟩:=h
   rw [wanted_put x a y.dst v p1] at h
   split
   · rename_i hw
     simp only [hw,if_true] at h
     refine wp_put (ops:=ops) hsx p1 p2 (fun u ds w' hK=>?_) h
     obtain ⟨hS',hK⟩:=hK
     exact ⟨hS',v,(yields_put hsy p3).2 hv,hK⟩
   · rename_i hw
     simp only [hw] at h
     refine ⟨v,(yields_put hsy p3).2 hv,?_⟩
     rw [Act.put_comm a v undef p2] at h
     simpa using h
 · have hSw : S w:=by rcases hS with h | ⟨h,_⟩;exact h;cases h
   simp only [step] at h ⊢
   by_cases hw : Region.wanted y (yielded ops a.tmps) = true
   · simp only [hw,if_true] at h
     -- what x yields is the same at any outcome
     have hx : ∃ u,YieldsIf P ops S x u a:=by
      have h' : y.wp P a w (fun a' w'=>∃ u,YieldsIf P ops S x u a) QF:=by
       have hd : y.wp P (a.put none undef) w (fun a' w'=>S w'∧∃ v,YieldsIf P ops S x v a'∧K (a'.put x.dst v) w') QF:=h
       refine wp_put (ops:=ops) (d:=none) (v:=undef) hsy (by simp) (by simp) (fun u ds w' hK=>?_) hd
       obtain ⟨_,v,hv,_⟩:=hK
       exact ⟨v,(yields_put (a:={ a with defers:=ds }) hsx p1).1 hv⟩
      obtain ⟨_,_,h⟩:=wp_some h'
      exact h
     obtain ⟨u,hu⟩:=hx
     refine ⟨u,hu,?_⟩
     rw [wanted_put y a x.dst u p3]
     simp only [hw,if_true]
     refine wp_unput (ops:=ops) hsy p3 p2' (fun v ds w' hK=>?_) h
     obtain ⟨hS',u',hu',hK⟩:=hK
     have hu0 : YieldsIf P ops S x u' a:=(yields_put (a:={ a with defers:=ds }) hsx p1).1 hu'
     obtain rfl:=yields_one hSw hSw hu hu0
     exact ⟨hS',hK⟩
   · simp only [hw] at h
     obtain ⟨u,hu,hK⟩:=h
     refine ⟨u,(yields_put hsx p1).1 hu,?_⟩
     rw [wanted_put y a x.dst u p3]
     simp only [hw]
     rw [Act.put_comm a undef u p2] at hK
     simpa using hK
 · rcases hf with rfl | rfl <;> rcases hg' with rfl | rfl <;> simp only [step] at h ⊢ <;> exact two h
theorem step_mono {f : Nat} {o : Oper} {K K' : Act→World→Prop} {a : Act} {w : World} (h : ∀ a' w',(f = 0→S w'∨w' = w)→(f = 1∨f = 2→w' = w)→K a' w'→K' a' w')
 (hh : step P ops S f o K a w) : step P ops S f o K' a w:=by
 match f with
 | 0=>
  simp only [step] at hh ⊢
  split
  · rename_i hw;simp only [hw,if_true] at hh;exact wp_mono' (fun a' w' ⟨h1,h2⟩=>⟨h1,h a' w' (fun _=>.inl h1) (by simp) h2⟩) hh
  · rename_i hw;simp only [hw] at hh;exact h _ _ (fun _=>.inr rfl) (by simp) hh
 | 1=>obtain ⟨v,hv,hK⟩:=hh;exact ⟨v,hv,h _ _ (by simp) (fun _=>rfl) hK⟩
 | 2=>obtain ⟨v,hv,hK⟩:=hh;exact ⟨v,hv,h _ _ (by simp) (fun _=>rfl) hK⟩
 | n + 3=>
  simp only [step] at hh ⊢
  split
  · rename_i hw;simp only [hw,if_true] at hh;exact wp_mono' (fun a' w' h2=>h a' w' (by simp) (by simp) h2) hh
  · rename_i hw;simp only [hw] at hh;exact h _ _ (by simp) (by simp) hh
theorem walk_front {x : It} {B : List It} (hsx : ∀ cs b,x.2.2.op≠.select cs b) : ∀ (A : List It) (a : Act) (w : World),
 (∀ y ∈ A,good y.1 x.1 = true∧y.2.2.apart ops x.2.2 = true∧∀ cs b,y.2.2.op≠.select cs b)→(S w∨∀ y ∈ A,x.1 = 2∧y.1 = 2)→
 walk P ops S Q (A ++ x :: B) a w→step P ops S x.1 x.2.2 (walk P ops S Q (A ++ B)) a w:=by
 intro A
 induction A with
 | nil=>intro a w _ _ h;exact h
 | cons y A ih=>
  intro a w hA hS h
  obtain ⟨hg,hap,hsy⟩:=hA y (by simp)
  have hA' : ∀ z ∈ A,good z.1 x.1 = true∧z.2.2.apart ops x.2.2 = true∧∀ cs b,z.2.2.op≠.select cs b:=fun z hz=>hA z (by simp [hz])
  have hf : y.1 = 0∨y.1 = 1∨y.1 = 2:=by
   simp only [good,Bool.or_eq_true,Bool.and_eq_true,beq_iff_eq,decide_eq_true_eq] at hg
   omega
  have h1 : step P ops S y.1 y.2.2 (step P ops S x.1 x.2.2 (walk P ops S Q (A ++ B))) a w:=by
   refine step_mono (fun a' w' h0 h12 hK=>ih a' w' hA' ?_ hK) (show step P ops S y.1 y.2.2 (walk P ops S Q (A ++ x :: B)) a w from h)
   rcases hS with hS | hy
   · rcases hf with hf | hf | hf
     · rcases h0 hf with h | h
       · exact .inl h
       · rw [h];exact .inl hS
     · rw [h12 (.inl hf)];exact .inl hS
     · rw [h12 (.inr hf)];exact .inl hS
   · exact .inr fun z hz=>hy z (by simp [hz])
  exact step_swap hg hap hsy hsx (hS.imp id fun hy=>⟨(hy y (by simp)).2,(hy y (by simp)).1⟩) h1
def closed (ops : Array Oper) (bs : Nat→Nat) : Bool:=
 (List.range ops.size).all fun j=>(List.range j).all fun i=>!(bs j).testBit i ||
  ((ops[j]?).map fun o=>o.after.any fun e=>Region.binds .any e && decide (e.on < j) && (e.on == i || (decide (i < e.on) && (bs e.on).testBit i))).getD false
def pairs (ops : Array Oper) (bs : Nat→Nat) (fl : Nat→Nat) : Bool:=
 (List.range ops.size).all fun j=>(List.range j).all fun i=>(bs j).testBit i ||
  (good (fl i) (fl j) && ((ops[i]?).bind fun x=>(ops[j]?).map fun y=>x.apart ops y).getD false)
def lastOk (n : Nat) (fl : Nat→Nat) : Bool:=
 (List.range n).all fun j=>(List.range j).all fun i=>fl i≤2 || (2≤fl j)
def backOnly (ops : Array Oper) : Bool:=
 (List.range ops.size).all fun j=>((ops[j]?).map fun o=>o.after.all fun e=>!Region.binds .any e || decide (e.on < j)).getD true
structure Ok (ops : Array Oper) (bs fl : Nat→Nat) : Prop where
 sel : Region.noSelect ops = true
 closed : closed ops bs = true
 pairs : pairs ops bs fl = true
 last : lastOk ops.size fl = true
 back : backOnly ops = true
variable {bs fl : Nat→Nat}
theorem Ok.listed_of_waits (hok : Ok ops bs fl) {listed : Array Bool} (hcl : ∀ j oj,ops[j]? = some oj→listed.getD j false = true→∀ e ∈ oj.after,Region.binds .any e = true→listed.getD e.on false = true) :
 ∀ (j i : Nat),i < j→(bs j).testBit i = true→(∀ oj,ops[j]? = some oj→∀ e ∈ oj.after,Region.binds .any e = true→listed.getD e.on false = true)→j < ops.size→listed.getD i false = true:=by
 intro j
 induction j using Nat.strongRecOn with
 | _ j ih=>
  intro i hij hb hall hj
  have h1:=List.all_eq_true.1 hok.closed j (List.mem_range.2 hj)
  have h2:=List.all_eq_true.1 h1 i (List.mem_range.2 hij)
  simp only [hb,Bool.not_true,Bool.false_or] at h2
  have hoj : ops[j]? = some ops[j]:=Array.getElem?_eq_getElem hj
  simp only [hoj,Option.map_some,Option.getD_some] at h2
  obtain ⟨e,he,h3⟩:=Array.any_eq_true'.1 h2
  simp only [Bool.and_eq_true,Bool.or_eq_true,beq_iff_eq,decide_eq_true_eq] at h3
  obtain ⟨⟨hbind,hlt⟩,h3⟩:=h3
  have hl:=hall _ hoj e he hbind
  rcases h3 with h3 | ⟨hi,h3⟩
  · rw [← h3];exact hl
  · exact ih e.on hlt i hi h3 (fun o ho e' he' hb'=>hcl e.on o ho hl e' he' hb') (by omega)
def items (fl : Nat→Nat) (ops : Array Oper) (listed : Array Bool) : List It:=
 ((List.range ops.size).filter fun i=>!listed.getD i true).filterMap fun i=>(ops[i]?).map fun o=>(fl i,i,o)
theorem filter_range_split {n : Nat} {p : Nat→Bool} {i : Nat} (hi : i < n) (hp : p i = true) :
 (List.range n).filter p = (List.range i).filter p ++ i :: ((List.range' (i + 1) (n - i - 1)).filter p):=by
 have e : List.range n = List.range i ++ i :: List.range' (i + 1) (n - i - 1):=by
  rw [List.range_eq_range',List.range_eq_range',show i :: List.range' (i + 1) (n - i - 1) = List.range' i (n - i) by
   rw [show n - i = (n - i - 1) + 1 by omega,List.range'_succ];simp]
  rw [show List.range' i (n - i) = List.range' (0 + 1 * i) (n - i) by simp,List.range'_append]
  congr 1;omega
 rw [e,List.filter_append,List.filter_cons]
 simp [hp]
theorem listed_set {listed : Array Bool} {i j : Nat} (hi : i < listed.size) : (listed.setIfInBounds i true).getD j true = if j = i then true else listed.getD j true:=by
 by_cases h : j = i
 · subst h;simp [hi]
 · simp [h,Array.getElem?_setIfInBounds_ne (Ne.symm h)]
theorem wp_weaken {o : Oper} {a : Act} {w : World} {K K' : Act→World→Prop} (h : ∀ a w,K a w→K' a w) (hh : o.wp P a w K QF) : o.wp P a w K' Q:=by
 unfold Oper.wp at *
 generalize (execOp a.eval o).run P w = r at *
 cases r with
 | ok n w'=>
  cases n <;> simp only [Oper.upon] at hh ⊢
  case value u=>exact h _ _ hh
  case skip=>exact h _ _ hh
  case defer d=>exact h _ _ hh
  case enter f args=>
   refine Calls.mono hh fun e w'' he=>?_
   cases e with
   | returned v=>exact h _ _ he
   | panicked c=>exact he.elim
   | outgrown=>obtain ⟨_,_,h⟩:=he;exact h.elim
  case row row args=>exact Rows.mono hh fun v w'' he=>h _ _ he
 | halt x w'=>
  cases x <;> simp only [Oper.upon] at hh ⊢
  case panic u=>exact hh.elim
theorem mem_items {listed : Array Bool} {y : It} (h : y ∈ items fl ops listed) : y.2.1 < ops.size∧listed.getD y.2.1 true = false∧y.1 = fl y.2.1∧ops[y.2.1]? = some y.2.2:=by
 unfold items at h
 obtain ⟨i,hi,ho⟩:=List.mem_filterMap.1 h
 obtain ⟨hr,hl⟩:=List.mem_filter.1 hi
 have hlt:=List.mem_range.1 hr
 simp only [Bool.not_eq_true'] at hl
 rw [Array.getElem?_eq_getElem hlt] at ho
 simp only [Option.map_some,Option.some.injEq] at ho
 subst ho
 exact ⟨hlt,hl,rfl,Array.getElem?_eq_getElem hlt⟩
theorem items_split {listed : Array Bool} {i : Nat} {o : Oper} (hsz : listed.size = ops.size) (ho : ops[i]? = some o) (hl : listed.getD i true = false) :
 ∃ A B,items fl ops listed = A ++ (fl i,i,o) :: B∧items fl ops (listed.setIfInBounds i true) = A ++ B∧(∀ y ∈ A,y.2.1 < i)∧(∀ y ∈ B,i < y.2.1):=by
 have hlt : i < ops.size:=(Array.getElem?_eq_some_iff.1 ho).1
 have hli : i < listed.size:=by omega
 refine ⟨((List.range i).filter fun i=>!listed.getD i true).filterMap fun i=>(ops[i]?).map fun o=>(fl i,i,o),
  ((List.range' (i + 1) (ops.size - i - 1)).filter fun i=>!listed.getD i true).filterMap fun i=>(ops[i]?).map fun o=>(fl i,i,o),?_,?_,?_,?_⟩
 · unfold items
   rw [filter_range_split hlt (by simp [hl]),List.filterMap_append,List.filterMap_cons]
   simp [ho]
 · unfold items
   have e : List.range ops.size = List.range i ++ i :: List.range' (i + 1) (ops.size - i - 1):=by
    have h:=filter_range_split (n:=ops.size) (p:=fun _=>true) hlt rfl
    rw [List.filter_eq_self.2 (fun _ _=>rfl),List.filter_eq_self.2 (fun _ _=>rfl),List.filter_eq_self.2 (fun _ _=>rfl)] at h
    exact h
   rw [e,List.filter_append,List.filter_cons]
   have hs : listed.setIfInBounds i true = listed.set i true hli:=by simp [Array.setIfInBounds,hli]
   rw [listed_set hli]
   simp only [if_true,Bool.not_true,Bool.false_eq_true,if_false,List.filterMap_append]
   have f1 : (List.range i).filter (fun j=>!(listed.setIfInBounds i true).getD j true) = (List.range i).filter (fun j=>!listed.getD j true):=
    List.filter_congr fun j hj=>by
     have:=List.mem_range.1 hj
     rw [listed_set hli,if_neg (by omega)]
   have f2 : (List.range' (i + 1) (ops.size - i - 1)).filter (fun j=>!(listed.setIfInBounds i true).getD j true) = (List.range' (i + 1) (ops.size - i - 1)).filter (fun j=>!listed.getD j true):=
    List.filter_congr fun j hj=>by
     have:=(List.mem_range'_1.1 hj).1
     rw [listed_set hli,if_neg (by omega)]
   rw [f1,f2]
 · intro y hy
   obtain ⟨k,hk,ho⟩:=List.mem_filterMap.1 hy
   have hk':=List.mem_range.1 (List.mem_filter.1 hk).1
   cases hok : ops[k]? with
   | none=>simp [hok] at ho
   | some ok=>simp [hok] at ho;subst ho;exact hk'
 · intro y hy
   obtain ⟨k,hk,ho⟩:=List.mem_filterMap.1 hy
   have hk':=(List.mem_range'_1.1 (List.mem_filter.1 hk).1).1
   cases hok : ops[k]? with
   | none=>simp [hok] at ho
   | some ok=>simp [hok] at ho;subst ho;dsimp only;omega
theorem any_of_walk (hok : Ok ops bs fl) : ∀ (n : Nat) (listed : Array Bool) (a : Act) (w : World),listed.size = ops.size→
 (items fl ops listed).length≤n→
 (∀ j oj,ops[j]? = some oj→listed.getD j false = true→∀ e ∈ oj.after,Region.binds .any e = true→listed.getD e.on false = true)→
 (S w∨∀ y ∈ items fl ops listed,2≤y.1)→walk P ops S Q (items fl ops listed) a w→wpAny P .any ops Q n listed a w:=by
 have hsel:=Region.noSelect_spec hok.sel
 -- nothing is ready only where nothing is left
 have hnil : ∀ (listed : Array Bool),listed.size = ops.size→Region.ready .any ops listed = []→items fl ops listed = []:=by
  intro listed hsz hr
  have key : ∀ i,i < ops.size→listed.getD i true = true:=by
   intro i
   induction i using Nat.strongRecOn with
   | _ i ih=>
    intro hi
    cases hl : listed.getD i true with
    | true=>rfl
    | false=>
     exfalso
     have : i ∈ Region.ready .any ops listed:=by
      refine mem_ready.2 ⟨hl,ops[i],Array.getElem?_eq_getElem hi,fun e he hb=>?_⟩
      have h1:=List.all_eq_true.1 hok.back i (List.mem_range.2 hi)
      rw [Array.getElem?_eq_getElem hi] at h1
      simp only [Option.map_some,Option.getD_some] at h1
      have h2:=Array.all_eq_true'.1 h1 e he
      simp only [hb,Bool.not_true,Bool.false_or,decide_eq_true_eq] at h2
      have h3:=ih e.on h2 (by omega)
      have : e.on < listed.size:=by omega
      simp [this] at h3 ⊢;exact h3
     rw [hr] at this;cases this
  unfold items
  rw [List.filter_eq_nil_iff.2]
  · rfl
  · intro i hi
    simp [key i (List.mem_range.1 hi)]
 intro n
 induction n with
 | zero=>
  intro listed a w hsz hlen hcl hS h
  have h0 : items fl ops listed = []:=List.length_eq_zero_iff.1 (by omega)
  rw [h0] at h
  refine ⟨?_,h⟩
  cases hr : Region.ready .any ops listed with
  | nil=>rfl
  | cons i rs=>
   exfalso
   have hi : i ∈ Region.ready .any ops listed:=by rw [hr];simp
   obtain ⟨hl,o,ho,_⟩:=mem_ready.1 hi
   obtain ⟨A,B,e,_⟩:=items_split (fl:=fl) hsz ho hl
   rw [h0] at e
   simp at e
 | succ n ih=>
  intro listed a w hsz hlen hcl hS h
  refine ⟨fun hr=>by rw [hnil listed hsz hr] at h;exact h,fun i hi=>?_⟩
  obtain ⟨hl,o,ho,hall⟩:=mem_ready.1 hi
  have hlt : i < ops.size:=(Array.getElem?_eq_some_iff.1 ho).1
  obtain ⟨A,B,e1,e2,hA,hB⟩:=items_split (fl:=fl) hsz ho hl
  have hso:=hsel i o
  have hgood : ∀ y ∈ A,good y.1 (fl i) = true∧y.2.2.apart ops o = true∧∀ cs b,y.2.2.op≠.select cs b:=by
   intro y hy
   obtain ⟨hy1,hy2,hy3,hy4⟩:=mem_items (fl:=fl) (ops:=ops) (listed:=listed) (y:=y) (by rw [e1];simp [hy])
   have hlt':=hA y hy
   have h1:=List.all_eq_true.1 hok.pairs i (List.mem_range.2 hlt)
   have h2:=List.all_eq_true.1 h1 y.2.1 (List.mem_range.2 hlt')
   simp only [Bool.or_eq_true,Bool.and_eq_true] at h2
   rcases h2 with h2 | ⟨h2,h3⟩
   · exfalso
     have h4:=hok.listed_of_waits hcl i y.2.1 hlt' h2 (fun oj hoj e he hb=>by
      have : oj = o:=Option.some.inj (hoj.symm.trans ho)
      subst this;exact hall e he hb) hlt
     have : y.2.1 < listed.size:=by omega
     simp [this] at h4 hy2
     rw [h4] at hy2;cases hy2
   · rw [hy4,ho] at h3
     exact ⟨by rw [hy3];exact h2,by simpa using h3,fun cs b=>hsel y.2.1 y.2.2 cs b hy4⟩
  rw [e1] at h hS hlen
  have hfront:=walk_front (x:=(fl i,i,o)) (B:=B) (fun cs b=>hso cs b ho) A a w hgood
   (hS.imp id fun hy y hyA=>by
    have h1:=hy y (by simp [hyA])
    have h2:=hy (fl i,i,o) (by simp)
    have h3:=(hgood y hyA).1
    simp only [good,Bool.or_eq_true,Bool.and_eq_true,beq_iff_eq,decide_eq_true_eq] at h3
    dsimp only at h2 ⊢
    omega) h
  -- what is asked behind it
  have hsz' : (listed.setIfInBounds i true).size = ops.size:=by simp [hsz]
  have hli : i < listed.size:=by omega
  have hcl' : ∀ j oj,ops[j]? = some oj→(listed.setIfInBounds i true).getD j false = true→∀ e ∈ oj.after,Region.binds .any e = true→(listed.setIfInBounds i true).getD e.on false = true:=by
   intro j oj hj hlj e he hb
   by_cases hij : i = j
   · subst hij
     have : oj = o:=Option.some.inj (hj.symm.trans ho)
     subst this
     exact getD_set_true (hall e he hb)
   · rw [getD_set_ne false hij] at hlj
     exact getD_set_true (hcl j oj hj hlj e he hb)
  have next : ∀ a' w',(S w'∨∀ y ∈ A ++ B,2≤y.1)→walk P ops S Q (A ++ B) a' w'→wpAny P .any ops Q n (listed.setIfInBounds i true) a' w':=by
   intro a' w' hS' h'
   refine ih _ a' w' hsz' ?_ hcl' (by rw [e2];exact hS') (by rw [e2];exact h')
   rw [e2]
   simp only [List.length_append,List.length_cons] at hlen ⊢
   omega
  have keep : (S w∨∀ y ∈ A ++ B,2≤y.1):=hS.imp id fun hy y hyA=>hy y (by
   rcases List.mem_append.1 hyA with h | h <;> simp [h])
  have lastB : 3≤fl i→∀ y ∈ A ++ B,2≤y.1:=by
   intro h3 y hy
   rcases List.mem_append.1 hy with hyA | hyB
   · have h4:=(hgood y hyA).1
     simp only [good,Bool.or_eq_true,Bool.and_eq_true,beq_iff_eq,decide_eq_true_eq] at h4
     omega
   · obtain ⟨hy1,hy2,hy3,hy4⟩:=mem_items (fl:=fl) (ops:=ops) (listed:=listed) (y:=y) (by rw [e1];simp [hyB])
     have h5:=List.all_eq_true.1 hok.last y.2.1 (List.mem_range.2 hy1)
     have h6:=List.all_eq_true.1 h5 i (List.mem_range.2 (hB y hyB))
     simp only [Bool.or_eq_true,decide_eq_true_eq] at h6
     rw [hy3];omega
  dsimp only at hfront
  generalize hfi : fl i = f at hfront lastB
  match f,hfront,lastB with
  | 0,hfront,_=>
   simp only [step] at hfront
   unfold wpOp
   simp only [ho]
   split
   · rename_i hw
     simp only [hw,if_true] at hfront
     exact .inl (wp_weaken (fun a' w' ⟨h1,h2⟩=>next a' w' (.inl h1) h2) hfront)
   · rename_i hw
     simp only [hw] at hfront
     exact next _ _ keep (by simpa using hfront)
  | 1,hfront,_=>
   obtain ⟨v,hv,hK⟩:=hfront
   have hSw : S w:=by
    rcases hS with h | h
    · exact h
    · have:=h (fl i,i,o) (by simp)
      dsimp only at this;omega
   exact hv.wpOp ho hSw (next _ _ keep hK)
  | 2,hfront,_=>
   obtain ⟨v,hv,hK⟩:=hfront
   exact hv.wpOp ho rfl (next _ _ keep hK)
  | m + 3,hfront,lastB=>
   simp only [step] at hfront
   unfold wpOp
   simp only [ho]
   have hb:=lastB (by omega)
   split
   · rename_i hw
     simp only [hw,if_true] at hfront
     exact .inl (wp_weaken (fun a' w' h2=>next a' w' (.inr hb) h2) hfront)
   · rename_i hw
     simp only [hw] at hfront
     exact next _ _ (.inr hb) (by simpa using hfront)
def whole (fl : Nat→Nat) (k : Nat) : List Oper→List It
 | []=>[]
 | o :: l=>(fl k,k,o) :: whole fl (k + 1) l
theorem items_whole : ∀ (l : List Oper) (k : Nat),(∀ j,l[j]? = ops[k + j]?)→
 ((List.range' k l.length).filterMap fun i=>(ops[i]?).map fun o=>(fl i,i,o)) = whole fl k l:=by
 intro l
 induction l with
 | nil=>intro k _;rfl
 | cons o l ih=>
  intro k h
  have h0 : ops[k]? = some o:=by simpa using (h 0).symm
  have ih':=ih (k + 1) (fun j=>by have:=h (j + 1);simpa [Nat.add_assoc,Nat.add_comm 1 j] using this)
  simp only [List.length_cons,List.range'_succ,List.filterMap_cons,h0,Option.map_some,whole,ih']
theorem wp_region_mix {id : Nat} {a : Act} {w : World} {l : List Oper} (S : World→Prop) (bs fl : Nat→Nat) (hm : P.follows .mixedOrders = true) (hok : Ok l.toArray bs fl)
 (hS : S w.drew) (h : walk P l.toArray S Q (whole fl 0 l) a w.drew) : (Code.region id l.toArray true).wp P Q a w:=by
 refine wp_region_any hm (any_of_walk (S:=S) hok _ _ a _ (by simp) ?_ ?_ (.inl hS) ?_)
 · unfold items
   refine Nat.le_trans (List.length_filterMap_le _ _) (Nat.le_trans (List.length_filter_le _ _) ?_)
   simp
 · intro j oj _ hl
   rw [show (Array.replicate l.toArray.size false).getD j false = false by
    rcases Nat.lt_or_ge j l.length with h | h <;> simp [h]] at hl
   cases hl
 · have e : items fl l.toArray (Array.replicate l.toArray.size false) = whole fl 0 l:=by
    rw [← items_whole (ops:=l.toArray) l 0 (by simp)]
    unfold items
    rw [List.filter_eq_self.2]
    · simp [List.range_eq_range']
    · intro i hi
      have:=List.mem_range.1 hi
      simp at this
      simp [this]
   rw [e];exact h
def ValOnly : Sem Next→Prop
 | .pure (.value _)=>True
 | .pure _=>False
 | .load _ _ k=>∀ v,ValOnly (k v)
 | .store _ _ _ k=>ValOnly k
 | .new _ k=>∀ r,ValOnly (k r)
 | .shape _ k=>∀ s,ValOnly (k s)
 | .freeze _ _ k=>ValOnly k
 | .frozen _ k=>∀ b,ValOnly (k b)
 | .getObj _ k=>∀ o,ValOnly (k o)
 | .setObj _ _ k=>ValOnly k
 | .choose _ k=>∀ n,ValOnly (k n)
 | .sys _ k=>∀ r,ValOnly (k r)
 | .program k=>∀ p,ValOnly (k p)
 | .mark _ k=>ValOnly k
 | .halt _=>True
theorem valOnly_bind {α : Type} (s : Sem α) (f : α→Sem Next) (h : ∀ x,ValOnly (f x)) : ValOnly (s.bind f):=by
 induction s <;> simp_all [Sem.bind,ValOnly]
theorem valOnly_run {s : Sem Next} (h : ValOnly s) : ∀ {w w' : World} {n : Next},s.run P w = .ok n w'→∃ v,n = .value v:=by
 induction s with
 | pure a=>
  intro w w' n hr
  cases a <;> first | (simp [ValOnly] at h;done) | (simp only [Sem.run,Result.ok.injEq] at hr;exact ⟨_,hr.1.symm⟩)
 | load m a k ih=>
  intro w w' n hr;simp only [Sem.run] at hr
  split at hr
  · exact ih _ (h _) hr
  · split at hr
    · exact ih _ (h _) hr
    · cases hr
 | store m a v k ih=>
  intro w w' n hr
  have h' : ValOnly k:=h
  unfold Sem.run at hr
  split at hr <;> simp_all
  split at hr
  · split at hr
    · cases hr
    · exact ih hr
  · split at hr
    · exact ih hr
    · cases hr
 | new o k ih=>intro w w' n hr;simp only [Sem.run] at hr;exact ih _ (h _) hr
 | shape r k ih=>intro w w' n hr;simp only [Sem.run] at hr;exact ih _ (h _) hr
 | freeze a m k ih=>intro w w' n hr;simp only [Sem.run] at hr;exact ih h hr
 | frozen a k ih=>intro w w' n hr;simp only [Sem.run] at hr;exact ih _ (h _) hr
 | getObj r k ih=>
  intro w w' n hr;simp only [Sem.run] at hr
  split at hr
  · cases hr
  · exact ih _ (h _) hr
  · cases hr
 | setObj r o k ih=>
  intro w w' n hr;simp only [Sem.run] at hr
  split at hr
  · cases hr
  · exact ih h hr
  · cases hr
 | choose q k ih=>
  intro w w' n hr;simp only [Sem.run] at hr
  split at hr
  · exact ih _ (h _) hr
  · exact ih _ (h _) hr
 | sys c k ih=>intro w w' n hr;simp only [Sem.run] at hr;exact ih _ (h _) hr
 | program k ih=>intro w w' n hr;simp only [Sem.run] at hr;exact ih _ (h _) hr
 | mark m k ih=>intro w w' n hr;simp only [Sem.run] at hr;exact ih h hr
 | halt x=>intro w w' n hr;simp [Sem.run] at hr
def plain : Op→Bool
 | .move _ | .assign _ | .pick .. | .load .. | .fieldAddr .. | .field .. | .unOp .. | .binOp .. | .extract .. | .indexAddr .. | .index .. | .lookup ..
 | .makeInterface .. | .makeFunc .. | .convert .. | .slice .. | .build ..=>true
 | .nilCheck _=>true
 | .call { callee:=.builtin .len,.. } | .call { callee:=.builtin .cap,.. } | .call { callee:=.builtin .max,.. } | .call { callee:=.builtin .min,.. }=>true
 | _=>false
theorem valOnly_value (s : Sem Value) : ValOnly (do pure (.value (← s))):=valOnly_bind s _ fun _=>trivial
theorem valOnly_plain {o : Oper} (h : plain o.op = true) (ρ : Operand→Value) : ValOnly (execOp ρ o):=by
 obtain ⟨dst,op,type,pos,after,guard⟩:=o
 cases op <;> simp only [plain] at h <;> first | cases h | skip
 case nilCheck x=>
  simp only [execOp]
  split
  · exact valOnly_bind _ _ fun _=>trivial
  · exact valOnly_bind _ _ fun _=>trivial
  · exact valOnly_bind _ _ fun _=>trivial
  · split
    · exact valOnly_bind _ _ fun _=>trivial
    · refine valOnly_bind _ _ fun _=>valOnly_bind _ _ fun _=>?_
      split
      · exact valOnly_bind _ _ fun _=>trivial
      · trivial
    · trivial
  · trivial
 case call c=>
  obtain ⟨callee,args,argTypes⟩:=c
  cases callee with
  | value f=>simp at h
  | invoke r m=>simp at h
  | builtin b=>cases b <;> first | (simp at h;done) | exact valOnly_value _
 all_goals first | trivial | exact valOnly_value _ | (simp only [execOp];exact valOnly_bind _ _ fun _=>trivial)
theorem walk_cons {f k : Nat} {o : Oper} {rest : List It} {a : Act} {w : World} (h : ∀ K : Act→World→Prop,(∀ a w,walk P ops S Q rest a w→K a w)→step P ops S f o K a w) :
 walk P ops S Q ((f,k,o) :: rest) a w:=h _ fun _ _ h=>h
theorem walk_nil {a : Act} {w : World} (h : Q .normal a w) : walk P ops S Q [] a w:=h
theorem walk_pin {k : Nat} {o : Oper} {rest : List It} {a : Act} {w : World} (hp : plain o.op = true) (hw : Region.wanted o (yielded ops a.tmps) = true)
 (h : ∀ K : Act→World→Prop,(∀ a',walk P ops S Q rest a' w→K a' w)→o.wp P a w K QF) : walk P ops S Q ((2,k,o) :: rest) a w:=by
 refine walk_cons fun K hK=>?_
 have h1:=h (fun a' w'=>w' = w∧K a' w) (fun a' h=>⟨rfl,hK a' w h⟩)
 simp only [step]
 have hv:=valOnly_plain hp a.eval
 unfold Oper.wp at h1
 cases hr : (execOp a.eval o).run P w with
 | ok n w'=>
  obtain ⟨v,rfl⟩:=valOnly_run hv hr
  rw [hr] at h1
  simp only [Oper.upon] at h1
  obtain ⟨rfl,h1⟩:=h1
  exact ⟨v,.inl ⟨hw,fun w'' hw''=>by rw [hw''];exact hr⟩,h1⟩
 | halt x w'=>
  rw [hr] at h1
  cases x <;> simp only [Oper.upon] at h1
  exact h1.elim
theorem walk_pass2 {k : Nat} {o : Oper} {rest : List It} {a : Act} {w : World} (hw : Region.wanted o (yielded ops a.tmps) = false)
 (h : walk P ops S Q rest (a.put o.dst undef) w) : walk P ops S Q ((2,k,o) :: rest) a w:=⟨undef,.inr ⟨hw,rfl⟩,h⟩
theorem walk_last {k : Nat} {o : Oper} {rest : List It} {a : Act} {w : World} (hw : Region.wanted o (yielded ops a.tmps) = true)
 (h : ∀ K : Act→World→Prop,(∀ a' w',walk P ops S Q rest a' w'→K a' w')→o.wp P a w K QF) : walk P ops S Q ((3,k,o) :: rest) a w:=by
 refine walk_cons fun K hK=>?_
 simp only [step]
 rw [if_pos hw]
 exact h _ hK
theorem wanted_none {o : Oper} {f : Nat→Option Bool} (h : o.guard = none) : Region.wanted o f = true:=by simp [Region.wanted,h]
theorem wanted_yes {o : Oper} {tmps : Array Value} {j d : Nat} {b : Bool} (h : o.guard = some (j,b)) (hd : (ops[j]?).bind (·.dst) = some d) (hb : tmps[d]? = some (.bool b)) :
 Region.wanted o (yielded ops tmps) = true:=by
 cases ho : ops[j]? with
 | none=>rw [ho] at hd;cases hd
 | some oj=>
  rw [ho] at hd
  simp only [Option.bind_some] at hd
  simp [Region.wanted,h,yielded,ho,hd,hb]
theorem wanted_not {o : Oper} {tmps : Array Value} {j d : Nat} {b : Bool} (h : o.guard = some (j,b)) (hd : (ops[j]?).bind (·.dst) = some d) (hb : tmps[d]? = some (.bool (!b))) :
 Region.wanted o (yielded ops tmps) = false:=by
 cases ho : ops[j]? with
 | none=>rw [ho] at hd;cases hd
 | some oj=>
  rw [ho] at hd
  simp only [Option.bind_some] at hd
  simp [Region.wanted,h,yielded,ho,hd,hb]
theorem pin_no {k : Nat} {o : Oper} {rest : List It} {a : Act} {w : World} (hg : o.guard = none) (hp : plain o.op = true)
 (h : ∀ K : Act→World→Prop,(∀ a',walk P ops S Q rest a' w→K a' w)→o.wp P a w K QF) : walk P ops S Q ((2,k,o) :: rest) a w:=walk_pin hp (wanted_none hg) h
theorem pin_yes {k : Nat} {o : Oper} {rest : List It} {a : Act} {w : World} {j d : Nat} {b : Bool} (hg : o.guard = some (j,b)) (hd : (ops[j]?).bind (·.dst) = some d) (hb : a.tmps[d]? = some (.bool b)) (hp : plain o.op = true)
 (h : ∀ K : Act→World→Prop,(∀ a',walk P ops S Q rest a' w→K a' w)→o.wp P a w K QF) : walk P ops S Q ((2,k,o) :: rest) a w:=walk_pin hp (wanted_yes hg hd hb) h
theorem pin_not {k : Nat} {o : Oper} {rest : List It} {a : Act} {w : World} {j d t : Nat} {b : Bool} (hg : o.guard = some (j,b)) (hd : (ops[j]?).bind (·.dst) = some d) (hb : a.tmps[d]? = some (.bool (!b))) (ht : o.dst = some t)
 (h : ∀ K : Act→World→Prop,(∀ a',walk P ops S Q rest a' w→K a' w)→K { tmps:=a.tmps.setIfInBounds t undef,defers:=a.defers } w) : walk P ops S Q ((2,k,o) :: rest) a w:=
 walk_pass2 (wanted_not hg hd hb) (by rw [ht];exact h (fun a' _=>walk P ops S Q rest a' w) (fun a' h=>h))
theorem last_no {k : Nat} {o : Oper} {rest : List It} {a : Act} {w : World} (hg : o.guard = none)
 (h : ∀ K : Act→World→Prop,(∀ a' w',walk P ops S Q rest a' w'→K a' w')→o.wp P a w K QF) : walk P ops S Q ((3,k,o) :: rest) a w:=
 walk_last (wanted_none hg) h
end
end Go.Mix
set_option linter.unusedVariables false
set_option linter.unusedSimpArgs false
namespace Go.Proofs.YtbblomnhobodkaaDoor
open Go.RowKit
structure Chg (M : Nat→Prop) (w w' : World) : Prop where
 os : w'.os = w.os
 tape : w'.tape = w.tape
 output : w'.output = w.output
 size : w.heap.size≤w'.heap.size
 block : ∀ k,k < w.heap.size→¬ M k→w'.heap[k]? = w.heap[k]?
abbrev none_ : Nat→Prop:=fun _=>False
theorem Chg.refl (M : Nat→Prop) (w : World) : Chg M w w:=⟨rfl,rfl,rfl,Nat.le_refl _,fun _ _ _=>rfl⟩
theorem Chg.trans {M M' : Nat→Prop} {a b c : World} (h : Chg M a b) (k : Chg M' b c) (hM : ∀ i,i < a.heap.size→M' i→M i) : Chg M a c:=
 ⟨k.os.trans h.os,k.tape.trans h.tape,k.output.trans h.output,Nat.le_trans h.size k.size,
  fun i hi hn=>(k.block i (Nat.lt_of_lt_of_le hi h.size) (fun h'=>hn (hM i hi h'))).trans (h.block i hi hn)⟩
theorem Chg.mono {M M' : Nat→Prop} {a b : World} (h : Chg M a b) (hM : ∀ i,i < a.heap.size→M i→M' i) : Chg M' a b:=
 ⟨h.os,h.tape,h.output,h.size,fun i hi hn=>h.block i hi fun h'=>hn (hM i hi h')⟩
theorem Chg.drew {M : Nat→Prop} {a w : World} (h : Chg M a w) : Chg M a w.drew:=⟨h.os,h.tape,h.output,h.size,h.block⟩
theorem heap_alloc_lt {w : World} {o : Obj} {k : Nat} (h : k < w.heap.size) : (w.alloc o).heap[k]? = w.heap[k]?:=by
 exact Below.heap_alloc w o k h
theorem heap_alloc_at {w : World} {o : Obj} : (w.alloc o).heap[w.heap.size]? = some o:=by
 show (w.heap.push o)[w.heap.size]? = some o
 simp
theorem Chg.alloc {M : Nat→Prop} {a w : World} (h : Chg M a w) (o : Obj) : Chg M a (w.alloc o):=
 ⟨h.os,h.tape,h.output,by simp;have:=h.size;omega,fun i hi hn=>by rw [heap_alloc_lt (Nat.lt_of_lt_of_le hi h.size)];exact h.block i hi hn⟩
theorem heap_setCell_ne {w : World} {a : Addr} {v : Value} {k : Nat} (h : k≠a.block) : (w.setCell a v).heap[k]? = w.heap[k]?:=Below.heap_setCell w a v k h
theorem Chg.setCell {M : Nat→Prop} {a w : World} (h : Chg M a w) {p : Addr} (hp : M p.block∨a.heap.size≤p.block) (v : Value) : Chg M a (w.setCell p v):=
 ⟨h.os,h.tape,h.output,by simpa using h.size,fun i hi hn=>by
  rw [heap_setCell_ne (by rintro rfl;rcases hp with hp | hp;exact hn hp;omega)];exact h.block i hi hn⟩
theorem Chg.below {M : Nat→Prop} {w w' : World} (h : Chg M w w') {B : Nat} (hB : B≤w.heap.size) (hM : ∀ k,k < B→¬ M k) : Below B w w':=
 ⟨h.os,h.tape,h.output,h.size,fun k hk=>h.block k (Nat.lt_of_lt_of_le hk hB) (hM k hk)⟩
theorem cell_of {w : World} {b : Nat} {c : Array Value} {t : TypeId} {f : Nat × Nat} (h : w.heap[b]? = some (.cells c t f)) (i : Nat) : w.cell? ⟨b,i,none⟩ = c[i]?:=by
 simp [World.cell?,h]
theorem cell_eq {w w' : World} {b i : Nat} (h : w'.heap[b]? = w.heap[b]?) : w'.cell? ⟨b,i,none⟩ = w.cell? ⟨b,i,none⟩:=by simp [World.cell?,h]
theorem frozen_eq {w w' : World} {b i : Nat} (h : w'.heap[b]? = w.heap[b]?) : w'.frozen? ⟨b,i,none⟩ = w.frozen? ⟨b,i,none⟩:=by simp [World.frozen?,h]
theorem Chg.cells {M : Nat→Prop} {w w' : World} (h : Chg M w w') : (∀ b o,b < w.heap.size→¬ M b→w'.cell? ⟨b,o,none⟩ = w.cell? ⟨b,o,none⟩)∧(∀ b o,b < w.heap.size→¬ M b→w'.frozen? ⟨b,o,none⟩ = w.frozen? ⟨b,o,none⟩):=
 ⟨fun b o hb hn=>cell_eq (h.block b hb hn),fun b o hb hn=>frozen_eq (h.block b hb hn)⟩
end Go.Proofs.YtbblomnhobodkaaDoor
