/- What this claim reaches of longer texts of this session. -/
import Derived.Test.YtbblomnhobodkaaDoorProg
import Derived.RangeFuncNested
import Derived.RangeFuncBound
import Derived.RangeFuncCalls
import Derived.RangeFuncLeaves
import Derived.Shelf.Abstract
import Derived.Shelf.RegionOpen
import Derived.WalkKit
import Derived.OwnWalkIn
import Derived.TacticsInMore
import Derived.LoopNIn
import Derived.LoopIn
import Derived.Shelf.Small.Wraps
import Derived.Shelf.Slices.Reverse
import Derived.Ground.Names2Prog
import Derived.Shelf.Slices.Clone
import Derived.Shelf.Slices.SearchI
import Derived.Shelf.Slices.Cells
import Derived.Shelf.Slices.Empties
import Derived.Test.YtbblomnhobodkaaDoorBase
import Derived.Shelf.Spec.TrailingZeros
import Derived.Lib.ItoaNum
import Derived.Lib.LaidTab
import Derived.Laws.Bits64
import Derived.Lib.Hide
import Derived.RangeFuncBox
import Derived.Maps.AppendAt
import Derived.Lib.SliceRun
import Derived.Shelf.Spec.SlicesInsert
import Derived.Shelf.Spec.SlicesInsertGrow
import Derived.Deep.DeepCutAuto
set_option linter.unusedVariables false
set_option linter.unusedSimpArgs false
namespace Go.Proofs.YtbblomnhobodkaaDoor
open Go.RowKit Go.Shelf
def Yields {α : Type} (F : Fence) (n : Nat) (P : Program) (g : Nat) (lb : Array Value) (encs : α→Array Value) (A : Addr) (Kp : World→World→Prop) (xs : List α) (w : World) : Prop:=
 ∀ (l : Nat) (J : List α→World→Prop) (W : World),Below w.heap.size w W→
  (∀ s W v,J s W→J s (W.setCell A v))→(∀ s W,J s W→J s W.drew)→(∀ s W o,J s W→J s (W.alloc o))→
  (∀ pre x W1,J pre W1→(pre ++ [x]) <+: xs→YieldAt F (n - 1) P l (encs x) W1 fun e W'=>e = .returned (.bool true)∧J (pre ++ [x]) W'∧Kp W1 W')→
  J [] W→CallsIn F n P g (#[.func (.yield l) #[] #[]] ++ lb) W fun e W'=>(∃ v,e = .returned v)∧J xs W'
def goesOn {α : Type} (Kp : World→World→Prop) (I : List α→World→Prop) (xs : List α) (W : World) : Exit→Act→World→Prop
 | .normal,_,W'=>KeepsOthers W W'∧Kp W W'∧I xs W'
 | _,_,_=>False
theorem other_putObj (W : World) (l k : Nat) (o : Obj) (h : k≠l) : (W.putObj l o).heap[k]? = W.heap[k]?:=World.putObj_heap_other h
variable {F : Fence} {n : Nat} {P : Program}
theorem wpIn_rangeFunc_cell {α : Type} {g : Operand} {ps : Array Tmp} {assign body : Code} {Q : Exit→Act→World→Prop} {a : Act} {w : World}
 (hro : F.round = none) (h1 : 1≤n) {gf : Nat} {lb : Array Value} (hg : a.eval g = .func (.func gf) #[] lb) (hFg : F.fn gf) (eg : ∀ args w,(callFunc gf args).run P w = .ok (.enter gf args) w)
 {encs : α→Array Value} {A : Addr} {Kp : World→World→Prop} {xs : List α} (hseq : Yields F (n - 1) P gf lb encs A Kp xs w)
 (hKt : ∀ {A B C : World},Kp A B→Kp B C→Kp A C) (hKb : ∀ (W : World) (l : Nat) (o o' : Obj),w.heap.size≤l→W.heap[l]? = some o→o.isCells = false→Kp W (W.putObj l o')) (hps : ∀ x,(encs x).size = ps.size)
 (I : List α→World→Prop) (hI : OwnFrom w.heap.size I) (hIA : ∀ s W v,I s W→I s (W.setCell A v)) (hId : ∀ s W,I s W→I s W.drew) (h0 : I [] w) (a₁ : α→Act)
 (hassign : ∀ (l : Nat) (x : α) (W : World) (K : Act→World→Prop),K (a₁ x) W→
  assign.wpIn (F.inRound l) (n - 1 - 1) P (Exit.then K (fun _ _ _=>False)) { tmps:=(ps.zip (encs x)).foldl (fun t (p,v)=>t.setIfInBounds p v) a.tmps,defers:=[] } W)
 (hbody : ∀ (l : Nat) (pre : List α) (x : α) (W : World),I pre W→(pre ++ [x]) <+: xs→body.wpIn (F.inRound l) (n - 1 - 1) P (goesOn Kp I (pre ++ [x]) W) (a₁ x) W)
 (hdone : ∀ (D : Nat) (W : World),w.heap.size≤D→I xs W→W.heap[D]? = some (.deferred (some []))→Q .normal { a with defers:={ target:=.collected D,args:=#[] } :: a.defers } W) :
 (Code.rangeFunc g ps assign body).wpIn F n P Q a w:=by
 refine wpIn_rangeFunc ?_
 intro fn hfn
 rw [hro]
 let rec_ : LoopState→Option Code→Loop:=fun st pe=>{ state:=st,pending:=pe,fn,tmps:=a.tmps,params:=ps,assign,body,defers:=w.heap.size }
 let D:=w.heap.size
 let W1:=(w.alloc (.deferred (some []))).alloc (.loop (rec_ .ready none))
 let Bk (W : World) : Prop:=W.heap[D + 1]? = some (.loop (rec_ .ready none))∧W.heap[D]? = some (.deferred (some []))
 have hW1 : Bk W1:=⟨by have:=World.alloc_heap_new (w.alloc (.deferred (some []))) (.loop (rec_ .ready none));rwa [World.size_alloc] at this,
  (Below.heap_alloc _ _ _ (by simp [D])).trans (World.alloc_heap_new w _)⟩
 have hkeep : ∀ {W W' : World},KeepsOthers W W'→Bk W→Bk W':=fun hk hb=>⟨hk.same _ _ hb.1 rfl,hk.same _ _ hb.2 rfl⟩
 have hb1 : Below w.heap.size w W1:=((Below.refl _ w).alloc (Nat.le_refl _) _).alloc (by simp) _
 have turn : ∀ {s : List α} {W : World} {o : Obj} (o' : Obj),I s W→W.heap[D + 1]? = some o→o.isCells = false→I s (W.putObj (D + 1) o'):=fun o' hi hl hc=>hI.putObj o' hi (by simp only [D];omega) hl hc
 refine ⟨D + 1,[{ target:=.collected D,args:=#[] }],W1,{ target:=.fn (.func gf) lb,args:=#[.func (.yield (D + 1)) #[] #[]] },W1,gf,
  #[.func (.yield (D + 1)) #[] #[]] ++ lb,W1,run_enterLoop_outer _ _ _ _ _,?_,?_,?_,fun _=>h1,?_⟩
 · simp only [resolve,hg];simp [go_sem]
 · intro f' hf';simp [Target.leads] at hf';subst hf';exact hFg
 · simp [invoke,go_sem,eg]
 refine (hseq (D + 1) (fun pre W=>I pre W∧Bk W) W1 hb1 (fun s W v h=>⟨hIA s W v h.1,hkeep (KeepsOthers.setCell W A v) h.2⟩) (fun s W h=>⟨hId s W h.1,h.2⟩)
  (fun s W o h=>⟨hI.alloc o h.1,hkeep (KeepsOthers.alloc W o) h.2⟩) ?_ ⟨hI.alloc _ (hI.alloc _ h0),hW1⟩).mono ?_
 · rintro pre x W ⟨hi,hl,hk⟩ hpre
   have hy:=run_yield (P:=P) (args:=encs x) hl (hps x)
   refine ⟨fn,_,assign,body,hy,roundIn_of_wpIn hfn (hassign _ x W _ ⟨_,run_beginRound hl rfl,?_⟩)⟩
   have hlt : D + 1 < W.heap.size:=(Array.getElem?_eq_some_iff.1 hl).1
   have hl2 : (W.putObj (D + 1) (.loop { rec_ .ready none with state:=.busy })).heap[D + 1]? = some (.loop { rec_ .ready none with state:=.busy }):=World.putObj_heap_same hlt
   have hk2 : (W.putObj (D + 1) (.loop { rec_ .ready none with state:=.busy })).heap[D]? = some (.deferred (some [])):=(other_putObj _ _ _ _ (by omega)).trans hk
   have hw2 : Kp W (W.putObj (D + 1) (.loop { rec_ .ready none with state:=.busy })):=hKb _ _ _ _ (by simp only [D];omega) hl rfl
   refine wpIn_mono (hbody _ pre x _ (turn _ hi hl rfl) hpre) ?_
   rintro e a3 W3 hp
   cases e with
   | normal=>
    obtain ⟨hk3,hkp3,hi3⟩:=hp
    have hl3:=hk3.same _ _ hl2 rfl
    have hr:=run_endRound (P:=P) none hl3
    exact ⟨_,_,hr,rfl,⟨turn _ hi3 hl3 rfl,World.putObj_heap_same (Array.getElem?_eq_some_iff.1 hl3).1,(other_putObj _ _ _ _ (by omega)).trans (hk3.same _ _ hk2 rfl)⟩,
     hKt (hKt hw2 hkp3) (hKb _ _ _ _ (by simp only [D];omega) hl3 rfl)⟩
   | _=>exact hp.elim
 · rintro e W2 ⟨⟨v,rfl⟩,hi,hl,hk⟩
   exact ⟨none,_,run_endLoop (P:=P) hl (by simp [rec_]),hdone _ _ (Nat.le_refl _) (turn _ hi hl rfl) ((other_putObj _ _ _ _ (by omega)).trans hk)⟩
end Go.Proofs.YtbblomnhobodkaaDoor
namespace Go.Proofs
open Go.Shelf
def Tryd.laysNm225_ren : Go.Shelf.Ren:=⟨fun | 25=>53 | 31=>72 | 32=>73 | 37=>82 | n=>n,fun | 22=>27 | 3=>3 | 4=>4 | 40=>87 | 0=>0 | n=>n,fun | n=>n⟩
theorem Tryd.laysNm225 : Go.Proofs.Lays2.n25 Tryd.prog Tryd.laysNm225_ren:={
 mixed:=by kernel_rfl
 f25:=Tryd.func53.trans (congrArg some (by kernel_rfl))
 f31:=Tryd.func72.trans (congrArg some (by kernel_rfl))
 f32:=Tryd.func73.trans (congrArg some (by kernel_rfl))
 f37:=Tryd.func82.trans (congrArg some (by kernel_rfl))
 t0:=Tryd.underlying0
 a0:=Tryd.isAgg0
 z0:=Tryd.sizeOf0
 v0:=Tryd.zeroValue0
 t3:=Tryd.underlying3
 a3:=Tryd.isAgg3
 z3:=Tryd.sizeOf3
 v3:=Tryd.zeroValue3
 t4:=Tryd.underlying4
 a4:=Tryd.isAgg4
 z4:=Tryd.sizeOf4
 v4:=Tryd.zeroValue4
 t22:=Tryd.underlying27
 a22:=Tryd.isAgg27
 z22:=Tryd.sizeOf27
 v22:=Tryd.zeroValue27
 t40:=Tryd.underlying87
 a40:=Tryd.isAgg87
 z40:=Tryd.sizeOf87
 v40:=Tryd.zeroValue87 }
open Go.RowKit Go.Lib in
theorem Tryd.slices_BinarySearch_int (b off n c : Nat) (zs : List Int) (x : Int) (w : World) (hz : n≤zs.length) (hbig : n < 4611686018427387904) (hc : ∀ j,j < zs.length→w.cell? ⟨b,off + j,none⟩ = some (.int .i64 (zs.getD j 0))) (hs : (zs.take n).Pairwise (·≤·)) :
 Calls Tryd.prog 53 #[.slice (some ⟨b,off,none⟩) n c,.int .i64 x] w fun e w'=>e = .returned (.tuple #[.int .i64 ((zs.take n).countP (· < x) : Nat),.bool ((zs.take n).contains x)])∧∃ q,w' = w.drewN q:=Any.slices_BinarySearch_int Tryd.laysNm225 b off n c zs x w hz hbig hc hs
open Go.RowKit Go.Lib in
theorem Tryd.slices_BinarySearch_int_empty (a : Option Addr) (c : Nat) (x : Int) (w : World) :
 Calls Tryd.prog 53 #[.slice a 0 c,.int .i64 x] w fun e w'=>e = .returned (.tuple #[.int .i64 0,.bool false])∧w' = w:=Any.slices_BinarySearch_int_empty Tryd.laysNm225 a c x w
end Go.Proofs
namespace Go.Proofs.YtbblomnhobodkaaDoor.PTw
open Go.RowKit Go.Proofs.YtbblomnhobodkaaDoorW.PW Go.Proofs.YtbblomnhobodkaaDoorW.PL Go.Proofs.YtbblomnhobodkaaDoorW.PM
attribute [local go_sem] max2_int min2_int max_two min_two max_three min_three max_four min_four   -- for this text's walks alone
set_option linter.unusedVariables false
set_option linter.unusedSimpArgs false
theorem Kd.C_none_ {α : Type} {d : Kd α} {w : World} {n : Nat} {xs : List α} (h : d.C w none n xs) : xs = []:=by
 obtain ⟨hl,_,hn⟩:=h
 by_cases h0 : 0 < n
 · obtain ⟨ad,he,_⟩:=hn h0
   cases he
 · exact List.eq_nil_of_length_eq_zero (by omega)
theorem Kd.V_none_ {α : Type} {d : Kd α} {e : Nat} {w : World} {base n c : Nat} {ok : Nat→Prop} {xs : List α} (h : Kd.V d e w base ok (.slice none n c) xs) : xs = []:=by
 obtain ⟨A,c',he,_,hF⟩:=h
 injection he with ha _ _
 subst ha
 exact Kd.C_none_ (Kd.F_now hF)
structure CpIs (W : World) (base : Nat) (v : Value) (x : Nat) (l : List S29) : Prop where
 h : ∃ (f : Nat→Nat) (rows : List (List Value)),rows.length = l.length∧(Kd.raw 6).R 29 W base (fun k=>some k = v.ownBlock) v rows∧
  ∀ (j : Nat) (p : S29) (c : List Value),l[j]? = some p→rows[j]? = some c→(j < x→k29.M W base (fun k=>some k≠v.ownBlock∧f k = j) p c)∧(x≤j→Kd.FK k29 W (fun k=>some k≠v.ownBlock) p c)
theorem CpIs.ofN {W : World} {base : Nat} {ok : Nat→Prop} {v : Value} {l : List S29} (h : Kd.N k29 29 W base ok v l) : CpIs W base v 0 l:=by
 obtain ⟨_,rows,hl,hR,hf⟩:=h
 exact ⟨fun _=>0,rows,hl,hR,fun j p c hp hc=>⟨fun h0=>absurd h0 (by omega),fun _=>Kd.FK_mono (hf j p c hp hc) (fun _ hk=>hk.2)⟩⟩
theorem CpIs.below {W W1 : World} {base x : Nat} {v : Value} {l : List S29} (h : CpIs W base v x l) (hb : Below W.heap.size W W1) : CpIs W1 base v x l:=by
 obtain ⟨f,rows,hl,hR,hf⟩:=h
 exact ⟨f,rows,hl,Kd.R_below hR hb,fun j p c hp hc=>⟨fun h0=>Kd.M_step ((hf j p c hp hc).1 h0) (fun k _ hk=>hb.block k hk),fun h0=>Kd.FK_step ((hf j p c hp hc).2 h0) (fun k _ hk=>hb.block k hk)⟩⟩
theorem CpIs.S {W : World} {base : Nat} {v : Value} {l : List S29} (h : CpIs W base v l.length l) : Kd.S k29 29 W base (fun _=>True) v l:=by
 obtain ⟨f,rows,hl,hR,hf⟩:=h
 obtain ⟨_,inner,ho,hr⟩:=hR
 refine ⟨f,fun _ _=>trivial,inner,by rw [List.length_zipIdx,← hl];exact ho,by rw [List.length_zipIdx,← hl];exact hr.1,fun j p hj=>?_⟩
 rw [List.getElem?_zipIdx,Nat.zero_add] at hj
 obtain ⟨q,hq,rfl⟩:=Option.map_eq_some_iff.1 hj
 have hjl : j < l.length:=(List.getElem?_eq_some_iff.1 hq).1
 have hc : rows[j]? = some rows[j]:=List.getElem?_eq_getElem (by omega)
 have h1:=(hf j q _ hq hc).1 hjl
 have h2:=(hr.2 j _ hc).1
 have h3 : (inner.drop (j * 6)).take 6 = rows[j]:=h2
 show k29.M W base _ q ((inner.drop (j * 6)).take 6)
 rw [h3]
 exact k29.M_mono (fun k hk=>⟨⟨trivial,hk.1⟩,hk.2⟩) h1
theorem CpIs.get {W : World} {base x n cap g : Nat} {l : List S29} (h : CpIs W base (.slice (some ⟨g,0,none⟩) n cap) x l) (hx : x < l.length) :
 ∃ A c,W.cell? ⟨g,x * 6 + 5,none⟩ = some (.slice A (rd_T29 l x).f5.length c)∧(rd_T29 l x).f5.length≤c∧Kd.C (Kd.int .i64) W A (rd_T29 l x).f5.length (rd_T29 l x).f5∧W.frozen? ⟨g,x * 6 + 5,none⟩ = false:=by
 obtain ⟨f,rows,hl,hR,hf⟩:=h
 have hn:=(Kd.R_reads' hR).1
 have hp : l[x]? = some (rd_T29 l x):=by
  unfold rd_T29
  rw [Int.toNat_natCast,List.getD_eq_getElem?_getD,List.getElem?_eq_getElem hx]
  rfl
 obtain ⟨c,hcl,hM,hcc,hfz⟩:=Kd.R_elem hR [] (x : Int) (by omega) (by omega)
 rw [Int.toNat_natCast] at hM hcc hfz
 have hrx : rows[x]? = some c:=by
  have h1:=hM.1
  rw [List.getD_eq_getElem?_getD,List.getElem?_eq_getElem (show x < rows.length by omega)] at h1
  rw [List.getElem?_eq_getElem (show x < rows.length by omega),h1]
  rfl
 obtain ⟨A5,c5,hce,l5,hF⟩:=k29_openF ((hf x _ _ hp hrx).2 (Nat.le_refl _))
 exact ⟨A5,c5,hcc 5 _ (by rw [hce];rfl),l5,Kd.F_now hF,hfz 5⟩
theorem CpIs.put {W W1 : World} {base x n cap g : Nat} {u : Value} {l : List S29} (h : CpIs W base (.slice (some ⟨g,0,none⟩) n cap) x l) (hx : x < l.length) (hb : Below W.heap.size W W1) (hu : Kd.R (Kd.int .i64) 3 W1 W.heap.size (fun _=>True) u (rd_T29 l x).f5) :
 CpIs (W1.setCell ⟨g,x * 6 + 5,none⟩ u) base (.slice (some ⟨g,0,none⟩) n cap) (x + 1) l∧base≤g∧g < W.heap.size:=by
 obtain ⟨f,rows,hl,hR,hf⟩:=h
 have hbg : base≤g:=Kd.R_base hR g (by simp [Value.ownBlock])
 have hgl : g < W.heap.size:=Kd.R_lt hR g (by simp [Value.ownBlock])
 have hbW : base≤W.heap.size:=by omega
 refine ⟨?_,hbg,hgl⟩
 have hn:=(Kd.R_reads' hR).1
 have hp : l[x]? = some (rd_T29 l x):=by
  unfold rd_T29
  rw [Int.toNat_natCast,List.getD_eq_getElem?_getD,List.getElem?_eq_getElem hx]
  rfl
 have hR1:=Kd.R_below hR hb
 obtain ⟨c,hcl,hM,hcc,_⟩:=Kd.R_elem hR1 [] (x : Int) (by omega) (by omega)
 rw [Int.toNat_natCast] at hM
 have hrx : rows[x]? = some c:=by
  have h1:=hM.1
  rw [List.getD_eq_getElem?_getD,List.getElem?_eq_getElem (show x < rows.length by omega)] at h1
  rw [List.getElem?_eq_getElem (show x < rows.length by omega),h1]
  rfl
 obtain ⟨A5,c5,hce,l5,hF⟩:=k29_openF ((hf x _ _ hp hrx).2 (Nat.le_refl _))
 obtain ⟨hset,_⟩:=Kd.R_seg (okp:=fun _=>False) (seg:=[u]) (j:=5) (x':=c.take 5 ++ [u] ++ c.drop 6) hR1 (x : Int) (by omega) (by omega) hcl hcc (by show 5 + 1≤6;omega)
  ⟨rfl,by simp [hce],fun q hq=>by
   rw [hce] at hq
   simp at hq
   rcases hq with rfl | rfl | rfl | rfl | rfl | rfl
   · rfl
   · rfl
   · rfl
   · rfl
   · rfl
   · exact (Kd.R_val hu).2⟩ (fun _ hk=>hk.elim)
 rw [Int.toNat_natCast] at hset
 have hset2 : (Kd.raw 6).R 29 (W1.setCell ⟨g,x * 6 + 5,none⟩ u) base (fun k=>some k = (Value.slice (some ⟨g,0,none⟩) n cap).ownBlock) (.slice (some ⟨g,0,none⟩) n cap) (rows.set x (c.take 5 ++ [u] ++ c.drop 6)):=hset
 have hheap : ∀ k,k≠g→(W1.setCell ⟨g,x * 6 + 5,none⟩ u).heap[k]? = W1.heap[k]?:=fun k hk=>Below.heap_setCell W1 ⟨g,x * 6 + 5,none⟩ u k hk
 have hold : ∀ k,some k≠(Value.slice (some ⟨g,0,none⟩) n cap).ownBlock→k < W.heap.size→(W1.setCell ⟨g,x * 6 + 5,none⟩ u).heap[k]? = W.heap[k]?:=fun k hk hlt=>(hheap k (fun e=>hk (by rw [e];rfl))).trans (hb.block k hlt)
 refine ⟨fun k=>if W.heap.size≤k then x else f k,rows.set x (c.take 5 ++ [u] ++ c.drop 6),by rw [List.length_set];exact hl,hset2,fun j p cj hj hcj=>?_⟩
 by_cases hjx : j = x
 · subst hjx
   rw [hp] at hj
   injection hj with hj
   subst hj
   rw [List.getElem?_set_self (by omega)] at hcj
   injection hcj with hcj
   refine ⟨fun _=>?_,fun h0=>absurd h0 (by omega)⟩
   have hu2:=Kd.R_bound (Kd.R_tight rfl hu)
   have hu3 : Kd.R (Kd.int .i64) 3 (W1.setCell ⟨g,j * 6 + 5,none⟩ u) base (fun k=>some k≠(Value.slice (some ⟨g,0,none⟩) n cap).ownBlock∧(if W.heap.size≤k then j else f k) = j) u (rd_T29 l j).f5:=
    Kd.R_mono (Kd.R_lower (Kd.R_move hu2 (fun k hk=>hheap k (by have:=hk.2.1;omega))) hbW) (fun k hk=>⟨fun e=>by have h1:=hk.2.1;simp [Value.ownBlock] at e;omega,if_pos hk.2.1⟩)
   have h4:=k29_mkM _ base _ (rd_T29 l j) hu3
   rw [← hcj,hce]
   exact h4
 · rw [List.getElem?_set_ne (fun e=>hjx e.symm)] at hcj
   refine ⟨fun h0=>?_,fun h0=>?_⟩
   · have h1:=k29.M_bound ((hf j p cj hj hcj).1 (by omega))
     have h2:=Kd.M_step h1 (fun k hk hlt=>hold k hk.1.1 hlt)
     exact k29.M_mono (fun k hk=>⟨hk.1.1,by
      have h3:=hk.2.2.1
      show (if W.heap.size≤k then x else f k) = j
      rw [if_neg (by omega)]
      exact hk.1.2⟩) h2
   · exact Kd.FK_step ((hf j p cj hj hcj).2 (by omega)) (fun k hk hlt=>hold k hk hlt)
class Mv (w w' : World) : Prop where
 b : Below w.heap.size w w'
instance mv_refl (w : World) : Mv w w:=⟨Below.refl _ _⟩
instance mv_alloc (w w1 : World) (o : Obj) [h : Mv w w1] : Mv w (w1.alloc o):=⟨bwA h.b o⟩
instance mv_drew (w w1 : World) [h : Mv w w1] : Mv w w1.drew:=⟨below_drew h.b⟩
instance mv_drewN (w w1 : World) (n : Nat) [h : Mv w w1] : Mv w (w1.drewN n):=⟨bwN h.b n⟩
section
variable {α : Type} {d : Kd α} {e base n : Nat} {ok : Nat→Prop} {w w' : World} {v : Value} {xs : List α} {A : Option Addr} {g : Nat} {o : Obj}
theorem bmv {w0 : World} (h : Below w0.heap.size w0 w) [m : Mv w w'] : Below w0.heap.size w0 w':=bwT h m.b
theorem R_mv (h : Kd.R d e w base ok v xs) [m : Mv w w'] : Kd.R d e w' base ok v xs:=Kd.R_below h m.b
theorem S_mv (h : Kd.S d e w base ok v xs) [m : Mv w w'] : Kd.S d e w' base ok v xs:=Kd.S_below h m.b
theorem N_mv (h : Kd.N d e w base ok v xs) [m : Mv w w'] : Kd.N d e w' base ok v xs:=Kd.N_below h m.b
theorem V_mv (h : Kd.V d e w base ok v xs) [m : Mv w w'] : Kd.V d e w' base ok v xs:=Kd.V_below h m.b
theorem C_mv (h : Kd.C d w A n xs) [m : Mv w w'] : Kd.C d w' A n xs:=Kd.C_below h m.b
theorem blk_mv (h : w.heap[g]? = some o) [m : Mv w w'] : w'.heap[g]? = some o:=kB h m.b
end
theorem cells6 {w : World} {g t : Nat} {a0 a1 a2 a3 a4 a5 : Value} (h : w.heap[g]? = some (.cells #[a0,a1,a2,a3,a4,a5] t (0,0))) : (w.cell? ⟨g,0,none⟩ = some a0∧w.cell? ⟨g,1,none⟩ = some a1∧w.cell? ⟨g,2,none⟩ = some a2∧w.cell? ⟨g,3,none⟩ = some a3∧w.cell? ⟨g,4,none⟩ = some a4∧w.cell? ⟨g,5,none⟩ = some a5)∧w.frozen? ⟨g,0,none⟩ = false∧w.frozen? ⟨g,1,none⟩ = false∧w.frozen? ⟨g,2,none⟩ = false∧w.frozen? ⟨g,3,none⟩ = false∧w.frozen? ⟨g,4,none⟩ = false∧w.frozen? ⟨g,5,none⟩ = false:=
 ⟨⟨(kC h 0).trans rfl,(kC h 1).trans rfl,(kC h 2).trans rfl,(kC h 3).trans rfl,(kC h 4).trans rfl,(kC h 5).trans rfl⟩,kF h 0,kF h 1,kF h 2,kF h 3,kF h 4,kF h 5⟩
theorem cells9 {w : World} {g t : Nat} {a0 a1 a2 a3 a4 a5 a6 a7 a8 : Value} (h : w.heap[g]? = some (.cells #[a0,a1,a2,a3,a4,a5,a6,a7,a8] t (0,0))) : (w.cell? ⟨g,0,none⟩ = some a0∧w.cell? ⟨g,1,none⟩ = some a1∧w.cell? ⟨g,2,none⟩ = some a2∧w.cell? ⟨g,3,none⟩ = some a3∧w.cell? ⟨g,4,none⟩ = some a4∧w.cell? ⟨g,5,none⟩ = some a5∧w.cell? ⟨g,6,none⟩ = some a6∧w.cell? ⟨g,7,none⟩ = some a7∧w.cell? ⟨g,8,none⟩ = some a8)∧w.frozen? ⟨g,0,none⟩ = false∧w.frozen? ⟨g,1,none⟩ = false∧w.frozen? ⟨g,2,none⟩ = false∧w.frozen? ⟨g,3,none⟩ = false∧w.frozen? ⟨g,4,none⟩ = false∧w.frozen? ⟨g,5,none⟩ = false∧w.frozen? ⟨g,6,none⟩ = false∧w.frozen? ⟨g,7,none⟩ = false∧w.frozen? ⟨g,8,none⟩ = false:=
 ⟨⟨(kC h 0).trans rfl,(kC h 1).trans rfl,(kC h 2).trans rfl,(kC h 3).trans rfl,(kC h 4).trans rfl,(kC h 5).trans rfl,(kC h 6).trans rfl,(kC h 7).trans rfl,(kC h 8).trans rfl⟩,kF h 0,kF h 1,kF h 2,kF h 3,kF h 4,kF h 5,kF h 6,kF h 7,kF h 8⟩
def tree_Leaves.f (l0 : List (S29)) : Option (Int):=some (wrap64 (Int.tdiv (wrap64 ((l0.length : Int) + 1)) 2))
set_option maxHeartbeats 8000000 in
set_option maxRecDepth 100000 in
theorem tree_Leaves.calls (A0 : Option Addr) (c0 : Nat) (l0 : List (S29)) (r : Int) (w : World) (hr0 : Kd.C k29 w A0 l0.length l0) (hc0 : l0.length≤c0) (h : tree_Leaves.f l0 = some r) :
 Calls Tryd.prog 29 #[.slice A0 l0.length c0] w fun e w'=>e = .returned (.int .i64 r)∧Drawn0 w w':=by
 have HR0:=Az.mk hr0
 have HC0:=Az.mk hc0
 clear hr0 hc0
 have H : (some (wrap64 (Int.tdiv (wrap64 ((l0.length : Int) + 1)) 2))) = some r:=h
 clear h
 obtain rfl:=Option.some.inj H
 go_enter Tryd.func29,Tryd.ntmps29
 go_wp2
 go_ret
 exact ⟨by first | rfl | (simp;done) | (simp [*];done),by repeat (first | exact Drawn0.refl _ | apply Drawn0.step)⟩
def heap_Right.f (a0 : Int) : Option (Bool):=if a0≥1 then (if a0≤32 then (some ((Go.bits .and .i64 a0 (wrap64 (a0 - 1))) == 0)) else (some false)) else (some false)
set_option maxHeartbeats 8000000 in
set_option maxRecDepth 100000 in
theorem heap_Right.calls (a0 : Int) (r : Bool) (w : World) (h : heap_Right.f a0 = some r) :
 Calls Tryd.prog 41 #[.int .i64 a0] w fun e w'=>e = .returned (.bool r)∧Drawn0 w w':=by
 have H : (if a0≥1 then (if a0≤32 then (some ((Go.bits .and .i64 a0 (wrap64 (a0 - 1))) == 0)) else (some false)) else (some false)) = some r:=h
 clear h
 by_cases c2 : a0≥1
 · rw [if_pos c2] at H
   have c2b0 : decide (1≤a0) = true:=decide_eq_true c2
   clear c2
   by_cases c3 : a0≤32
   · rw [if_pos c3] at H
     have c3b0 : decide (a0≤32) = true:=decide_eq_true c3
     clear c3
     obtain rfl:=Option.some.inj H
     go_enter Tryd.func41,Tryd.ntmps41
     go_wp2
     go_ret
     exact ⟨by first | rfl | (simp;done) | (simp [*];done),by repeat (first | exact Drawn0.refl _ | apply Drawn0.step)⟩
   · rw [if_neg c3] at H
     have c3b0 : decide (a0≤32) = false:=decide_eq_false c3
     clear c3
     obtain rfl:=Option.some.inj H
     go_enter Tryd.func41,Tryd.ntmps41
     go_wp2
     go_ret
     exact ⟨by first | rfl | (simp;done) | (simp [*];done),by repeat (first | exact Drawn0.refl _ | apply Drawn0.step)⟩
 · rw [if_neg c2] at H
   have c2b0 : decide (1≤a0) = false:=decide_eq_false c2
   clear c2
   obtain rfl:=Option.some.inj H
   go_enter Tryd.func41,Tryd.ntmps41
   go_wp2
   go_ret
   exact ⟨by first | rfl | (simp;done) | (simp [*];done),by repeat (first | exact Drawn0.refl _ | apply Drawn0.step)⟩
def tree_tight.l0 : Nat→List (S29)→Int→Int→Option (Bool)
 | 0,_,_,_=>none
 | k + 1,x0,x3,x4=>if x4 < x3 then (if 0≤(wrap64 (2 * x4)) then (if (wrap64 (2 * x4)) < (x0.length : Int) then (if (rd_T29 x0 (wrap64 (2 * x4))).f0 = true then (some true) else (tree_tight.l0 k x0 x3 (wrap64 (x4 + 1)))) else (none)) else (none)) else (some false)
def tree_tight.f (k : Nat) (l0 : List (S29)) : Option (Bool):=(tree_Leaves.f l0).bind fun t101=>(tree_tight.l0 k l0 t101 (wrap64 (Int.tdiv t101 2)))
theorem tree_tight.mono_l : ∀ k,(∀ y0 y1 y2,LeO (tree_tight.l0 k y0 y1 y2) (tree_tight.l0 (k + 1) y0 y1 y2))
 | 0=>fun _ _ _ r h=>by simp [tree_tight.l0] at h
 | k + 1=>by
  have ih0:=tree_tight.mono_l k
  · intro y0 y1 y2
    unfold tree_tight.l0
    repeat' first
    | (with_reducible exact ih0 _ _ _)
    | (with_reducible exact LeO.refl _)
    | (with_reducible exact LeO.none _)
    | (with_reducible refine LeO.ite ?_ ?_)
    | (with_reducible refine LeO.bind ?_ (fun _=>?_))
    | exact ih0 _ _ _
    | exact LeO.none _
    | refine LeO.ite ?_ ?_
    | refine LeO.bind ?_ (fun _=>?_)
theorem tree_tight.mono : ∀ a0 k,LeO (tree_tight.f k a0) (tree_tight.f (k + 1) a0):=by
 intro a0 k
 have ih0:=tree_tight.mono_l k
 unfold tree_tight.f
 repeat' first
  | (with_reducible exact ih0 _ _ _)
  | (with_reducible exact LeO.refl _)
  | (with_reducible exact LeO.none _)
  | (with_reducible refine LeO.ite ?_ ?_)
  | (with_reducible refine LeO.bind ?_ (fun _=>?_))
  | exact ih0 _ _ _
  | exact LeO.none _
  | refine LeO.ite ?_ ?_
  | refine LeO.bind ?_ (fun _=>?_)
set_option maxHeartbeats 8000000 in
set_option maxRecDepth 100000 in
theorem tree_tight.calls (k : Nat) (A0 : Option Addr) (c0 : Nat) (l0 : List (S29)) (r : Bool) (w : World) (hr0 : Kd.C k29 w A0 l0.length l0) (hc0 : l0.length≤c0) (h : tree_tight.f k l0 = some r) :
 Calls Tryd.prog 42 #[.slice A0 l0.length c0] w fun e w'=>e = .returned (.bool r)∧Drawn0 w w':=by
 have HR0:=Az.mk hr0
 have HC0:=Az.mk hc0
 clear hr0 hc0
 have H : ((tree_Leaves.f l0).bind fun t101=>(tree_tight.l0 k l0 t101 (wrap64 (Int.tdiv t101 2)))) = some r:=h
 clear h
 replace H:=Option.bind_eq_some_iff.mp H
 obtain ⟨t101,A20,H⟩:=H
 replace H : (tree_tight.l0 k l0 t101 (wrap64 (Int.tdiv t101 2))) = some r:=H
 have A2:=Az.mk A20
 clear A20
 have H':=Az.mk H
 clear H
 go_enter Tryd.func42,Tryd.ntmps42
 go_wp2_with (first | ((with_reducible refine gate_callee (f:=29) rfl ?_);refine goesL_ (some 6) rfl rfl Tryd.func29 (by kernel_rfl) rfl #[.slice A0 l0.length c0] rfl (by (try simp only [List.map_toArray,List.map_cons,List.map_nil]);first | done | rfl | (simp only [List.length_drop,List.length_take];rfl)) ?_;(with_reducible refine (tree_Leaves.calls _ _ l0 t101 _ ?side1 ?side2 A2.out).mono ?_);(case side1=>exact C_mv (HR0.out));(case side2=>exact HC0.out);rintro e w' ⟨rfl,⟨nd,rfl⟩⟩;refine ⟨_,rfl,?_⟩))
 go_loopg [4] k (fun kq v4 w'=>∃ (x4_1 : Int),v4 = .int .i64 x4_1∧Az (tree_tight.l0 kq l0 t101 x4_1 = some r)∧Az (kq≤k)∧Drawn0 w w')
 case atStart=>exact ⟨(wrap64 (Int.tdiv t101 2)),(by first | rfl | (simp;done) | (simp [*];done)),H',⟨Nat.le_refl _⟩,by repeat (first | exact Drawn0.refl _ | apply Drawn0.step)⟩
 case round=>
  clear H'
  obtain ⟨x4_1,rfl,HA,HK1,⟨m1,rfl⟩⟩:=hrel
  cases gk with
  | zero=>exact absurd HA.out (by simp [tree_tight.l0])
  | succ k1=>
   have H:=HA.out
   clear HA
   simp only [tree_tight.l0] at H
   by_cases c3 : x4_1 < t101
   · rw [if_pos c3] at H
     have c3b0 : decide (x4_1 < t101) = true:=decide_eq_true c3
     clear c3
     obtain ⟨ji4,hji4⟩ : ∃ j_ : Int,(wrap64 (2 * x4_1)) = j_:=⟨_,rfl⟩
     replace H : (if 0≤(ji4) then (if (ji4) < (l0.length : Int) then (if (rd_T29 l0 (ji4)).f0 = true then (some true) else (tree_tight.l0 k1 l0 t101 (wrap64 (x4_1 + 1)))) else (none)) else (none)) = some r:=by first | (rw [hji4] at H;exact H) | (simp only [hji4] at H ⊢;exact H)
     have hji4w : (IntKind.i64.wrap (2 * x4_1)) = ji4:=(i64_w _).trans hji4
     by_cases c5 : 0≤(ji4)
     · rw [if_pos c5] at H
       have c5b0 : decide (0≤(ji4)) = true:=decide_eq_true c5
       clear c5
       by_cases c6 : (ji4) < (l0.length : Int)
       · rw [if_pos c6] at H
         have c6b0 : decide ((ji4) < (l0.length : Int)) = true:=decide_eq_true c6
         clear c6
         obtain ⟨bq7,hbq7⟩ : ∃ b_ : Bool,b_ = ((rd_T29 l0 (ji4)).f0):=⟨_,rfl⟩
         replace H : (if bq7 = true then (some true) else (tree_tight.l0 k1 l0 t101 (wrap64 (x4_1 + 1)))) = some r:=by rw [← hbq7] at H;exact H
         have Nbq7:=Az.mk hbq7
         clear hbq7
         by_cases c8 : bq7 = true
         · subst c8
           have H1 : (some true) = some r:=by rw [if_pos rfl] at H;exact H
           clear H
           have H:=H1
           clear H1
           obtain rfl:=Option.some.inj H
           have p102 : 0≤((ji4) : Int):=of_decide_eq_true (by first | (with_reducible assumption) | assumption)
           have q102 : (ji4) < (l0.length : Int):=of_decide_eq_true (by first | (with_reducible assumption) | assumption)
           obtain ⟨ad102,A102_5,c102_5,e102,hx102_0,hx102_1,hx102_2,hx102_3,hx102_4,hx102_5,hl102_5,hi102_5⟩:=at_T29 HR0.out (ji4) p102 q102
           (try rw [← Nbq7.out] at hx102_0)
           cases e102
           have HR102_5:=Az.mk hi102_5
           have HC102_5:=Az.mk hl102_5
           clear hi102_5 hl102_5
           replace p102:=eq_true p102
           replace q102:=eq_true q102
           go_wp2
           go_ret
           exact ⟨by first | rfl | (simp;done) | (simp only [← hji4] <;> (first | rfl | simp)) | (simp [*];done),by repeat (first | exact Drawn0.refl _ | apply Drawn0.step)⟩
         · replace c8:=Bool.eq_false_iff.mpr c8
           subst c8
           have H1 : (tree_tight.l0 k1 l0 t101 (wrap64 (x4_1 + 1))) = some r:=by rw [if_neg (show ¬ (false = true) by decide)] at H;exact H
           clear H
           have H:=H1
           clear H1
           have H':=Az.mk H
           clear H
           have p102 : 0≤((ji4) : Int):=of_decide_eq_true (by first | (with_reducible assumption) | assumption)
           have q102 : (ji4) < (l0.length : Int):=of_decide_eq_true (by first | (with_reducible assumption) | assumption)
           obtain ⟨ad102,A102_5,c102_5,e102,hx102_0,hx102_1,hx102_2,hx102_3,hx102_4,hx102_5,hl102_5,hi102_5⟩:=at_T29 HR0.out (ji4) p102 q102
           (try rw [← Nbq7.out] at hx102_0)
           cases e102
           have HR102_5:=Az.mk hi102_5
           have HC102_5:=Az.mk hl102_5
           clear hi102_5 hl102_5
           replace p102:=eq_true p102
           replace q102:=eq_true q102
           go_wp2
           go_roundg k1
           case measure=>have:=HK1.out;omega
           case rel=>exact ⟨(wrap64 (x4_1 + 1)),(by first | rfl | (simp;done) | (simp [*];done)),H',⟨by have:=HK1.out;omega⟩,by repeat (first | exact Drawn0.refl _ | apply Drawn0.step)⟩
       · rw [if_neg c6] at H
         exact absurd H (by simp)
     · rw [if_neg c5] at H
       exact absurd H (by simp)
   · rw [if_neg c3] at H
     have c3b0 : decide (x4_1 < t101) = false:=decide_eq_false c3
     clear c3
     obtain rfl:=Option.some.inj H
     go_wp2
     go_ret
     exact ⟨by first | rfl | (simp;done) | (simp [*];done),by repeat (first | exact Drawn0.refl _ | apply Drawn0.step)⟩
def tree_full.f (l0 : List (S29)) (a1 : Int) : Option (Bool):=if a1≥0 then ((tree_Leaves.f l0).bind fun t103=>(if a1 < t103 then (if 0≤(wrap64 (2 * a1)) then (if (wrap64 (2 * a1)) < (l0.length : Int) then (some ((rd_T29 l0 (wrap64 (2 * a1))).f0)) else (none)) else (none)) else (some false))) else (some false)
set_option maxHeartbeats 8000000 in
set_option maxRecDepth 100000 in
theorem tree_full.calls (A0 : Option Addr) (c0 : Nat) (l0 : List (S29)) (a1 : Int) (r : Bool) (w : World) (hr0 : Kd.C k29 w A0 l0.length l0) (hc0 : l0.length≤c0) (h : tree_full.f l0 a1 = some r) :
 Calls Tryd.prog 60 #[.slice A0 l0.length c0,.int .i64 a1] w fun e w'=>e = .returned (.bool r)∧Drawn0 w w':=by
 have HR0:=Az.mk hr0
 have HC0:=Az.mk hc0
 clear hr0 hc0
 have H : (if a1≥0 then ((tree_Leaves.f l0).bind fun t103=>(if a1 < t103 then (if 0≤(wrap64 (2 * a1)) then (if (wrap64 (2 * a1)) < (l0.length : Int) then (some ((rd_T29 l0 (wrap64 (2 * a1))).f0)) else (none)) else (none)) else (some false))) else (some false)) = some r:=h
 clear h
 by_cases c3 : a1≥0
 · rw [if_pos c3] at H
   have c3b0 : decide (0≤a1) = true:=decide_eq_true c3
   clear c3
   replace H:=Option.bind_eq_some_iff.mp H
   obtain ⟨t103,A40,H⟩:=H
   replace H : (if a1 < t103 then (if 0≤(wrap64 (2 * a1)) then (if (wrap64 (2 * a1)) < (l0.length : Int) then (some ((rd_T29 l0 (wrap64 (2 * a1))).f0)) else (none)) else (none)) else (some false)) = some r:=H
   have A4:=Az.mk A40
   clear A40
   by_cases c5 : a1 < t103
   · rw [if_pos c5] at H
     have c5b0 : decide (a1 < t103) = true:=decide_eq_true c5
     clear c5
     obtain ⟨ji6,hji6⟩ : ∃ j_ : Int,(wrap64 (2 * a1)) = j_:=⟨_,rfl⟩
     replace H : (if 0≤(ji6) then (if (ji6) < (l0.length : Int) then (some ((rd_T29 l0 (ji6)).f0)) else (none)) else (none)) = some r:=by first | (rw [hji6] at H;exact H) | (simp only [hji6] at H ⊢;exact H)
     (try rw [hji6] at A4)
     have hji6w : (IntKind.i64.wrap (2 * a1)) = ji6:=(i64_w _).trans hji6
     by_cases c7 : 0≤(ji6)
     · rw [if_pos c7] at H
       have c7b0 : decide (0≤(ji6)) = true:=decide_eq_true c7
       clear c7
       by_cases c8 : (ji6) < (l0.length : Int)
       · rw [if_pos c8] at H
         have c8b0 : decide ((ji6) < (l0.length : Int)) = true:=decide_eq_true c8
         clear c8
         obtain rfl:=Option.some.inj H
         go_enter Tryd.func60,Tryd.ntmps60
         go_wp2_with (first | (go_at_call 29;(with_reducible refine (tree_Leaves.calls _ _ l0 t103 _ ?side1 ?side2 A4.out).mono ?_);(case side1=>exact C_mv (HR0.out));(case side2=>exact HC0.out);rintro e w' ⟨rfl,⟨nd,rfl⟩⟩;have p104 : 0≤((ji6) : Int):=of_decide_eq_true (by first | (with_reducible assumption) | assumption);have q104 : (ji6) < (l0.length : Int):=of_decide_eq_true (by first | (with_reducible assumption) | assumption);obtain ⟨ad104,A104_5,c104_5,e104,hx104_0,hx104_1,hx104_2,hx104_3,hx104_4,hx104_5,hl104_5,hi104_5⟩:=at_T29 HR0.out (ji6) p104 q104;cases e104;have HR104_5:=Az.mk hi104_5;have HC104_5:=Az.mk hl104_5;clear hi104_5 hl104_5;replace p104:=eq_true p104;replace q104:=eq_true q104))
         go_ret
         exact ⟨by first | rfl | (simp;done) | (simp only [← hji6] <;> (first | rfl | simp)) | (simp [*];done),by repeat (first | exact Drawn0.refl _ | apply Drawn0.step)⟩
       · rw [if_neg c8] at H
         exact absurd H (by simp)
     · rw [if_neg c7] at H
       exact absurd H (by simp)
   · rw [if_neg c5] at H
     have c5b0 : decide (a1 < t103) = false:=decide_eq_false c5
     clear c5
     obtain rfl:=Option.some.inj H
     go_enter Tryd.func60,Tryd.ntmps60
     go_wp2_with (first | (go_at_call 29;(with_reducible refine (tree_Leaves.calls _ _ l0 t103 _ ?side1 ?side2 A4.out).mono ?_);(case side1=>exact C_mv (HR0.out));(case side2=>exact HC0.out);rintro e w' ⟨rfl,⟨nd,rfl⟩⟩))
     go_ret
     exact ⟨by first | rfl | (simp;done) | (simp [*];done),by repeat (first | exact Drawn0.refl _ | apply Drawn0.step)⟩
 · rw [if_neg c3] at H
   have c3b0 : decide (0≤a1) = false:=decide_eq_false c3
   clear c3
   obtain rfl:=Option.some.inj H
   go_enter Tryd.func60,Tryd.ntmps60
   go_wp2
   go_ret
   exact ⟨by first | rfl | (simp;done) | (simp [*];done),by repeat (first | exact Drawn0.refl _ | apply Drawn0.step)⟩
def tree_blank.f (a0_0 : Bool) (a0_1 : Int) (a0_2 : Int) (a0_3 : Int) (a0_4 : Int) (l0_5 : List Int) : Option (Bool):=if a0_0 = true then (some false) else (if a0_1 = 0 then (if a0_2 = 0 then (if a0_3 = 0 then (if a0_4 = 0 then (some ((l0_5.length : Int) == 0)) else (some false)) else (some false)) else (some false)) else (some false))
set_option maxHeartbeats 8000000 in
set_option maxRecDepth 100000 in
theorem tree_blank.calls (a0_0 : Bool) (a0_1 : Int) (a0_2 : Int) (a0_3 : Int) (a0_4 : Int) (A0_5 : Option Addr) (c0_5 : Nat) (l0_5 : List Int) (r : Bool) (w : World) (hr0_5 : Kd.C (Kd.int .i64) w A0_5 l0_5.length l0_5) (hc0_5 : l0_5.length≤c0_5) (h : tree_blank.f a0_0 a0_1 a0_2 a0_3 a0_4 l0_5 = some r) :
 Calls Tryd.prog 65 #[.agg #[.bool a0_0,.int .i64 a0_1,.int .i64 a0_2,.int .i64 a0_3,.int .i64 a0_4,.slice A0_5 l0_5.length c0_5]] w fun e w'=>e = .returned (.bool r)∧Below w.heap.size w w':=by
 have hu29:=Tryd.underlying29
 have HR0_5:=Az.mk hr0_5
 have HC0_5:=Az.mk hc0_5
 clear hr0_5 hc0_5
 have HB:=Az.mk (Below.refl w.heap.size w)
 have H : (if a0_0 = true then (some false) else (if a0_1 = 0 then (if a0_2 = 0 then (if a0_3 = 0 then (if a0_4 = 0 then (some ((l0_5.length : Int) == 0)) else (some false)) else (some false)) else (some false)) else (some false))) = some r:=h
 clear h
 by_cases c2 : a0_0 = true
 · subst c2
   have H1 : (some false) = some r:=by rw [if_pos rfl] at H;exact H
   clear H
   have H:=H1
   clear H1
   obtain rfl:=Option.some.inj H
   go_enter Tryd.func65,Tryd.ntmps65
   go_wp2_with (first | ((with_reducible refine gate_dst (N:=1) rfl ?_);(try (refine gate_guard (by rfl) ?_;dsimp only));refine box_event ?hg (N:=1) ?hd (cs:=#[.bool true,.int .i64 a0_1,.int .i64 a0_2,.int .i64 a0_3,.int .i64 a0_4,.slice A0_5 l0_5.length c0_5]) (t:=29) ?hr ?_;(case hd=>rfl);(case hg=>rfl);(case hr=>first | (go_simp;done) | (go_simp;rfl));intro gb105 hg w3 hbox hb;have n0_:=Az.mk (bwT (bmv HB.out) hb);have n1_:=Az.mk (hbox);have n2_:=Az.mk ((by rw [hg];exact (bwZ (bmv HB.out)) : w.heap.size≤gb105));have n3_:=Az.mk ((by rw [hg];exact (bwZ (bmv HB.out)) : w.heap.size≤gb105));clear HB;have HB:=n0_;have BK105:=n1_;have GW105:=n2_;have GE105:=n3_;clear n0_ n1_ n2_ n3_;clear hb hbox hg;obtain ⟨⟨hcz4_0,hcz4_1,hcz4_2,hcz4_3,hcz4_4,hcz4_5⟩,hfz4_0,hfz4_1,hfz4_2,hfz4_3,hfz4_4,hfz4_5⟩:=cells6 BK105.out))
   go_ret
   exact ⟨by first | rfl | (simp [errW_none,errW_some] <;> rfl) | (simp [*,errW_none,errW_some] <;> rfl),by repeat (with_reducible first | exact bmv HB.out | refine bwS ?_ GE105.out)⟩
 · replace c2:=Bool.eq_false_iff.mpr c2
   subst c2
   have H1 : (if a0_1 = 0 then (if a0_2 = 0 then (if a0_3 = 0 then (if a0_4 = 0 then (some ((l0_5.length : Int) == 0)) else (some false)) else (some false)) else (some false)) else (some false)) = some r:=by rw [if_neg (show ¬ (false = true) by decide)] at H;exact H
   clear H
   have H:=H1
   clear H1
   by_cases c5 : a0_1 = 0
   · rw [if_pos c5] at H
     have c5b0 : (a0_1 == 0) = true:=beq_iff_eq.mpr c5
     have c5b1 : (a0_1 != 0) = false:=bne_eq_false_iff_eq.mpr c5
     clear c5
     by_cases c6 : a0_2 = 0
     · rw [if_pos c6] at H
       have c6b0 : (a0_2 == 0) = true:=beq_iff_eq.mpr c6
       have c6b1 : (a0_2 != 0) = false:=bne_eq_false_iff_eq.mpr c6
       clear c6
       by_cases c7 : a0_3 = 0
       · rw [if_pos c7] at H
         have c7b0 : (a0_3 == 0) = true:=beq_iff_eq.mpr c7
         have c7b1 : (a0_3 != 0) = false:=bne_eq_false_iff_eq.mpr c7
         clear c7
         by_cases c8 : a0_4 = 0
         · rw [if_pos c8] at H
           have c8b0 : (a0_4 == 0) = true:=beq_iff_eq.mpr c8
           have c8b1 : (a0_4 != 0) = false:=bne_eq_false_iff_eq.mpr c8
           clear c8
           obtain rfl:=Option.some.inj H
           go_enter Tryd.func65,Tryd.ntmps65
           go_wp2_with (first | ((with_reducible refine gate_dst (N:=1) rfl ?_);(try (refine gate_guard (by rfl) ?_;dsimp only));refine box_event ?hg (N:=1) ?hd (cs:=#[.bool false,.int .i64 a0_1,.int .i64 a0_2,.int .i64 a0_3,.int .i64 a0_4,.slice A0_5 l0_5.length c0_5]) (t:=29) ?hr ?_;(case hd=>rfl);(case hg=>rfl);(case hr=>first | (go_simp;done) | (go_simp;rfl));intro gb105 hg w9 hbox hb;have n0_:=Az.mk (bwT (bmv HB.out) hb);have n1_:=Az.mk (hbox);have n2_:=Az.mk ((by rw [hg];exact (bwZ (bmv HB.out)) : w.heap.size≤gb105));have n3_:=Az.mk ((by rw [hg];exact (bwZ (bmv HB.out)) : w.heap.size≤gb105));clear HB;have HB:=n0_;have BK105:=n1_;have GW105:=n2_;have GE105:=n3_;clear n0_ n1_ n2_ n3_;clear hb hbox hg;obtain ⟨⟨hcz10_0,hcz10_1,hcz10_2,hcz10_3,hcz10_4,hcz10_5⟩,hfz10_0,hfz10_1,hfz10_2,hfz10_3,hfz10_4,hfz10_5⟩:=cells6 BK105.out))
           go_ret
           exact ⟨by first | rfl | (simp [errW_none,errW_some] <;> rfl) | (simp [*,errW_none,errW_some] <;> rfl),by repeat (with_reducible first | exact bmv HB.out | refine bwS ?_ GE105.out)⟩
         · rw [if_neg c8] at H
           have c8b0 : (a0_4 == 0) = false:=beq_eq_false_iff_ne.mpr c8
           have c8b1 : (a0_4 != 0) = true:=bne_iff_ne.mpr c8
           obtain rfl:=Option.some.inj H
           go_enter Tryd.func65,Tryd.ntmps65
           go_wp2_with (first | ((with_reducible refine gate_dst (N:=1) rfl ?_);(try (refine gate_guard (by rfl) ?_;dsimp only));refine box_event ?hg (N:=1) ?hd (cs:=#[.bool false,.int .i64 a0_1,.int .i64 a0_2,.int .i64 a0_3,.int .i64 a0_4,.slice A0_5 l0_5.length c0_5]) (t:=29) ?hr ?_;(case hd=>rfl);(case hg=>rfl);(case hr=>first | (go_simp;done) | (go_simp;rfl));intro gb105 hg w11 hbox hb;have n0_:=Az.mk (bwT (bmv HB.out) hb);have n1_:=Az.mk (hbox);have n2_:=Az.mk ((by rw [hg];exact (bwZ (bmv HB.out)) : w.heap.size≤gb105));have n3_:=Az.mk ((by rw [hg];exact (bwZ (bmv HB.out)) : w.heap.size≤gb105));clear HB;have HB:=n0_;have BK105:=n1_;have GW105:=n2_;have GE105:=n3_;clear n0_ n1_ n2_ n3_;clear hb hbox hg;obtain ⟨⟨hcz12_0,hcz12_1,hcz12_2,hcz12_3,hcz12_4,hcz12_5⟩,hfz12_0,hfz12_1,hfz12_2,hfz12_3,hfz12_4,hfz12_5⟩:=cells6 BK105.out))
           go_ret
           exact ⟨by first | rfl | (simp [errW_none,errW_some] <;> rfl) | (simp [*,errW_none,errW_some] <;> rfl),by repeat (with_reducible first | exact bmv HB.out | refine bwS ?_ GE105.out)⟩
       · rw [if_neg c7] at H
         have c7b0 : (a0_3 == 0) = false:=beq_eq_false_iff_ne.mpr c7
         have c7b1 : (a0_3 != 0) = true:=bne_iff_ne.mpr c7
         obtain rfl:=Option.some.inj H
         go_enter Tryd.func65,Tryd.ntmps65
         go_wp2_with (first | ((with_reducible refine gate_dst (N:=1) rfl ?_);(try (refine gate_guard (by rfl) ?_;dsimp only));refine box_event ?hg (N:=1) ?hd (cs:=#[.bool false,.int .i64 a0_1,.int .i64 a0_2,.int .i64 a0_3,.int .i64 a0_4,.slice A0_5 l0_5.length c0_5]) (t:=29) ?hr ?_;(case hd=>rfl);(case hg=>rfl);(case hr=>first | (go_simp;done) | (go_simp;rfl));intro gb105 hg w13 hbox hb;have n0_:=Az.mk (bwT (bmv HB.out) hb);have n1_:=Az.mk (hbox);have n2_:=Az.mk ((by rw [hg];exact (bwZ (bmv HB.out)) : w.heap.size≤gb105));have n3_:=Az.mk ((by rw [hg];exact (bwZ (bmv HB.out)) : w.heap.size≤gb105));clear HB;have HB:=n0_;have BK105:=n1_;have GW105:=n2_;have GE105:=n3_;clear n0_ n1_ n2_ n3_;clear hb hbox hg;obtain ⟨⟨hcz14_0,hcz14_1,hcz14_2,hcz14_3,hcz14_4,hcz14_5⟩,hfz14_0,hfz14_1,hfz14_2,hfz14_3,hfz14_4,hfz14_5⟩:=cells6 BK105.out))
         go_ret
         exact ⟨by first | rfl | (simp [errW_none,errW_some] <;> rfl) | (simp [*,errW_none,errW_some] <;> rfl),by repeat (with_reducible first | exact bmv HB.out | refine bwS ?_ GE105.out)⟩
     · rw [if_neg c6] at H
       have c6b0 : (a0_2 == 0) = false:=beq_eq_false_iff_ne.mpr c6
       have c6b1 : (a0_2 != 0) = true:=bne_iff_ne.mpr c6
       obtain rfl:=Option.some.inj H
       go_enter Tryd.func65,Tryd.ntmps65
       go_wp2_with (first | ((with_reducible refine gate_dst (N:=1) rfl ?_);(try (refine gate_guard (by rfl) ?_;dsimp only));refine box_event ?hg (N:=1) ?hd (cs:=#[.bool false,.int .i64 a0_1,.int .i64 a0_2,.int .i64 a0_3,.int .i64 a0_4,.slice A0_5 l0_5.length c0_5]) (t:=29) ?hr ?_;(case hd=>rfl);(case hg=>rfl);(case hr=>first | (go_simp;done) | (go_simp;rfl));intro gb105 hg w15 hbox hb;have n0_:=Az.mk (bwT (bmv HB.out) hb);have n1_:=Az.mk (hbox);have n2_:=Az.mk ((by rw [hg];exact (bwZ (bmv HB.out)) : w.heap.size≤gb105));have n3_:=Az.mk ((by rw [hg];exact (bwZ (bmv HB.out)) : w.heap.size≤gb105));clear HB;have HB:=n0_;have BK105:=n1_;have GW105:=n2_;have GE105:=n3_;clear n0_ n1_ n2_ n3_;clear hb hbox hg;obtain ⟨⟨hcz16_0,hcz16_1,hcz16_2,hcz16_3,hcz16_4,hcz16_5⟩,hfz16_0,hfz16_1,hfz16_2,hfz16_3,hfz16_4,hfz16_5⟩:=cells6 BK105.out))
       go_ret
       exact ⟨by first | rfl | (simp [errW_none,errW_some] <;> rfl) | (simp [*,errW_none,errW_some] <;> rfl),by repeat (with_reducible first | exact bmv HB.out | refine bwS ?_ GE105.out)⟩
   · rw [if_neg c5] at H
     have c5b0 : (a0_1 == 0) = false:=beq_eq_false_iff_ne.mpr c5
     have c5b1 : (a0_1 != 0) = true:=bne_iff_ne.mpr c5
     obtain rfl:=Option.some.inj H
     go_enter Tryd.func65,Tryd.ntmps65
     go_wp2_with (first | ((with_reducible refine gate_dst (N:=1) rfl ?_);(try (refine gate_guard (by rfl) ?_;dsimp only));refine box_event ?hg (N:=1) ?hd (cs:=#[.bool false,.int .i64 a0_1,.int .i64 a0_2,.int .i64 a0_3,.int .i64 a0_4,.slice A0_5 l0_5.length c0_5]) (t:=29) ?hr ?_;(case hd=>rfl);(case hg=>rfl);(case hr=>first | (go_simp;done) | (go_simp;rfl));intro gb105 hg w17 hbox hb;have n0_:=Az.mk (bwT (bmv HB.out) hb);have n1_:=Az.mk (hbox);have n2_:=Az.mk ((by rw [hg];exact (bwZ (bmv HB.out)) : w.heap.size≤gb105));have n3_:=Az.mk ((by rw [hg];exact (bwZ (bmv HB.out)) : w.heap.size≤gb105));clear HB;have HB:=n0_;have BK105:=n1_;have GW105:=n2_;have GE105:=n3_;clear n0_ n1_ n2_ n3_;clear hb hbox hg;obtain ⟨⟨hcz18_0,hcz18_1,hcz18_2,hcz18_3,hcz18_4,hcz18_5⟩,hfz18_0,hfz18_1,hfz18_2,hfz18_3,hfz18_4,hfz18_5⟩:=cells6 BK105.out))
     go_ret
     exact ⟨by first | rfl | (simp [errW_none,errW_some] <;> rfl) | (simp [*,errW_none,errW_some] <;> rfl),by repeat (with_reducible first | exact bmv HB.out | refine bwS ?_ GE105.out)⟩
def heap_in.f (a0 : Int) (a1 : Int) : Option (Bool):=(heap_Right.f a1).bind fun t106=>(if t106 = true then (if a0≥0 then (some (decide (a0≤(wrap64 ((wrap64 (2 * a1)) - 2))))) else (some false)) else (some false))
set_option maxHeartbeats 8000000 in
set_option maxRecDepth 100000 in
theorem heap_in.calls (a0 : Int) (a1 : Int) (r : Bool) (w : World) (h : heap_in.f a0 a1 = some r) :
 Calls Tryd.prog 70 #[.int .i64 a0,.int .i64 a1] w fun e w'=>e = .returned (.bool r)∧Drawn0 w w':=by
 have H : ((heap_Right.f a1).bind fun t106=>(if t106 = true then (if a0≥0 then (some (decide (a0≤(wrap64 ((wrap64 (2 * a1)) - 2))))) else (some false)) else (some false))) = some r:=h
 clear h
 replace H:=Option.bind_eq_some_iff.mp H
 obtain ⟨t106,A30,H⟩:=H
 replace H : (if t106 = true then (if a0≥0 then (some (decide (a0≤(wrap64 ((wrap64 (2 * a1)) - 2))))) else (some false)) else (some false)) = some r:=H
 have A3:=Az.mk A30
 clear A30
 by_cases c4 : t106 = true
 · subst c4
   have H1 : (if a0≥0 then (some (decide (a0≤(wrap64 ((wrap64 (2 * a1)) - 2))))) else (some false)) = some r:=by rw [if_pos rfl] at H;exact H
   clear H
   have H:=H1
   clear H1
   by_cases c5 : a0≥0
   · rw [if_pos c5] at H
     have c5b0 : decide (0≤a0) = true:=decide_eq_true c5
     clear c5
     obtain rfl:=Option.some.inj H
     go_enter Tryd.func70,Tryd.ntmps70
     go_wp2_with (first | ((with_reducible refine gate_callee (f:=41) rfl ?_);refine goesL_ (some 6) rfl rfl Tryd.func41 (by kernel_rfl) rfl #[.int .i64 a1] rfl (by (try simp only [List.map_toArray,List.map_cons,List.map_nil]);first | done | rfl | (simp only [List.length_drop,List.length_take];rfl)) ?_;(with_reducible refine (heap_Right.calls a1 true _ A3.out).mono ?_);rintro e w' ⟨rfl,⟨nd,rfl⟩⟩;refine ⟨_,rfl,?_⟩))
     go_ret
     exact ⟨by first | rfl | (simp;done) | (simp [*];done),by repeat (first | exact Drawn0.refl _ | apply Drawn0.step)⟩
   · rw [if_neg c5] at H
     have c5b0 : decide (0≤a0) = false:=decide_eq_false c5
     clear c5
     obtain rfl:=Option.some.inj H
     go_enter Tryd.func70,Tryd.ntmps70
     go_wp2_with (first | ((with_reducible refine gate_callee (f:=41) rfl ?_);refine goesL_ (some 6) rfl rfl Tryd.func41 (by kernel_rfl) rfl #[.int .i64 a1] rfl (by (try simp only [List.map_toArray,List.map_cons,List.map_nil]);first | done | rfl | (simp only [List.length_drop,List.length_take];rfl)) ?_;(with_reducible refine (heap_Right.calls a1 true _ A3.out).mono ?_);rintro e w' ⟨rfl,⟨nd,rfl⟩⟩;refine ⟨_,rfl,?_⟩))
     go_ret
     exact ⟨by first | rfl | (simp;done) | (simp [*];done),by repeat (first | exact Drawn0.refl _ | apply Drawn0.step)⟩
 · replace c4:=Bool.eq_false_iff.mpr c4
   subst c4
   have H1 : (some false) = some r:=by rw [if_neg (show ¬ (false = true) by decide)] at H;exact H
   clear H
   have H:=H1
   clear H1
   obtain rfl:=Option.some.inj H
   go_enter Tryd.func70,Tryd.ntmps70
   go_wp2_with (first | ((with_reducible refine gate_callee (f:=41) rfl ?_);refine goesL_ (some 6) rfl rfl Tryd.func41 (by kernel_rfl) rfl #[.int .i64 a1] rfl (by (try simp only [List.map_toArray,List.map_cons,List.map_nil]);first | done | rfl | (simp only [List.length_drop,List.length_take];rfl)) ?_;(with_reducible refine (heap_Right.calls a1 false _ A3.out).mono ?_);rintro e w' ⟨rfl,⟨nd,rfl⟩⟩;refine ⟨_,rfl,?_⟩))
   go_ret
   exact ⟨by first | rfl | (simp;done) | (simp [*];done),by repeat (first | exact Drawn0.refl _ | apply Drawn0.step)⟩
def TabH (w : World) : Prop:=∀ j,j < Lib.deBruijn64tab.length→w.cell? ⟨1,j,none⟩ = some (.int .u8 (Lib.deBruijn64tab.getD j 0))
theorem TabH.lt {w : World} (h : TabH w) : 1 < w.heap.size:=World.block_lt_of_cell? w _ (h 0 (by decide))
theorem TabH.heap {w w' : World} (h : TabH w) (hb : w'.heap[1]? = w.heap[1]?) : TabH w':=fun j hj=>by
 rw [show w'.cell? ⟨1,j,none⟩ = w.cell? ⟨1,j,none⟩ by simp [World.cell?,hb]];exact h j hj
theorem TabH.below {w w' : World} (h : TabH w) (hb : Below w.heap.size w w') : TabH w':=h.heap (hb.block _ h.lt)
theorem TabH.drewN {w : World} (h : TabH w) (n : Nat) : TabH (w.drewN n):=h
def TabG (w : World) : Prop:=TabH w
theorem TabG.h {w : World} (h : TabG w) : TabH w:=h
theorem TabG.below {w w' : World} (h : TabG w) (hb : Below w.heap.size w w') : TabG w':=TabH.below h hb
theorem TabG.drewN {w : World} (h : TabG w) (n : Nat) : TabG (w.drewN n):=h
theorem TabG.lt {w : World} (h : TabG w) : 1 < w.heap.size:=by have:=h.h.lt;have:=(show TabG w from h);first | exact h.h.lt | exact h.1.lt
theorem TabG.heaps {w w' : World} {B : Nat} (h : TabG w) (hB : w.heap.size≤B∨1 < B) (hb : ∀ k,k < B→k = 1→w'.heap[k]? = w.heap[k]?) : TabG w':=by
 have l2:=TabH.lt h
 exact TabH.heap h (hb _ (by omega) rfl)
set_option maxHeartbeats 1000000 in
theorem tz64_core (x k idx : Nat) (w : World) (hx0 : ((x : Int) == 0) = false)
 (key : IntKind.u64.wrap (bits BinOp.and IntKind.u64 (x : Int) (IntKind.u64.wrap (-(x : Int))) * 285870213051353865) / 288230376151711744 = (idx : Int))
 (hi : idx < 64) (hcell : w.cell? ⟨1,idx,none⟩ = some (.int .u8 k)) (hk : k < 64) :
 Calls Tryd.prog 87 #[.int .u64 x] w fun e w'=>e = .returned (.int .i64 k)∧w' = w:=by
 have hi2 : (idx : Int) < 64:=by omega
 go_enter Tryd.func87,Tryd.ntmps87
 go_wp2_with (simp only [key])
 go_ret
 exact ⟨rfl,rfl⟩
theorem tz64_zero (w : World) : Calls Tryd.prog 87 #[.int .u64 0] w fun e w'=>e = .returned (.int .i64 64)∧w' = w:=by
 go_enter Tryd.func87,Tryd.ntmps87
 go_wp2
 go_ret
 exact ⟨rfl,rfl⟩
theorem tz64_calls (x : Nat) (hx : x < 18446744073709551616) (w : World) (hT : TabG w) :
 Calls Tryd.prog 87 #[.int .u64 x] w fun e w'=>e = .returned (.int .i64 (Lib.ctz 64 x))∧w' = w:=by
 by_cases hx0 : x = 0
 · subst hx0
   exact tz64_zero w
 · obtain ⟨hlow,hk⟩:=Lib.lowest_bit 64 x hx0 hx
   obtain ⟨hi,htab⟩:=Lib.deBruijn64_at _ hk
   have hcell:=hT.h _ hi
   rw [htab] at hcell
   exact tz64_core x _ _ w (by simp;omega) (tz64_key x _ hx hx0 hlow) hi hcell hk
theorem tz_calls (x : Nat) (hx : x < 18446744073709551616) (w : World) (hT : TabG w) :
 Calls Tryd.prog 84 #[.int .u64 x] w fun e w'=>e = .returned (.int .i64 (Lib.ctz 64 x))∧w' = w:=by
 have c64:=Lib.hid (tz64_calls x hx w hT)
 have hw : IntKind.u64.wrap (x : Int) = (x : Int):=by rw [IntKind.wrap_u64];omega
 clear hT
 go_enter Tryd.func84,Tryd.ntmps84
 go_wp2_with (go_at_call 87;refine c64.out.mono ?_;rintro e w' ⟨rfl,rfl⟩)
 go_ret
 exact ⟨rfl,rfl⟩
theorem xor_max (x : Nat) (hx : x < 18446744073709551616) : bits .xor .u64 18446744073709551615 (x : Int) = ((18446744073709551615 - x : Nat) : Int):=by
 have h:=bits_xor_u64_nat 18446744073709551615 x (by omega) hx
 have e : 18446744073709551615 ^^^ x = 18446744073709551615 - x:=by
  apply Nat.eq_of_testBit_eq
  intro i
  have h1 : (18446744073709551615 : Nat).testBit i = decide (i < 64):=by
   rw [show (18446744073709551615 : Nat) = 2 ^ 64 - 1 by decide];exact Nat.testBit_two_pow_sub_one 64 i
  rw [Nat.testBit_xor,h1,show 18446744073709551615 - x = 2 ^ 64 - (x + 1) by omega,Nat.testBit_two_pow_sub_succ (by omega)]
  by_cases hi : i < 64
  · simp [hi]
  · simp only [hi,decide_false,Bool.false_and]
    rw [Nat.testBit_lt_two_pow (Nat.lt_of_lt_of_le (show x < 2 ^ 64 by omega) (Nat.pow_le_pow_right (by decide) (by omega)))]
    rfl
 rw [e] at h
 exact h
def lev (x : Int) : Int:=if x < 0 then 0 else Lib.ctz 64 (18446744073709551615 - (x % 18446744073709551616).toNat)
def heap_Level.f (a0 : Int) : Option (Int):=some (lev a0)
set_option maxHeartbeats 1000000 in
theorem heap_Level.calls (a0 : Int) (r : Int) (w : World) (hrG : TabG w) (h : heap_Level.f a0 = some r) :
 Calls Tryd.prog 76 #[.int .i64 a0] w fun e w'=>e = .returned (.int .i64 r)∧Drawn0 w w':=by
 obtain rfl:=Option.some.inj h
 clear h
 unfold lev
 by_cases h0 : a0 < 0
 · rw [if_pos h0]
   have hb : decide (a0 < 0) = true:=by simpa using h0
   clear h0 hrG
   go_enter Tryd.func76,Tryd.ntmps76
   go_wp2
   go_ret
   exact ⟨rfl,Drawn0.refl _⟩
 · rw [if_neg h0]
   have hb : decide (a0 < 0) = false:=by simpa using h0
   obtain ⟨x,hx⟩ : ∃ x : Nat,a0 % 18446744073709551616 = x:=⟨(a0 % 18446744073709551616).toNat,by omega⟩
   have hlt : x < 18446744073709551616:=by omega
   have hw : IntKind.u64.wrap a0 = (x : Int):=by rw [IntKind.wrap_u64];exact hx
   rw [hx,Int.toNat_natCast]
   have hxor : bits .xor .u64 IntKind.u64.max (x : Int) = ((18446744073709551615 - x : Nat) : Int):=xor_max x hlt
   have hsg : IntKind.u64.signed = false:=rfl
   have hc:=Lib.hid (tz_calls (18446744073709551615 - x) (by omega) w hrG)
   clear h0 hrG hx hlt
   go_enter Tryd.func76,Tryd.ntmps76
   go_wp2_with (go_at_call 84;refine hc.out.mono ?_;rintro e w' ⟨rfl,rfl⟩)
   go_ret
   exact ⟨rfl,Drawn0.refl _⟩
end Go.Proofs.YtbblomnhobodkaaDoor.PTw
