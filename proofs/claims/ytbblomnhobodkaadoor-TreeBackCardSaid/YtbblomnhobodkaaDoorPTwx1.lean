/- What this claim reaches of longer texts of this session. -/
import Derived.OrdersHeld
import Derived.Orders
import Derived.Tactics
import Derived.Test.YtbblomnhobodkaaDoorProg
import Derived.WalkKit
import Derived.WalkSpells
import Derived.WalkLawsBesides
import Derived.KernelRfl
import Derived.Below
import Derived.Lib.Hide
import Derived.Deep.Draws
import Derived.RangeFuncNested
import Derived.RangeFuncBound
import Derived.RangeFuncCalls
import Derived.RangeFuncLeaves
import Derived.Shelf.Abstract
import Derived.Shelf.RegionOpen
import Derived.OwnWalkIn
import Derived.TacticsInMore
import Derived.LoopNIn
import Derived.LoopIn
import Derived.Shelf.Small.Wraps
import Derived.Shelf.Slices.Reverse
import Derived.Ground.Names2Prog
import Derived.Shelf.Slices.Clone
import Derived.Shelf.Slices.SearchI
import Derived.Shelf.Slices.Cells
import Derived.Shelf.Slices.Empties
import Derived.Test.YtbblomnhobodkaaDoorPTwx0
import Derived.Shelf.Spec.TrailingZeros
import Derived.Lib.ItoaNum
import Derived.Lib.LaidTab
import Derived.Laws.Bits64
import Derived.RangeFuncBox
import Derived.Maps.AppendAt
import Derived.Lib.SliceRun
import Derived.Shelf.Spec.SlicesInsert
import Derived.Shelf.Spec.SlicesInsertGrow
import Derived.Deep.DeepCutAuto
set_option linter.unusedVariables false
set_option linter.unusedSimpArgs false
namespace Go.Mix
def QF : Exit→Act→World→Prop:=fun _ _ _=>False
section
variable {P : Program} {ops : Array Oper} {S : World→Prop} {Q : Exit→Act→World→Prop}
def step (P : Program) (ops : Array Oper) (S : World→Prop) (f : Nat) (o : Oper) (K : Act→World→Prop) (a : Act) (w : World) : Prop:=
 match f with
 | 0=>if Region.wanted o (yielded ops a.tmps) then o.wp P a w (fun a' w'=>S w'∧K a' w') QF else K (a.put o.dst undef) w
 | 1=>∃ v,YieldsIf P ops S o v a∧K (a.put o.dst v) w
 | 2=>∃ v,YieldsIf P ops (fun w'=>w' = w) o v a∧K (a.put o.dst v) w
 | _=>if Region.wanted o (yielded ops a.tmps) then o.wp P a w K QF else K (a.put o.dst undef) w
abbrev It:=Nat × Nat × Oper   -- flag,place,operation
def walk (P : Program) (ops : Array Oper) (S : World→Prop) (Q : Exit→Act→World→Prop) : List It→Act→World→Prop
 | [],a,w=>Q .normal a w
 | (f,_,o) :: rest,a,w=>step P ops S f o (walk P ops S Q rest) a w
theorem wp_some {o : Oper} {a : Act} {w : World} {K : Act→World→Prop} (h : o.wp P a w K QF) : ∃ a' w',K a' w':=by
 unfold Oper.wp at h
 generalize (execOp a.eval o).run P w = r at h
 cases r with
 | ok n w'=>
  cases n <;> simp only [Oper.upon] at h
  case value u=>exact ⟨_,_,h⟩
  case skip=>exact ⟨_,_,h⟩
  case defer d=>exact ⟨_,_,h⟩
  case enter f args=>
   obtain ⟨e,w'',fr,hR,_⟩:=h []
   cases e with
   | returned v=>exact ⟨_,_,hR⟩
   | panicked c=>exact hR.elim
   | outgrown=>obtain ⟨_,_,h⟩:=hR;exact h.elim
  case row row args=>
   obtain ⟨v,w'',hR,_⟩:=h default []
   exact ⟨_,_,hR⟩
 | halt x w'=>
  cases x <;> simp only [Oper.upon] at h
  case panic u=>exact h.elim
theorem yields_one {o : Oper} {v u : Value} {a : Act} {w : World} {S' : World→Prop} (hS : S w) (hS' : S' w) (h : YieldsIf P ops S o v a) (k : YieldsIf P ops S' o u a) : v = u:=by
 rcases h with ⟨hw,hv⟩ | ⟨hw,rfl⟩ <;> rcases k with ⟨kw,kv⟩ | ⟨kw,rfl⟩
 · have h1:=hv w hS;have h2:=kv w hS'
   rw [h1] at h2;cases h2;rfl
 · rw [hw] at kw;cases kw
 · rw [hw] at kw;cases kw
 · rfl
theorem yields_put {o : Oper} {v : Value} {a : Act} {d : Option Tmp} {u : Value} (hs : ∀ cs b,o.op≠.select cs b) (h : ∀ t,d = some t→t ∉ o.looksAt ops) :
 YieldsIf P ops S o v (a.put d u)↔YieldsIf P ops S o v a:=by
 unfold YieldsIf
 rw [execOp_put o hs a d u h,wanted_put o a d u h]
theorem wp_put {x : Oper} {a : Act} {w : World} {d : Option Tmp} {v : Value} {K K' : Act→World→Prop} (hs : ∀ cs b,x.op≠.select cs b)
 (h1 : ∀ t,d = some t→t ∉ x.looksAt ops) (h2 : ∀ t,d = some t→x.dst≠some t)
 (hK : ∀ (u : Value) (ds : List Deferred) w',K (({ a with defers:=ds } : Act).put x.dst u |>.put d v) w'→K' (({ a with defers:=ds } : Act).put x.dst u) w')
 (h : x.wp P (a.put d v) w K QF) : x.wp P a w K' QF:=by
 unfold Oper.wp at *
 rw [execOp_put x hs a d v h1] at h
 have e0 : ∀ u,(a.put d v).put x.dst u = (a.put x.dst u).put d v:=fun u=>Act.put_comm a v u h2
 generalize (execOp a.eval x).run P w = r at *
 cases r with
 | ok n w'=>
  cases n <;> simp only [Oper.upon] at h ⊢
  case value u=>rw [e0] at h;exact hK u a.defers w' h
  case skip=>rw [e0] at h;exact hK undef a.defers w' h
  case defer q=>
   have e1 : ({ a.put d v with defers:=q :: (a.put d v).defers } : Act).put x.dst undef = (({ a with defers:=q :: a.defers } : Act).put x.dst undef).put d v:=by
    rw [Act.put_defers,Act.put_comm _ v undef h2]
   rw [e1] at h
   exact hK undef (q :: a.defers) w' h
  case enter f args=>
   refine Calls.mono h fun e w'' he=>?_
   cases e with
   | returned u=>simp only [e0] at he;exact hK u a.defers w'' he
   | panicked c=>exact he
   | outgrown=>exact he
  case row row args=>exact Rows.mono h fun u w'' he=>by rw [e0] at he;exact hK u a.defers w'' he
 | halt x w'=>
  cases x <;> simp only [Oper.upon] at h ⊢
  case panic u=>exact h
theorem wp_unput {x : Oper} {a : Act} {w : World} {d : Option Tmp} {v : Value} {K K' : Act→World→Prop} (hs : ∀ cs b,x.op≠.select cs b)
 (h1 : ∀ t,d = some t→t ∉ x.looksAt ops) (h2 : ∀ t,d = some t→x.dst≠some t)
 (hK : ∀ (u : Value) (ds : List Deferred) w',K (({ a with defers:=ds } : Act).put x.dst u) w'→K' ((({ a with defers:=ds } : Act).put x.dst u).put d v) w')
 (h : x.wp P a w K QF) : x.wp P (a.put d v) w K' QF:=by
 unfold Oper.wp at *
 rw [execOp_put x hs a d v h1]
 have e0 : ∀ u,(a.put d v).put x.dst u = (a.put x.dst u).put d v:=fun u=>Act.put_comm a v u h2
 generalize (execOp a.eval x).run P w = r at *
 cases r with
 | ok n w'=>
  cases n <;> simp only [Oper.upon] at h ⊢
  case value u=>rw [e0];exact hK u a.defers w' h
  case skip=>rw [e0];exact hK undef a.defers w' h
  case defer q=>
   have e1 : ({ a.put d v with defers:=q :: (a.put d v).defers } : Act).put x.dst undef = (({ a with defers:=q :: a.defers } : Act).put x.dst undef).put d v:=by
    rw [Act.put_defers,Act.put_comm _ v undef h2]
   rw [e1]
   exact hK undef (q :: a.defers) w' h
  case enter f args=>
   refine Calls.mono h fun e w'' he=>?_
   cases e with
   | returned u=>simp only [e0];exact hK u a.defers w'' he
   | panicked c=>exact he
   | outgrown=>exact he
  case row row args=>exact Rows.mono h fun u w'' he=>by rw [e0];exact hK u a.defers w'' he
 | halt x w'=>
  cases x <;> simp only [Oper.upon] at h ⊢
  case panic u=>exact h
theorem wp_mono' {o : Oper} {a : Act} {w : World} {K K' : Act→World→Prop} (h : ∀ a w,K a w→K' a w) (hh : o.wp P a w K QF) : o.wp P a w K' QF:=
 Oper.wp_mono h hh
def good (f g : Nat) : Bool:=(f == 1 && g≤2) || (g == 1 && f≤2) || (f == 2 && g == 2)
theorem step_swap {f g : Nat} {y x : Oper} {K : Act→World→Prop} {a : Act} {w : World} (hg : good f g = true) (hap : y.apart ops x = true)
 (hsy : ∀ cs b,y.op≠.select cs b) (hsx : ∀ cs b,x.op≠.select cs b) (hS : S w∨(f = 2∧g = 2))
 (h : step P ops S f y (step P ops S g x K) a w) : step P ops S g x (step P ops S f y K) a w:=by
 obtain ⟨p1,p2,p3⟩:=Oper.apart_spec hap
 have p2' : ∀ t,x.dst = some t→y.dst≠some t:=fun t ht hy=>p2 t hy ht
 have two : ∀ {S1 S2 : World→Prop},(∃ v,YieldsIf P ops S1 y v a∧∃ u,YieldsIf P ops S2 x u (a.put y.dst v)∧K ((a.put y.dst v).put x.dst u) w)→
  ∃ u,YieldsIf P ops S2 x u a∧∃ v,YieldsIf P ops S1 y v (a.put x.dst u)∧K ((a.put x.dst u).put y.dst v) w:=by
  rintro S1 S2 ⟨v,hv,u,hu,hK⟩
  exact ⟨u,(yields_put hsx p1).1 hu,v,(yields_put hsy p3).2 hv,by rw [Act.put_comm a v u p2] at hK;exact hK⟩
 have cases3 : (f = 1∧g = 0)∨(f = 0∧g = 1)∨((f = 1∨f = 2)∧(g = 1∨g = 2)):=by
  simp only [good,Bool.or_eq_true,Bool.and_eq_true,beq_iff_eq,decide_eq_true_eq] at hg
  omega
 rcases cases3 with ⟨rfl,rfl⟩ | ⟨rfl,rfl⟩ | ⟨hf,hg'⟩
 · have hSw : S w:=by rcases hS with h | ⟨h,_⟩;exact h;cases h
   simp only [step] at h ⊢
   obtain ⟨v,hv,h⟩:=h
   rw [wanted_put x a y.dst v p1] at h
   split
   · rename_i hw
     simp only [hw,if_true] at h
     refine wp_put (ops:=ops) hsx p1 p2 (fun u ds w' hK=>?_) h
     obtain ⟨hS',hK⟩:=hK
     exact ⟨hS',v,(yields_put hsy p3).2 hv,hK⟩
   · rename_i hw
     simp only [hw] at h
     refine ⟨v,(yields_put hsy p3).2 hv,?_⟩
     rw [Act.put_comm a v undef p2] at h
     simpa using h
 · have hSw : S w:=by rcases hS with h | ⟨h,_⟩;exact h;cases h
   simp only [step] at h ⊢
   by_cases hw : Region.wanted y (yielded ops a.tmps) = true
   · simp only [hw,if_true] at h
     -- what x yields is the same at any outcome
     have hx : ∃ u,YieldsIf P ops S x u a:=by
      have h' : y.wp P a w (fun a' w'=>∃ u,YieldsIf P ops S x u a) QF:=by
       have hd : y.wp P (a.put none undef) w (fun a' w'=>S w'∧∃ v,YieldsIf P ops S x v a'∧K (a'.put x.dst v) w') QF:=h
       refine wp_put (ops:=ops) (d:=none) (v:=undef) hsy (by simp) (by simp) (fun u ds w' hK=>?_) hd
       obtain ⟨_,v,hv,_⟩:=hK
       exact ⟨v,(yields_put (a:={ a with defers:=ds }) hsx p1).1 hv⟩
      obtain ⟨_,_,h⟩:=wp_some h'
      exact h
     obtain ⟨u,hu⟩:=hx
     refine ⟨u,hu,?_⟩
     rw [wanted_put y a x.dst u p3]
     simp only [hw,if_true]
     refine wp_unput (ops:=ops) hsy p3 p2' (fun v ds w' hK=>?_) h
     obtain ⟨hS',u',hu',hK⟩:=hK
     have hu0 : YieldsIf P ops S x u' a:=(yields_put (a:={ a with defers:=ds }) hsx p1).1 hu'
     obtain rfl:=yields_one hSw hSw hu hu0
     exact ⟨hS',hK⟩
   · simp only [hw] at h
     obtain ⟨u,hu,hK⟩:=h
     refine ⟨u,(yields_put hsx p1).1 hu,?_⟩
     rw [wanted_put y a x.dst u p3]
     simp only [hw]
     rw [Act.put_comm a undef u p2] at hK
     simpa using hK
 · rcases hf with rfl | rfl <;> rcases hg' with rfl | rfl <;> simp only [step] at h ⊢ <;> exact two h
theorem step_mono {f : Nat} {o : Oper} {K K' : Act→World→Prop} {a : Act} {w : World} (h : ∀ a' w',(f = 0→S w'∨w' = w)→(f = 1∨f = 2→w' = w)→K a' w'→K' a' w')
 (hh : step P ops S f o K a w) : step P ops S f o K' a w:=by
 match f with
 | 0=>
  simp only [step] at hh ⊢
  split
  · rename_i hw;simp only [hw,if_true] at hh;exact wp_mono' (fun a' w' ⟨h1,h2⟩=>⟨h1,h a' w' (fun _=>.inl h1) (by simp) h2⟩) hh
  · rename_i hw;simp only [hw] at hh;exact h _ _ (fun _=>.inr rfl) (by simp) hh
 | 1=>obtain ⟨v,hv,hK⟩:=hh;exact ⟨v,hv,h _ _ (by simp) (fun _=>rfl) hK⟩
 | 2=>obtain ⟨v,hv,hK⟩:=hh;exact ⟨v,hv,h _ _ (by simp) (fun _=>rfl) hK⟩
 | n + 3=>
  simp only [step] at hh ⊢
  split
  · rename_i hw;simp only [hw,if_true] at hh;exact wp_mono' (fun a' w' h2=>h a' w' (by simp) (by simp) h2) hh
  · rename_i hw;simp only [hw] at hh;exact h _ _ (by simp) (by simp) hh
theorem walk_front {x : It} {B : List It} (hsx : ∀ cs b,x.2.2.op≠.select cs b) : ∀ (A : List It) (a : Act) (w : World),
 (∀ y ∈ A,good y.1 x.1 = true∧y.2.2.apart ops x.2.2 = true∧∀ cs b,y.2.2.op≠.select cs b)→(S w∨∀ y ∈ A,x.1 = 2∧y.1 = 2)→
 walk P ops S Q (A ++ x :: B) a w→step P ops S x.1 x.2.2 (walk P ops S Q (A ++ B)) a w:=by
 intro A
 induction A with
 | nil=>intro a w _ _ h;exact h
 | cons y A ih=>
  intro a w hA hS h
  obtain ⟨hg,hap,hsy⟩:=hA y (by simp)
  have hA' : ∀ z ∈ A,good z.1 x.1 = true∧z.2.2.apart ops x.2.2 = true∧∀ cs b,z.2.2.op≠.select cs b:=fun z hz=>hA z (by simp [hz])
  have hf : y.1 = 0∨y.1 = 1∨y.1 = 2:=by
   simp only [good,Bool.or_eq_true,Bool.and_eq_true,beq_iff_eq,decide_eq_true_eq] at hg
   omega
  have h1 : step P ops S y.1 y.2.2 (step P ops S x.1 x.2.2 (walk P ops S Q (A ++ B))) a w:=by
   refine step_mono (fun a' w' h0 h12 hK=>ih a' w' hA' ?_ hK) (show step P ops S y.1 y.2.2 (walk P ops S Q (A ++ x :: B)) a w from h)
   rcases hS with hS | hy
   · rcases hf with hf | hf | hf
     · rcases h0 hf with h | h
       · exact .inl h
       · rw [h];exact .inl hS
     · rw [h12 (.inl hf)];exact .inl hS
     · rw [h12 (.inr hf)];exact .inl hS
   · exact .inr fun z hz=>hy z (by simp [hz])
  exact step_swap hg hap hsy hsx (hS.imp id fun hy=>⟨(hy y (by simp)).2,(hy y (by simp)).1⟩) h1
def closed (ops : Array Oper) (bs : Nat→Nat) : Bool:=
 (List.range ops.size).all fun j=>(List.range j).all fun i=>!(bs j).testBit i ||
  ((ops[j]?).map fun o=>o.after.any fun e=>Region.binds .any e && decide (e.on < j) && (e.on == i || (decide (i < e.on) && (bs e.on).testBit i))).getD false
def pairs (ops : Array Oper) (bs : Nat→Nat) (fl : Nat→Nat) : Bool:=
 (List.range ops.size).all fun j=>(List.range j).all fun i=>(bs j).testBit i ||
  (good (fl i) (fl j) && ((ops[i]?).bind fun x=>(ops[j]?).map fun y=>x.apart ops y).getD false)
def lastOk (n : Nat) (fl : Nat→Nat) : Bool:=
 (List.range n).all fun j=>(List.range j).all fun i=>fl i≤2 || (2≤fl j)
def backOnly (ops : Array Oper) : Bool:=
 (List.range ops.size).all fun j=>((ops[j]?).map fun o=>o.after.all fun e=>!Region.binds .any e || decide (e.on < j)).getD true
structure Ok (ops : Array Oper) (bs fl : Nat→Nat) : Prop where
 sel : Region.noSelect ops = true
 closed : closed ops bs = true
 pairs : pairs ops bs fl = true
 last : lastOk ops.size fl = true
 back : backOnly ops = true
variable {bs fl : Nat→Nat}
theorem Ok.listed_of_waits (hok : Ok ops bs fl) {listed : Array Bool} (hcl : ∀ j oj,ops[j]? = some oj→listed.getD j false = true→∀ e ∈ oj.after,Region.binds .any e = true→listed.getD e.on false = true) :
 ∀ (j i : Nat),i < j→(bs j).testBit i = true→(∀ oj,ops[j]? = some oj→∀ e ∈ oj.after,Region.binds .any e = true→listed.getD e.on false = true)→j < ops.size→listed.getD i false = true:=by
 intro j
 induction j using Nat.strongRecOn with
 | _ j ih=>
  intro i hij hb hall hj
  have h1:=List.all_eq_true.1 hok.closed j (List.mem_range.2 hj)
  have h2:=List.all_eq_true.1 h1 i (List.mem_range.2 hij)
  simp only [hb,Bool.not_true,Bool.false_or] at h2
  have hoj : ops[j]? = some ops[j]:=Array.getElem?_eq_getElem hj
  simp only [hoj,Option.map_some,Option.getD_some] at h2
  obtain ⟨e,he,h3⟩:=Array.any_eq_true'.1 h2
  simp only [Bool.and_eq_true,Bool.or_eq_true,beq_iff_eq,decide_eq_true_eq] at h3
  obtain ⟨⟨hbind,hlt⟩,h3⟩:=h3
  have hl:=hall _ hoj e he hbind
  rcases h3 with h3 | ⟨hi,h3⟩
  · rw [← h3];exact hl
  · exact ih e.on hlt i hi h3 (fun o ho e' he' hb'=>hcl e.on o ho hl e' he' hb') (by omega)
def items (fl : Nat→Nat) (ops : Array Oper) (listed : Array Bool) : List It:=
 ((List.range ops.size).filter fun i=>!listed.getD i true).filterMap fun i=>(ops[i]?).map fun o=>(fl i,i,o)
theorem filter_range_split {n : Nat} {p : Nat→Bool} {i : Nat} (hi : i < n) (hp : p i = true) :
 (List.range n).filter p = (List.range i).filter p ++ i :: ((List.range' (i + 1) (n - i - 1)).filter p):=by
 have e : List.range n = List.range i ++ i :: List.range' (i + 1) (n - i - 1):=by
  rw [List.range_eq_range',List.range_eq_range',show i :: List.range' (i + 1) (n - i - 1) = List.range' i (n - i) by
   rw [show n - i = (n - i - 1) + 1 by omega,List.range'_succ];simp]
  rw [show List.range' i (n - i) = List.range' (0 + 1 * i) (n - i) by simp,List.range'_append]
  congr 1;omega
 rw [e,List.filter_append,List.filter_cons]
 simp [hp]
theorem listed_set {listed : Array Bool} {i j : Nat} (hi : i < listed.size) : (listed.setIfInBounds i true).getD j true = if j = i then true else listed.getD j true:=by
 by_cases h : j = i
 · subst h;simp [hi]
 · simp [h,Array.getElem?_setIfInBounds_ne (Ne.symm h)]
theorem wp_weaken {o : Oper} {a : Act} {w : World} {K K' : Act→World→Prop} (h : ∀ a w,K a w→K' a w) (hh : o.wp P a w K QF) : o.wp P a w K' Q:=by
 unfold Oper.wp at *
 generalize (execOp a.eval o).run P w = r at *
 cases r with
 | ok n w'=>
  cases n <;> simp only [Oper.upon] at hh ⊢
  case value u=>exact h _ _ hh
  case skip=>exact h _ _ hh
  case defer d=>exact h _ _ hh
  case enter f args=>
   refine Calls.mono hh fun e w'' he=>?_
   cases e with
   | returned v=>exact h _ _ he
   | panicked c=>exact he.elim
   | outgrown=>obtain ⟨_,_,h⟩:=he;exact h.elim
  case row row args=>exact Rows.mono hh fun v w'' he=>h _ _ he
 | halt x w'=>
  cases x <;> simp only [Oper.upon] at hh ⊢
  case panic u=>exact hh.elim
theorem mem_items {listed : Array Bool} {y : It} (h : y ∈ items fl ops listed) : y.2.1 < ops.size∧listed.getD y.2.1 true = false∧y.1 = fl y.2.1∧ops[y.2.1]? = some y.2.2:=by
 unfold items at h
 obtain ⟨i,hi,ho⟩:=List.mem_filterMap.1 h
 obtain ⟨hr,hl⟩:=List.mem_filter.1 hi
 have hlt:=List.mem_range.1 hr
 simp only [Bool.not_eq_true'] at hl
 rw [Array.getElem?_eq_getElem hlt] at ho
 simp only [Option.map_some,Option.some.injEq] at ho
 subst ho
 exact ⟨hlt,hl,rfl,Array.getElem?_eq_getElem hlt⟩
theorem items_split {listed : Array Bool} {i : Nat} {o : Oper} (hsz : listed.size = ops.size) (ho : ops[i]? = some o) (hl : listed.getD i true = false) :
 ∃ A B,items fl ops listed = A ++ (fl i,i,o) :: B∧items fl ops (listed.setIfInBounds i true) = A ++ B∧(∀ y ∈ A,y.2.1 < i)∧(∀ y ∈ B,i < y.2.1):=by
 have hlt : i < ops.size:=(Array.getElem?_eq_some_iff.1 ho).1
 have hli : i < listed.size:=by omega
 refine ⟨((List.range i).filter fun i=>!listed.getD i true).filterMap fun i=>(ops[i]?).map fun o=>(fl i,i,o),
  ((List.range' (i + 1) (ops.size - i - 1)).filter fun i=>!listed.getD i true).filterMap fun i=>(ops[i]?).map fun o=>(fl i,i,o),?_,?_,?_,?_⟩
 · unfold items
   rw [filter_range_split hlt (by simp [hl]),List.filterMap_append,List.filterMap_cons]
   simp [ho]
 · unfold items
   have e : List.range ops.size = List.range i ++ i :: List.range' (i + 1) (ops.size - i - 1):=by
    have h:=filter_range_split (n:=ops.size) (p:=fun _=>true) hlt rfl
    rw [List.filter_eq_self.2 (fun _ _=>rfl),List.filter_eq_self.2 (fun _ _=>rfl),List.filter_eq_self.2 (fun _ _=>rfl)] at h
    exact h
   rw [e,List.filter_append,List.filter_cons]
   have hs : listed.setIfInBounds i true = listed.set i true hli:=by simp [Array.setIfInBounds,hli]
   rw [listed_set hli]
   simp only [if_true,Bool.not_true,Bool.false_eq_true,if_false,List.filterMap_append]
   have f1 : (List.range i).filter (fun j=>!(listed.setIfInBounds i true).getD j true) = (List.range i).filter (fun j=>!listed.getD j true):=
    List.filter_congr fun j hj=>by
     have:=List.mem_range.1 hj
     rw [listed_set hli,if_neg (by omega)]
   have f2 : (List.range' (i + 1) (ops.size - i - 1)).filter (fun j=>!(listed.setIfInBounds i true).getD j true) = (List.range' (i + 1) (ops.size - i - 1)).filter (fun j=>!listed.getD j true):=
    List.filter_congr fun j hj=>by
     have:=(List.mem_range'_1.1 hj).1
     rw [listed_set hli,if_neg (by omega)]
   rw [f1,f2]
 · intro y hy
   obtain ⟨k,hk,ho⟩:=List.mem_filterMap.1 hy
   have hk':=List.mem_range.1 (List.mem_filter.1 hk).1
   cases hok : ops[k]? with
   | none=>simp [hok] at ho
   | some ok=>simp [hok] at ho;subst ho;exact hk'
 · intro y hy
   obtain ⟨k,hk,ho⟩:=List.mem_filterMap.1 hy
   have hk':=(List.mem_range'_1.1 (List.mem_filter.1 hk).1).1
   cases hok : ops[k]? with
   | none=>simp [hok] at ho
   | some ok=>simp [hok] at ho;subst ho;dsimp only;omega
theorem any_of_walk (hok : Ok ops bs fl) : ∀ (n : Nat) (listed : Array Bool) (a : Act) (w : World),listed.size = ops.size→
 (items fl ops listed).length≤n→
 (∀ j oj,ops[j]? = some oj→listed.getD j false = true→∀ e ∈ oj.after,Region.binds .any e = true→listed.getD e.on false = true)→
 (S w∨∀ y ∈ items fl ops listed,2≤y.1)→walk P ops S Q (items fl ops listed) a w→wpAny P .any ops Q n listed a w:=by
 have hsel:=Region.noSelect_spec hok.sel
 -- nothing is ready only where nothing is left
 have hnil : ∀ (listed : Array Bool),listed.size = ops.size→Region.ready .any ops listed = []→items fl ops listed = []:=by
  intro listed hsz hr
  have key : ∀ i,i < ops.size→listed.getD i true = true:=by
   intro i
   induction i using Nat.strongRecOn with
   | _ i ih=>
    intro hi
    cases hl : listed.getD i true with
    | true=>rfl
    | false=>
     exfalso
     have : i ∈ Region.ready .any ops listed:=by
      refine mem_ready.2 ⟨hl,ops[i],Array.getElem?_eq_getElem hi,fun e he hb=>?_⟩
      have h1:=List.all_eq_true.1 hok.back i (List.mem_range.2 hi)
      rw [Array.getElem?_eq_getElem hi] at h1
      simp only [Option.map_some,Option.getD_some] at h1
      have h2:=Array.all_eq_true'.1 h1 e he
      simp only [hb,Bool.not_true,Bool.false_or,decide_eq_true_eq] at h2
      have h3:=ih e.on h2 (by omega)
      have : e.on < listed.size:=by omega
      simp [this] at h3 ⊢;exact h3
     rw [hr] at this;cases this
  unfold items
  rw [List.filter_eq_nil_iff.2]
  · rfl
  · intro i hi
    simp [key i (List.mem_range.1 hi)]
 intro n
 induction n with
 | zero=>
  intro listed a w hsz hlen hcl hS h
  have h0 : items fl ops listed = []:=List.length_eq_zero_iff.1 (by omega)
  rw [h0] at h
  refine ⟨?_,h⟩
  cases hr : Region.ready .any ops listed with
  | nil=>rfl
  | cons i rs=>
   exfalso
   have hi : i ∈ Region.ready .any ops listed:=by rw [hr];simp
   obtain ⟨hl,o,ho,_⟩:=mem_ready.1 hi
   obtain ⟨A,B,e,_⟩:=items_split (fl:=fl) hsz ho hl
   rw [h0] at e
   simp at e
 | succ n ih=>
  intro listed a w hsz hlen hcl hS h
  refine ⟨fun hr=>by rw [hnil listed hsz hr] at h;exact h,fun i hi=>?_⟩
  obtain ⟨hl,o,ho,hall⟩:=mem_ready.1 hi
  have hlt : i < ops.size:=(Array.getElem?_eq_some_iff.1 ho).1
  obtain ⟨A,B,e1,e2,hA,hB⟩:=items_split (fl:=fl) hsz ho hl
  have hso:=hsel i o
  have hgood : ∀ y ∈ A,good y.1 (fl i) = true∧y.2.2.apart ops o = true∧∀ cs b,y.2.2.op≠.select cs b:=by
   intro y hy
   obtain ⟨hy1,hy2,hy3,hy4⟩:=mem_items (fl:=fl) (ops:=ops) (listed:=listed) (y:=y) (by rw [e1];simp [hy])
   have hlt':=hA y hy
   have h1:=List.all_eq_true.1 hok.pairs i (List.mem_range.2 hlt)
   have h2:=List.all_eq_true.1 h1 y.2.1 (List.mem_range.2 hlt')
   simp only [Bool.or_eq_true,Bool.and_eq_true] at h2
   rcases h2 with h2 | ⟨h2,h3⟩
   · exfalso
     have h4:=hok.listed_of_waits hcl i y.2.1 hlt' h2 (fun oj hoj e he hb=>by
      have : oj = o:=Option.some.inj (hoj.symm.trans ho)
      subst this;exact hall e he hb) hlt
     have : y.2.1 < listed.size:=by omega
     simp [this] at h4 hy2
     rw [h4] at hy2;cases hy2
   · rw [hy4,ho] at h3
     exact ⟨by rw [hy3];exact h2,by simpa using h3,fun cs b=>hsel y.2.1 y.2.2 cs b hy4⟩
  rw [e1] at h hS hlen
  have hfront:=walk_front (x:=(fl i,i,o)) (B:=B) (fun cs b=>hso cs b ho) A a w hgood
   (hS.imp id fun hy y hyA=>by
    have h1:=hy y (by simp [hyA])
    have h2:=hy (fl i,i,o) (by simp)
    have h3:=(hgood y hyA).1
    simp only [good,Bool.or_eq_true,Bool.and_eq_true,beq_iff_eq,decide_eq_true_eq] at h3
    dsimp only at h2 ⊢
    omega) h
  -- what is asked behind it
  have hsz' : (listed.setIfInBounds i true).size = ops.size:=by simp [hsz]
  have hli : i < listed.size:=by omega
  have hcl' : ∀ j oj,ops[j]? = some oj→(listed.setIfInBounds i true).getD j false = true→∀ e ∈ oj.after,Region.binds .any e = true→(listed.setIfInBounds i true).getD e.on false = true:=by
   intro j oj hj hlj e he hb
   by_cases hij : i = j
   · subst hij
     have : oj = o:=Option.some.inj (hj.symm.trans ho)
     subst this
     exact getD_set_true (hall e he hb)
   · rw [getD_set_ne false hij] at hlj
     exact getD_set_true (hcl j oj hj hlj e he hb)
  have next : ∀ a' w',(S w'∨∀ y ∈ A ++ B,2≤y.1)→walk P ops S Q (A ++ B) a' w'→wpAny P .any ops Q n (listed.setIfInBounds i true) a' w':=by
   intro a' w' hS' h'
   refine ih _ a' w' hsz' ?_ hcl' (by rw [e2];exact hS') (by rw [e2];exact h')
   rw [e2]
   simp only [List.length_append,List.length_cons] at hlen ⊢
   omega
  have keep : (S w∨∀ y ∈ A ++ B,2≤y.1):=hS.imp id fun hy y hyA=>hy y (by
   rcases List.mem_append.1 hyA with h | h <;> simp [h])
  have lastB : 3≤fl i→∀ y ∈ A ++ B,2≤y.1:=by
   intro h3 y hy
   rcases List.mem_append.1 hy with hyA | hyB
   · have h4:=(hgood y hyA).1
     simp only [good,Bool.or_eq_true,Bool.and_eq_true,beq_iff_eq,decide_eq_true_eq] at h4
     omega
   · obtain ⟨hy1,hy2,hy3,hy4⟩:=mem_items (fl:=fl) (ops:=ops) (listed:=listed) (y:=y) (by rw [e1];simp [hyB])
     have h5:=List.all_eq_true.1 hok.last y.2.1 (List.mem_range.2 hy1)
     have h6:=List.all_eq_true.1 h5 i (List.mem_range.2 (hB y hyB))
     simp only [Bool.or_eq_true,decide_eq_true_eq] at h6
     rw [hy3];omega
  dsimp only at hfront
  generalize hfi : fl i = f at hfront lastB
  match f,hfront,lastB with
  | 0,hfront,_=>
   simp only [step] at hfront
   unfold wpOp
   simp only [ho]
   split
   · rename_i hw
     simp only [hw,if_true] at hfront
     exact .inl (wp_weaken (fun a' w' ⟨h1,h2⟩=>next a' w' (.inl h1) h2) hfront)
   · rename_i hw
     simp only [hw] at hfront
     exact next _ _ keep (by simpa using hfront)
  | 1,hfront,_=>
   obtain ⟨v,hv,hK⟩:=hfront
   have hSw : S w:=by
    rcases hS with h | h
    · exact h
    · have:=h (fl i,i,o) (by simp)
      dsimp only at this;omega
   exact hv.wpOp ho hSw (next _ _ keep hK)
  | 2,hfront,_=>
   obtain ⟨v,hv,hK⟩:=hfront
   exact hv.wpOp ho rfl (next _ _ keep hK)
  | m + 3,hfront,lastB=>
   simp only [step] at hfront
   unfold wpOp
   simp only [ho]
   have hb:=lastB (by omega)
   split
   · rename_i hw
     simp only [hw,if_true] at hfront
     exact .inl (wp_weaken (fun a' w' h2=>next a' w' (.inr hb) h2) hfront)
   · rename_i hw
     simp only [hw] at hfront
     exact next _ _ (.inr hb) (by simpa using hfront)
def whole (fl : Nat→Nat) (k : Nat) : List Oper→List It
 | []=>[]
 | o :: l=>(fl k,k,o) :: whole fl (k + 1) l
theorem items_whole : ∀ (l : List Oper) (k : Nat),(∀ j,l[j]? = ops[k + j]?)→
 ((List.range' k l.length).filterMap fun i=>(ops[i]?).map fun o=>(fl i,i,o)) = whole fl k l:=by
 intro l
 induction l with
 | nil=>intro k _;rfl
 | cons o l ih=>
  intro k h
  have h0 : ops[k]? = some o:=by simpa using (h 0).symm
  have ih':=ih (k + 1) (fun j=>by have:=h (j + 1);simpa [Nat.add_assoc,Nat.add_comm 1 j] using this)
  simp only [List.length_cons,List.range'_succ,List.filterMap_cons,h0,Option.map_some,whole,ih']
theorem wp_region_mix {id : Nat} {a : Act} {w : World} {l : List Oper} (S : World→Prop) (bs fl : Nat→Nat) (hm : P.follows .mixedOrders = true) (hok : Ok l.toArray bs fl)
 (hS : S w.drew) (h : walk P l.toArray S Q (whole fl 0 l) a w.drew) : (Code.region id l.toArray true).wp P Q a w:=by
 refine wp_region_any hm (any_of_walk (S:=S) hok _ _ a _ (by simp) ?_ ?_ (.inl hS) ?_)
 · unfold items
   refine Nat.le_trans (List.length_filterMap_le _ _) (Nat.le_trans (List.length_filter_le _ _) ?_)
   simp
 · intro j oj _ hl
   rw [show (Array.replicate l.toArray.size false).getD j false = false by
    rcases Nat.lt_or_ge j l.length with h | h <;> simp [h]] at hl
   cases hl
 · have e : items fl l.toArray (Array.replicate l.toArray.size false) = whole fl 0 l:=by
    rw [← items_whole (ops:=l.toArray) l 0 (by simp)]
    unfold items
    rw [List.filter_eq_self.2]
    · simp [List.range_eq_range']
    · intro i hi
      have:=List.mem_range.1 hi
      simp at this
      simp [this]
   rw [e];exact h
def ValOnly : Sem Next→Prop
 | .pure (.value _)=>True
 | .pure _=>False
 | .load _ _ k=>∀ v,ValOnly (k v)
 | .store _ _ _ k=>ValOnly k
 | .new _ k=>∀ r,ValOnly (k r)
 | .shape _ k=>∀ s,ValOnly (k s)
 | .freeze _ _ k=>ValOnly k
 | .frozen _ k=>∀ b,ValOnly (k b)
 | .getObj _ k=>∀ o,ValOnly (k o)
 | .setObj _ _ k=>ValOnly k
 | .choose _ k=>∀ n,ValOnly (k n)
 | .sys _ k=>∀ r,ValOnly (k r)
 | .program k=>∀ p,ValOnly (k p)
 | .mark _ k=>ValOnly k
 | .halt _=>True
theorem valOnly_bind {α : Type} (s : Sem α) (f : α→Sem Next) (h : ∀ x,ValOnly (f x)) : ValOnly (s.bind f):=by
 induction s <;> simp_all [Sem.bind,ValOnly]
theorem valOnly_run {s : Sem Next} (h : ValOnly s) : ∀ {w w' : World} {n : Next},s.run P w = .ok n w'→∃ v,n = .value v:=by
 induction s with
 | pure a=>
  intro w w' n hr
  cases a <;> first | (simp [ValOnly] at h;done) | (simp only [Sem.run,Result.ok.injEq] at hr;exact ⟨_,hr.1.symm⟩)
 | load m a k ih=>
  intro w w' n hr;simp only [Sem.run] at hr
  split at hr
  · exact ih _ (h _) hr
  · split at hr
    · exact ih _ (h _) hr
    · cases hr
 | store m a v k ih=>
  intro w w' n hr
  have h' : ValOnly k:=h
  unfold Sem.run at hr
  split at hr <;> simp_all
  split at hr
  · split at hr
    · cases hr
    · exact ih hr
  · split at hr
    · exact ih hr
    · cases hr
 | new o k ih=>intro w w' n hr;simp only [Sem.run] at hr;exact ih _ (h _) hr
 | shape r k ih=>intro w w' n hr;simp only [Sem.run] at hr;exact ih _ (h _) hr
 | freeze a m k ih=>intro w w' n hr;simp only [Sem.run] at hr;exact ih h hr
 | frozen a k ih=>intro w w' n hr;simp only [Sem.run] at hr;exact ih _ (h _) hr
 | getObj r k ih=>
  intro w w' n hr;simp only [Sem.run] at hr
  split at hr
  · cases hr
  · exact ih _ (h _) hr
  · cases hr
 | setObj r o k ih=>
  intro w w' n hr;simp only [Sem.run] at hr
  split at hr
  · cases hr
  · exact ih h hr
  · cases hr
 | choose q k ih=>
  intro w w' n hr;simp only [Sem.run] at hr
  split at hr
  · exact ih _ (h _) hr
  · exact ih _ (h _) hr
 | sys c k ih=>intro w w' n hr;simp only [Sem.run] at hr;exact ih _ (h _) hr
 | program k ih=>intro w w' n hr;simp only [Sem.run] at hr;exact ih _ (h _) hr
 | mark m k ih=>intro w w' n hr;simp only [Sem.run] at hr;exact ih h hr
 | halt x=>intro w w' n hr;simp [Sem.run] at hr
def plain : Op→Bool
 | .move _ | .assign _ | .pick .. | .load .. | .fieldAddr .. | .field .. | .unOp .. | .binOp .. | .extract .. | .indexAddr .. | .index .. | .lookup ..
 | .makeInterface .. | .makeFunc .. | .convert .. | .slice .. | .build ..=>true
 | .nilCheck _=>true
 | .call { callee:=.builtin .len,.. } | .call { callee:=.builtin .cap,.. } | .call { callee:=.builtin .max,.. } | .call { callee:=.builtin .min,.. }=>true
 | _=>false
theorem valOnly_value (s : Sem Value) : ValOnly (do pure (.value (← s))):=valOnly_bind s _ fun _=>trivial
theorem valOnly_plain {o : Oper} (h : plain o.op = true) (ρ : Operand→Value) : ValOnly (execOp ρ o):=by
 obtain ⟨dst,op,type,pos,after,guard⟩:=o
 cases op <;> simp only [plain] at h <;> first | cases h | skip
 case nilCheck x=>
  simp only [execOp]
  split
  · exact valOnly_bind _ _ fun _=>trivial
  · exact valOnly_bind _ _ fun _=>trivial
  · exact valOnly_bind _ _ fun _=>trivial
  · split
    · exact valOnly_bind _ _ fun _=>trivial
    · refine valOnly_bind _ _ fun _=>valOnly_bind _ _ fun _=>?_
      split
      · exact valOnly_bind _ _ fun _=>trivial
      · trivial
    · trivial
  · trivial
 case call c=>
  obtain ⟨callee,args,argTypes⟩:=c
  cases callee with
  | value f=>simp at h
  | invoke r m=>simp at h
  | builtin b=>cases b <;> first | (simp at h;done) | exact valOnly_value _
 all_goals first | trivial | exact valOnly_value _ | (simp only [execOp];exact valOnly_bind _ _ fun _=>trivial)
theorem walk_cons {f k : Nat} {o : Oper} {rest : List It} {a : Act} {w : World} (h : ∀ K : Act→World→Prop,(∀ a w,walk P ops S Q rest a w→K a w)→step P ops S f o K a w) :
 walk P ops S Q ((f,k,o) :: rest) a w:=h _ fun _ _ h=>h
theorem walk_nil {a : Act} {w : World} (h : Q .normal a w) : walk P ops S Q [] a w:=h
theorem walk_pin {k : Nat} {o : Oper} {rest : List It} {a : Act} {w : World} (hp : plain o.op = true) (hw : Region.wanted o (yielded ops a.tmps) = true)
 (h : ∀ K : Act→World→Prop,(∀ a',walk P ops S Q rest a' w→K a' w)→o.wp P a w K QF) : walk P ops S Q ((2,k,o) :: rest) a w:=by
 refine walk_cons fun K hK=>?_
 have h1:=h (fun a' w'=>w' = w∧K a' w) (fun a' h=>⟨rfl,hK a' w h⟩)
 simp only [step]
 have hv:=valOnly_plain hp a.eval
 unfold Oper.wp at h1
 cases hr : (execOp a.eval o).run P w with
 | ok n w'=>
  obtain ⟨v,rfl⟩:=valOnly_run hv hr
  rw [hr] at h1
  simp only [Oper.upon] at h1
  obtain ⟨rfl,h1⟩:=h1
  exact ⟨v,.inl ⟨hw,fun w'' hw''=>by rw [hw''];exact hr⟩,h1⟩
 | halt x w'=>
  rw [hr] at h1
  cases x <;> simp only [Oper.upon] at h1
  exact h1.elim
theorem walk_pass2 {k : Nat} {o : Oper} {rest : List It} {a : Act} {w : World} (hw : Region.wanted o (yielded ops a.tmps) = false)
 (h : walk P ops S Q rest (a.put o.dst undef) w) : walk P ops S Q ((2,k,o) :: rest) a w:=⟨undef,.inr ⟨hw,rfl⟩,h⟩
theorem walk_last {k : Nat} {o : Oper} {rest : List It} {a : Act} {w : World} (hw : Region.wanted o (yielded ops a.tmps) = true)
 (h : ∀ K : Act→World→Prop,(∀ a' w',walk P ops S Q rest a' w'→K a' w')→o.wp P a w K QF) : walk P ops S Q ((3,k,o) :: rest) a w:=by
 refine walk_cons fun K hK=>?_
 simp only [step]
 rw [if_pos hw]
 exact h _ hK
theorem wanted_none {o : Oper} {f : Nat→Option Bool} (h : o.guard = none) : Region.wanted o f = true:=by simp [Region.wanted,h]
theorem wanted_yes {o : Oper} {tmps : Array Value} {j d : Nat} {b : Bool} (h : o.guard = some (j,b)) (hd : (ops[j]?).bind (·.dst) = some d) (hb : tmps[d]? = some (.bool b)) :
 Region.wanted o (yielded ops tmps) = true:=by
 cases ho : ops[j]? with
 | none=>rw [ho] at hd;cases hd
 | some oj=>
  rw [ho] at hd
  simp only [Option.bind_some] at hd
  simp [Region.wanted,h,yielded,ho,hd,hb]
theorem wanted_not {o : Oper} {tmps : Array Value} {j d : Nat} {b : Bool} (h : o.guard = some (j,b)) (hd : (ops[j]?).bind (·.dst) = some d) (hb : tmps[d]? = some (.bool (!b))) :
 Region.wanted o (yielded ops tmps) = false:=by
 cases ho : ops[j]? with
 | none=>rw [ho] at hd;cases hd
 | some oj=>
  rw [ho] at hd
  simp only [Option.bind_some] at hd
  simp [Region.wanted,h,yielded,ho,hd,hb]
theorem pin_no {k : Nat} {o : Oper} {rest : List It} {a : Act} {w : World} (hg : o.guard = none) (hp : plain o.op = true)
 (h : ∀ K : Act→World→Prop,(∀ a',walk P ops S Q rest a' w→K a' w)→o.wp P a w K QF) : walk P ops S Q ((2,k,o) :: rest) a w:=walk_pin hp (wanted_none hg) h
theorem pin_yes {k : Nat} {o : Oper} {rest : List It} {a : Act} {w : World} {j d : Nat} {b : Bool} (hg : o.guard = some (j,b)) (hd : (ops[j]?).bind (·.dst) = some d) (hb : a.tmps[d]? = some (.bool b)) (hp : plain o.op = true)
 (h : ∀ K : Act→World→Prop,(∀ a',walk P ops S Q rest a' w→K a' w)→o.wp P a w K QF) : walk P ops S Q ((2,k,o) :: rest) a w:=walk_pin hp (wanted_yes hg hd hb) h
theorem pin_not {k : Nat} {o : Oper} {rest : List It} {a : Act} {w : World} {j d t : Nat} {b : Bool} (hg : o.guard = some (j,b)) (hd : (ops[j]?).bind (·.dst) = some d) (hb : a.tmps[d]? = some (.bool (!b))) (ht : o.dst = some t)
 (h : ∀ K : Act→World→Prop,(∀ a',walk P ops S Q rest a' w→K a' w)→K { tmps:=a.tmps.setIfInBounds t undef,defers:=a.defers } w) : walk P ops S Q ((2,k,o) :: rest) a w:=
 walk_pass2 (wanted_not hg hd hb) (by rw [ht];exact h (fun a' _=>walk P ops S Q rest a' w) (fun a' h=>h))
theorem last_no {k : Nat} {o : Oper} {rest : List It} {a : Act} {w : World} (hg : o.guard = none)
 (h : ∀ K : Act→World→Prop,(∀ a' w',walk P ops S Q rest a' w'→K a' w')→o.wp P a w K QF) : walk P ops S Q ((3,k,o) :: rest) a w:=
 walk_last (wanted_none hg) h
end
end Go.Mix
set_option linter.unusedVariables false
set_option linter.unusedSimpArgs false
namespace Go.Proofs.YtbblomnhobodkaaDoor
open Go.RowKit
structure Chg (M : Nat→Prop) (w w' : World) : Prop where
 os : w'.os = w.os
 tape : w'.tape = w.tape
 output : w'.output = w.output
 size : w.heap.size≤w'.heap.size
 block : ∀ k,k < w.heap.size→¬ M k→w'.heap[k]? = w.heap[k]?
abbrev none_ : Nat→Prop:=fun _=>False
theorem Chg.refl (M : Nat→Prop) (w : World) : Chg M w w:=⟨rfl,rfl,rfl,Nat.le_refl _,fun _ _ _=>rfl⟩
theorem Chg.trans {M M' : Nat→Prop} {a b c : World} (h : Chg M a b) (k : Chg M' b c) (hM : ∀ i,i < a.heap.size→M' i→M i) : Chg M a c:=
 ⟨k.os.trans h.os,k.tape.trans h.tape,k.output.trans h.output,Nat.le_trans h.size k.size,
  fun i hi hn=>(k.block i (Nat.lt_of_lt_of_le hi h.size) (fun h'=>hn (hM i hi h'))).trans (h.block i hi hn)⟩
theorem Chg.mono {M M' : Nat→Prop} {a b : World} (h : Chg M a b) (hM : ∀ i,i < a.heap.size→M i→M' i) : Chg M' a b:=
 ⟨h.os,h.tape,h.output,h.size,fun i hi hn=>h.block i hi fun h'=>hn (hM i hi h')⟩
theorem Chg.drew {M : Nat→Prop} {a w : World} (h : Chg M a w) : Chg M a w.drew:=⟨h.os,h.tape,h.output,h.size,h.block⟩
theorem heap_alloc_lt {w : World} {o : Obj} {k : Nat} (h : k < w.heap.size) : (w.alloc o).heap[k]? = w.heap[k]?:=by
 exact Below.heap_alloc w o k h
theorem heap_alloc_at {w : World} {o : Obj} : (w.alloc o).heap[w.heap.size]? = some o:=by
 show (w.heap.push o)[w.heap.size]? = some o
 simp
theorem Chg.alloc {M : Nat→Prop} {a w : World} (h : Chg M a w) (o : Obj) : Chg M a (w.alloc o):=
 ⟨h.os,h.tape,h.output,by simp;have:=h.size;omega,fun i hi hn=>by rw [heap_alloc_lt (Nat.lt_of_lt_of_le hi h.size)];exact h.block i hi hn⟩
theorem heap_setCell_ne {w : World} {a : Addr} {v : Value} {k : Nat} (h : k≠a.block) : (w.setCell a v).heap[k]? = w.heap[k]?:=Below.heap_setCell w a v k h
theorem Chg.setCell {M : Nat→Prop} {a w : World} (h : Chg M a w) {p : Addr} (hp : M p.block∨a.heap.size≤p.block) (v : Value) : Chg M a (w.setCell p v):=
 ⟨h.os,h.tape,h.output,by simpa using h.size,fun i hi hn=>by
  rw [heap_setCell_ne (by rintro rfl;rcases hp with hp | hp;exact hn hp;omega)];exact h.block i hi hn⟩
theorem Chg.below {M : Nat→Prop} {w w' : World} (h : Chg M w w') {B : Nat} (hB : B≤w.heap.size) (hM : ∀ k,k < B→¬ M k) : Below B w w':=
 ⟨h.os,h.tape,h.output,h.size,fun k hk=>h.block k (Nat.lt_of_lt_of_le hk hB) (hM k hk)⟩
theorem cell_of {w : World} {b : Nat} {c : Array Value} {t : TypeId} {f : Nat × Nat} (h : w.heap[b]? = some (.cells c t f)) (i : Nat) : w.cell? ⟨b,i,none⟩ = c[i]?:=by
 simp [World.cell?,h]
theorem cell_eq {w w' : World} {b i : Nat} (h : w'.heap[b]? = w.heap[b]?) : w'.cell? ⟨b,i,none⟩ = w.cell? ⟨b,i,none⟩:=by simp [World.cell?,h]
theorem frozen_eq {w w' : World} {b i : Nat} (h : w'.heap[b]? = w.heap[b]?) : w'.frozen? ⟨b,i,none⟩ = w.frozen? ⟨b,i,none⟩:=by simp [World.frozen?,h]
theorem Chg.cells {M : Nat→Prop} {w w' : World} (h : Chg M w w') : (∀ b o,b < w.heap.size→¬ M b→w'.cell? ⟨b,o,none⟩ = w.cell? ⟨b,o,none⟩)∧(∀ b o,b < w.heap.size→¬ M b→w'.frozen? ⟨b,o,none⟩ = w.frozen? ⟨b,o,none⟩):=
 ⟨fun b o hb hn=>cell_eq (h.block b hb hn),fun b o hb hn=>frozen_eq (h.block b hb hn)⟩
end Go.Proofs.YtbblomnhobodkaaDoor
set_option linter.unusedVariables false
set_option linter.unusedSimpArgs false
namespace Go.Proofs.YtbblomnhobodkaaDoor
open Go.RowKit Go.Shelf
def Yields {α : Type} (F : Fence) (n : Nat) (P : Program) (g : Nat) (lb : Array Value) (encs : α→Array Value) (A : Addr) (Kp : World→World→Prop) (xs : List α) (w : World) : Prop:=
 ∀ (l : Nat) (J : List α→World→Prop) (W : World),Below w.heap.size w W→
  (∀ s W v,J s W→J s (W.setCell A v))→(∀ s W,J s W→J s W.drew)→(∀ s W o,J s W→J s (W.alloc o))→
  (∀ pre x W1,J pre W1→(pre ++ [x]) <+: xs→YieldAt F (n - 1) P l (encs x) W1 fun e W'=>e = .returned (.bool true)∧J (pre ++ [x]) W'∧Kp W1 W')→
  J [] W→CallsIn F n P g (#[.func (.yield l) #[] #[]] ++ lb) W fun e W'=>(∃ v,e = .returned v)∧J xs W'
def goesOn {α : Type} (Kp : World→World→Prop) (I : List α→World→Prop) (xs : List α) (W : World) : Exit→Act→World→Prop
 | .normal,_,W'=>KeepsOthers W W'∧Kp W W'∧I xs W'
 | _,_,_=>False
theorem other_putObj (W : World) (l k : Nat) (o : Obj) (h : k≠l) : (W.putObj l o).heap[k]? = W.heap[k]?:=World.putObj_heap_other h
variable {F : Fence} {n : Nat} {P : Program}
theorem wpIn_rangeFunc_cell {α : Type} {g : Operand} {ps : Array Tmp} {assign body : Code} {Q : Exit→Act→World→Prop} {a : Act} {w : World}
 (hro : F.round = none) (h1 : 1≤n) {gf : Nat} {lb : Array Value} (hg : a.eval g = .func (.func gf) #[] lb) (hFg : F.fn gf) (eg : ∀ args w,(callFunc gf args).run P w = .ok (.enter gf args) w)
 {encs : α→Array Value} {A : Addr} {Kp : World→World→Prop} {xs : List α} (hseq : Yields F (n - 1) P gf lb encs A Kp xs w)
 (hKt : ∀ {A B C : World},Kp A B→Kp B C→Kp A C) (hKb : ∀ (W : World) (l : Nat) (o o' : Obj),w.heap.size≤l→W.heap[l]? = some o→o.isCells = false→Kp W (W.putObj l o')) (hps : ∀ x,(encs x).size = ps.size)
 (I : List α→World→Prop) (hI : OwnFrom w.heap.size I) (hIA : ∀ s W v,I s W→I s (W.setCell A v)) (hId : ∀ s W,I s W→I s W.drew) (h0 : I [] w) (a₁ : α→Act)
 (hassign : ∀ (l : Nat) (x : α) (W : World) (K : Act→World→Prop),K (a₁ x) W→
  assign.wpIn (F.inRound l) (n - 1 - 1) P (Exit.then K (fun _ _ _=>False)) { tmps:=(ps.zip (encs x)).foldl (fun t (p,v)=>t.setIfInBounds p v) a.tmps,defers:=[] } W)
 (hbody : ∀ (l : Nat) (pre : List α) (x : α) (W : World),I pre W→(pre ++ [x]) <+: xs→body.wpIn (F.inRound l) (n - 1 - 1) P (goesOn Kp I (pre ++ [x]) W) (a₁ x) W)
 (hdone : ∀ (D : Nat) (W : World),w.heap.size≤D→I xs W→W.heap[D]? = some (.deferred (some []))→Q .normal { a with defers:={ target:=.collected D,args:=#[] } :: a.defers } W) :
 (Code.rangeFunc g ps assign body).wpIn F n P Q a w:=by
 refine wpIn_rangeFunc ?_
 intro fn hfn
 rw [hro]
 let rec_ : LoopState→Option Code→Loop:=fun st pe=>{ state:=st,pending:=pe,fn,tmps:=a.tmps,params:=ps,assign,body,defers:=w.heap.size }
 let D:=w.heap.size
 let W1:=(w.alloc (.deferred (some []))).alloc (.loop (rec_ .ready none))
 let Bk (W : World) : Prop:=W.heap[D + 1]? = some (.loop (rec_ .ready none))∧W.heap[D]? = some (.deferred (some []))
 have hW1 : Bk W1:=⟨by have:=World.alloc_heap_new (w.alloc (.deferred (some []))) (.loop (rec_ .ready none));rwa [World.size_alloc] at this,
  (Below.heap_alloc _ _ _ (by simp [D])).trans (World.alloc_heap_new w _)⟩
 have hkeep : ∀ {W W' : World},KeepsOthers W W'→Bk W→Bk W':=fun hk hb=>⟨hk.same _ _ hb.1 rfl,hk.same _ _ hb.2 rfl⟩
 have hb1 : Below w.heap.size w W1:=((Below.refl _ w).alloc (Nat.le_refl _) _).alloc (by simp) _
 have turn : ∀ {s : List α} {W : World} {o : Obj} (o' : Obj),I s W→W.heap[D + 1]? = some o→o.isCells = false→I s (W.putObj (D + 1) o'):=fun o' hi hl hc=>hI.putObj o' hi (by simp only [D];omega) hl hc
 refine ⟨D + 1,[{ target:=.collected D,args:=#[] }],W1,{ target:=.fn (.func gf) lb,args:=#[.func (.yield (D + 1)) #[] #[]] },W1,gf,
  #[.func (.yield (D + 1)) #[] #[]] ++ lb,W1,run_enterLoop_outer _ _ _ _ _,?_,?_,?_,fun _=>h1,?_⟩
 · simp only [resolve,hg];simp [go_sem]
 · intro f' hf';simp [Target.leads] at hf';subst hf';exact hFg
 · simp [invoke,go_sem,eg]
 refine (hseq (D + 1) (fun pre W=>I pre W∧Bk W) W1 hb1 (fun s W v h=>⟨hIA s W v h.1,hkeep (KeepsOthers.setCell W A v) h.2⟩) (fun s W h=>⟨hId s W h.1,h.2⟩)
  (fun s W o h=>⟨hI.alloc o h.1,hkeep (KeepsOthers.alloc W o) h.2⟩) ?_ ⟨hI.alloc _ (hI.alloc _ h0),hW1⟩).mono ?_
 · rintro pre x W ⟨hi,hl,hk⟩ hpre
   have hy:=run_yield (P:=P) (args:=encs x) hl (hps x)
   refine ⟨fn,_,assign,body,hy,roundIn_of_wpIn hfn (hassign _ x W _ ⟨_,run_beginRound hl rfl,?_⟩)⟩
   have hlt : D + 1 < W.heap.size:=(Array.getElem?_eq_some_iff.1 hl).1
   have hl2 : (W.putObj (D + 1) (.loop { rec_ .ready none with state:=.busy })).heap[D + 1]? = some (.loop { rec_ .ready none with state:=.busy }):=World.putObj_heap_same hlt
   have hk2 : (W.putObj (D + 1) (.loop { rec_ .ready none with state:=.busy })).heap[D]? = some (.deferred (some [])):=(other_putObj _ _ _ _ (by omega)).trans hk
   have hw2 : Kp W (W.putObj (D + 1) (.loop { rec_ .ready none with state:=.busy })):=hKb _ _ _ _ (by simp only [D];omega) hl rfl
   refine wpIn_mono (hbody _ pre x _ (turn _ hi hl rfl) hpre) ?_
   rintro e a3 W3 hp
   cases e with
   | normal=>
    obtain ⟨hk3,hkp3,hi3⟩:=hp
    have hl3:=hk3.same _ _ hl2 rfl
    have hr:=run_endRound (P:=P) none hl3
    exact ⟨_,_,hr,rfl,⟨turn _ hi3 hl3 rfl,World.putObj_heap_same (Array.getElem?_eq_some_iff.1 hl3).1,(other_putObj _ _ _ _ (by omega)).trans (hk3.same _ _ hk2 rfl)⟩,
     hKt (hKt hw2 hkp3) (hKb _ _ _ _ (by simp only [D];omega) hl3 rfl)⟩
   | _=>exact hp.elim
 · rintro e W2 ⟨⟨v,rfl⟩,hi,hl,hk⟩
   exact ⟨none,_,run_endLoop (P:=P) hl (by simp [rec_]),hdone _ _ (Nat.le_refl _) (turn _ hi hl rfl) ((other_putObj _ _ _ _ (by omega)).trans hk)⟩
end Go.Proofs.YtbblomnhobodkaaDoor
namespace Go.Proofs
open Go.Shelf
def Tryd.laysNm225_ren : Go.Shelf.Ren:=⟨fun | 25=>53 | 31=>72 | 32=>73 | 37=>82 | n=>n,fun | 22=>27 | 3=>3 | 4=>4 | 40=>87 | 0=>0 | n=>n,fun | n=>n⟩
theorem Tryd.laysNm225 : Go.Proofs.Lays2.n25 Tryd.prog Tryd.laysNm225_ren:={
 mixed:=by kernel_rfl
 f25:=Tryd.func53.trans (congrArg some (by kernel_rfl))
 f31:=Tryd.func72.trans (congrArg some (by kernel_rfl))
 f32:=Tryd.func73.trans (congrArg some (by kernel_rfl))
 f37:=Tryd.func82.trans (congrArg some (by kernel_rfl))
 t0:=Tryd.underlying0
 a0:=Tryd.isAgg0
 z0:=Tryd.sizeOf0
 v0:=Tryd.zeroValue0
 t3:=Tryd.underlying3
 a3:=Tryd.isAgg3
 z3:=Tryd.sizeOf3
 v3:=Tryd.zeroValue3
 t4:=Tryd.underlying4
 a4:=Tryd.isAgg4
 z4:=Tryd.sizeOf4
 v4:=Tryd.zeroValue4
 t22:=Tryd.underlying27
 a22:=Tryd.isAgg27
 z22:=Tryd.sizeOf27
 v22:=Tryd.zeroValue27
 t40:=Tryd.underlying87
 a40:=Tryd.isAgg87
 z40:=Tryd.sizeOf87
 v40:=Tryd.zeroValue87 }
open Go.RowKit Go.Lib in
theorem Tryd.slices_BinarySearch_int (b off n c : Nat) (zs : List Int) (x : Int) (w : World) (hz : n≤zs.length) (hbig : n < 4611686018427387904) (hc : ∀ j,j < zs.length→w.cell? ⟨b,off + j,none⟩ = some (.int .i64 (zs.getD j 0))) (hs : (zs.take n).Pairwise (·≤·)) :
 Calls Tryd.prog 53 #[.slice (some ⟨b,off,none⟩) n c,.int .i64 x] w fun e w'=>e = .returned (.tuple #[.int .i64 ((zs.take n).countP (· < x) : Nat),.bool ((zs.take n).contains x)])∧∃ q,w' = w.drewN q:=Any.slices_BinarySearch_int Tryd.laysNm225 b off n c zs x w hz hbig hc hs
open Go.RowKit Go.Lib in
theorem Tryd.slices_BinarySearch_int_empty (a : Option Addr) (c : Nat) (x : Int) (w : World) :
 Calls Tryd.prog 53 #[.slice a 0 c,.int .i64 x] w fun e w'=>e = .returned (.tuple #[.int .i64 0,.bool false])∧w' = w:=Any.slices_BinarySearch_int_empty Tryd.laysNm225 a c x w
end Go.Proofs
namespace Go.Proofs.YtbblomnhobodkaaDoor.PTw
open Go.RowKit Go.Proofs.YtbblomnhobodkaaDoorW.PW Go.Proofs.YtbblomnhobodkaaDoorW.PL Go.Proofs.YtbblomnhobodkaaDoorW.PM
attribute [local go_sem] max2_int min2_int max_two min_two max_three min_three max_four min_four   -- for this text's walks alone
set_option linter.unusedVariables false
set_option linter.unusedSimpArgs false
theorem Kd.C_none_ {α : Type} {d : Kd α} {w : World} {n : Nat} {xs : List α} (h : d.C w none n xs) : xs = []:=by
 obtain ⟨hl,_,hn⟩:=h
 by_cases h0 : 0 < n
 · obtain ⟨ad,he,_⟩:=hn h0
   cases he
 · exact List.eq_nil_of_length_eq_zero (by omega)
theorem Kd.V_none_ {α : Type} {d : Kd α} {e : Nat} {w : World} {base n c : Nat} {ok : Nat→Prop} {xs : List α} (h : Kd.V d e w base ok (.slice none n c) xs) : xs = []:=by
 obtain ⟨A,c',he,_,hF⟩:=h
 injection he with ha _ _
 subst ha
 exact Kd.C_none_ (Kd.F_now hF)
structure CpIs (W : World) (base : Nat) (v : Value) (x : Nat) (l : List S29) : Prop where
 h : ∃ (f : Nat→Nat) (rows : List (List Value)),rows.length = l.length∧(Kd.raw 6).R 29 W base (fun k=>some k = v.ownBlock) v rows∧
  ∀ (j : Nat) (p : S29) (c : List Value),l[j]? = some p→rows[j]? = some c→(j < x→k29.M W base (fun k=>some k≠v.ownBlock∧f k = j) p c)∧(x≤j→Kd.FK k29 W (fun k=>some k≠v.ownBlock) p c)
theorem CpIs.ofN {W : World} {base : Nat} {ok : Nat→Prop} {v : Value} {l : List S29} (h : Kd.N k29 29 W base ok v l) : CpIs W base v 0 l:=by
 obtain ⟨_,rows,hl,hR,hf⟩:=h
 exact ⟨fun _=>0,rows,hl,hR,fun j p c hp hc=>⟨fun h0=>absurd h0 (by omega),fun _=>Kd.FK_mono (hf j p c hp hc) (fun _ hk=>hk.2)⟩⟩
theorem CpIs.below {W W1 : World} {base x : Nat} {v : Value} {l : List S29} (h : CpIs W base v x l) (hb : Below W.heap.size W W1) : CpIs W1 base v x l:=by
 obtain ⟨f,rows,hl,hR,hf⟩:=h
 exact ⟨f,rows,hl,Kd.R_below hR hb,fun j p c hp hc=>⟨fun h0=>Kd.M_step ((hf j p c hp hc).1 h0) (fun k _ hk=>hb.block k hk),fun h0=>Kd.FK_step ((hf j p c hp hc).2 h0) (fun k _ hk=>hb.block k hk)⟩⟩
theorem CpIs.S {W : World} {base : Nat} {v : Value} {l : List S29} (h : CpIs W base v l.length l) : Kd.S k29 29 W base (fun _=>True) v l:=by
 obtain ⟨f,rows,hl,hR,hf⟩:=h
 obtain ⟨_,inner,ho,hr⟩:=hR
 refine ⟨f,fun _ _=>trivial,inner,by rw [List.length_zipIdx,← hl];exact ho,by rw [List.length_zipIdx,← hl];exact hr.1,fun j p hj=>?_⟩
 rw [List.getElem?_zipIdx,Nat.zero_add] at hj
 obtain ⟨q,hq,rfl⟩:=Option.map_eq_some_iff.1 hj
 have hjl : j < l.length:=(List.getElem?_eq_some_iff.1 hq).1
 have hc : rows[j]? = some rows[j]:=List.getElem?_eq_getElem (by omega)
 have h1:=(hf j q _ hq hc).1 hjl
 have h2:=(hr.2 j _ hc).1
 have h3 : (inner.drop (j * 6)).take 6 = rows[j]:=h2
 show k29.M W base _ q ((inner.drop (j * 6)).take 6)
 rw [h3]
 exact k29.M_mono (fun k hk=>⟨⟨trivial,hk.1⟩,hk.2⟩) h1
theorem CpIs.get {W : World} {base x n cap g : Nat} {l : List S29} (h : CpIs W base (.slice (some ⟨g,0,none⟩) n cap) x l) (hx : x < l.length) :
 ∃ A c,W.cell? ⟨g,x * 6 + 5,none⟩ = some (.slice A (rd_T29 l x).f5.length c)∧(rd_T29 l x).f5.length≤c∧Kd.C (Kd.int .i64) W A (rd_T29 l x).f5.length (rd_T29 l x).f5∧W.frozen? ⟨g,x * 6 + 5,none⟩ = false:=by
 obtain ⟨f,rows,hl,hR,hf⟩:=h
 have hn:=(Kd.R_reads' hR).1
 have hp : l[x]? = some (rd_T29 l x):=by
  unfold rd_T29
  rw [Int.toNat_natCast,List.getD_eq_getElem?_getD,List.getElem?_eq_getElem hx]
  rfl
 obtain ⟨c,hcl,hM,hcc,hfz⟩:=Kd.R_elem hR [] (x : Int) (by omega) (by omega)
 rw [Int.toNat_natCast] at hM hcc hfz
 have hrx : rows[x]? = some c:=by
  have h1:=hM.1
  rw [List.getD_eq_getElem?_getD,List.getElem?_eq_getElem (show x < rows.length by omega)] at h1
  rw [List.getElem?_eq_getElem (show x < rows.length by omega),h1]
  rfl
 obtain ⟨A5,c5,hce,l5,hF⟩:=k29_openF ((hf x _ _ hp hrx).2 (Nat.le_refl _))
 exact ⟨A5,c5,hcc 5 _ (by rw [hce];rfl),l5,Kd.F_now hF,hfz 5⟩
theorem CpIs.put {W W1 : World} {base x n cap g : Nat} {u : Value} {l : List S29} (h : CpIs W base (.slice (some ⟨g,0,none⟩) n cap) x l) (hx : x < l.length) (hb : Below W.heap.size W W1) (hu : Kd.R (Kd.int .i64) 3 W1 W.heap.size (fun _=>True) u (rd_T29 l x).f5) :
 CpIs (W1.setCell ⟨g,x * 6 + 5,none⟩ u) base (.slice (some ⟨g,0,none⟩) n cap) (x + 1) l∧base≤g∧g < W.heap.size:=by
 obtain ⟨f,rows,hl,hR,hf⟩:=h
 have hbg : base≤g:=Kd.R_base hR g (by simp [Value.ownBlock])
 have hgl : g < W.heap.size:=Kd.R_lt hR g (by simp [Value.ownBlock])
 have hbW : base≤W.heap.size:=by omega
 refine ⟨?_,hbg,hgl⟩
 have hn:=(Kd.R_reads' hR).1
 have hp : l[x]? = some (rd_T29 l x):=by
  unfold rd_T29
  rw [Int.toNat_natCast,List.getD_eq_getElem?_getD,List.getElem?_eq_getElem hx]
  rfl
 have hR1:=Kd.R_below hR hb
 obtain ⟨c,hcl,hM,hcc,_⟩:=Kd.R_elem hR1 [] (x : Int) (by omega) (by omega)
 rw [Int.toNat_natCast] at hM
 have hrx : rows[x]? = some c:=by
  have h1:=hM.1
  rw [List.getD_eq_getElem?_getD,List.getElem?_eq_getElem (show x < rows.length by omega)] at h1
  rw [List.getElem?_eq_getElem (show x < rows.length by omega),h1]
  rfl
 obtain ⟨A5,c5,hce,l5,hF⟩:=k29_openF ((hf x _ _ hp hrx).2 (Nat.le_refl _))
 obtain ⟨hset,_⟩:=Kd.R_seg (okp:=fun _=>False) (seg:=[u]) (j:=5) (x':=c.take 5 ++ [u] ++ c.drop 6) hR1 (x : Int) (by omega) (by omega) hcl hcc (by show 5 + 1≤6;omega)
  ⟨rfl,by simp [hce],fun q hq=>by
   rw [hce] at hq
   simp at hq
   rcases hq with rfl | rfl | rfl | rfl | rfl | rfl
   · rfl
   · rfl
   · rfl
   · rfl
   · rfl
   · exact (Kd.R_val hu).2⟩ (fun _ hk=>hk.elim)
 rw [Int.toNat_natCast] at hset
 have hset2 : (Kd.raw 6).R 29 (W1.setCell ⟨g,x * 6 + 5,none⟩ u) base (fun k=>some k = (Value.slice (some ⟨g,0,none⟩) n cap).ownBlock) (.slice (some ⟨g,0,none⟩) n cap) (rows.set x (c.take 5 ++ [u] ++ c.drop 6)):=hset
 have hheap : ∀ k,k≠g→(W1.setCell ⟨g,x * 6 + 5,none⟩ u).heap[k]? = W1.heap[k]?:=fun k hk=>Below.heap_setCell W1 ⟨g,x * 6 + 5,none⟩ u k hk
 have hold : ∀ k,some k≠(Value.slice (some ⟨g,0,none⟩) n cap).ownBlock→k < W.heap.size→(W1.setCell ⟨g,x * 6 + 5,none⟩ u).heap[k]? = W.heap[k]?:=fun k hk hlt=>(hheap k (fun e=>hk (by rw [e];rfl))).trans (hb.block k hlt)
 refine ⟨fun k=>if W.heap.size≤k then x else f k,rows.set x (c.take 5 ++ [u] ++ c.drop 6),by rw [List.length_set];exact hl,hset2,fun j p cj hj hcj=>?_⟩
 by_cases hjx : j = x
 · subst hjx
   rw [hp] at hj
   injection hj with hj
   subst hj
   rw [List.getElem?_set_self (by omega)] at hcj
   injection hcj with hcj
   refine ⟨fun _=>?_,fun h0=>absurd h0 (by omega)⟩
   have hu2:=Kd.R_bound (Kd.R_tight rfl hu)
   have hu3 : Kd.R (Kd.int .i64) 3 (W1.setCell ⟨g,j * 6 + 5,none⟩ u) base (fun k=>some k≠(Value.slice (some ⟨g,0,none⟩) n cap).ownBlock∧(if W.heap.size≤k then j else f k) = j) u (rd_T29 l j).f5:=
    Kd.R_mono (Kd.R_lower (Kd.R_move hu2 (fun k hk=>hheap k (by have:=hk.2.1;omega))) hbW) (fun k hk=>⟨fun e=>by have h1:=hk.2.1;simp [Value.ownBlock] at e;omega,if_pos hk.2.1⟩)
   have h4:=k29_mkM _ base _ (rd_T29 l j) hu3
   rw [← hcj,hce]
   exact h4
 · rw [List.getElem?_set_ne (fun e=>hjx e.symm)] at hcj
   refine ⟨fun h0=>?_,fun h0=>?_⟩
   · have h1:=k29.M_bound ((hf j p cj hj hcj).1 (by omega))
     have h2:=Kd.M_step h1 (fun k hk hlt=>hold k hk.1.1 hlt)
     exact k29.M_mono (fun k hk=>⟨hk.1.1,by
      have h3:=hk.2.2.1
      show (if W.heap.size≤k then x else f k) = j
      rw [if_neg (by omega)]
      exact hk.1.2⟩) h2
   · exact Kd.FK_step ((hf j p cj hj hcj).2 (by omega)) (fun k hk hlt=>hold k hk hlt)
class Mv (w w' : World) : Prop where
 b : Below w.heap.size w w'
instance mv_refl (w : World) : Mv w w:=⟨Below.refl _ _⟩
instance mv_alloc (w w1 : World) (o : Obj) [h : Mv w w1] : Mv w (w1.alloc o):=⟨bwA h.b o⟩
instance mv_drew (w w1 : World) [h : Mv w w1] : Mv w w1.drew:=⟨below_drew h.b⟩
instance mv_drewN (w w1 : World) (n : Nat) [h : Mv w w1] : Mv w (w1.drewN n):=⟨bwN h.b n⟩
section
variable {α : Type} {d : Kd α} {e base n : Nat} {ok : Nat→Prop} {w w' : World} {v : Value} {xs : List α} {A : Option Addr} {g : Nat} {o : Obj}
theorem bmv {w0 : World} (h : Below w0.heap.size w0 w) [m : Mv w w'] : Below w0.heap.size w0 w':=bwT h m.b
theorem R_mv (h : Kd.R d e w base ok v xs) [m : Mv w w'] : Kd.R d e w' base ok v xs:=Kd.R_below h m.b
theorem S_mv (h : Kd.S d e w base ok v xs) [m : Mv w w'] : Kd.S d e w' base ok v xs:=Kd.S_below h m.b
theorem N_mv (h : Kd.N d e w base ok v xs) [m : Mv w w'] : Kd.N d e w' base ok v xs:=Kd.N_below h m.b
theorem V_mv (h : Kd.V d e w base ok v xs) [m : Mv w w'] : Kd.V d e w' base ok v xs:=Kd.V_below h m.b
theorem C_mv (h : Kd.C d w A n xs) [m : Mv w w'] : Kd.C d w' A n xs:=Kd.C_below h m.b
theorem blk_mv (h : w.heap[g]? = some o) [m : Mv w w'] : w'.heap[g]? = some o:=kB h m.b
end
theorem cells6 {w : World} {g t : Nat} {a0 a1 a2 a3 a4 a5 : Value} (h : w.heap[g]? = some (.cells #[a0,a1,a2,a3,a4,a5] t (0,0))) : (w.cell? ⟨g,0,none⟩ = some a0∧w.cell? ⟨g,1,none⟩ = some a1∧w.cell? ⟨g,2,none⟩ = some a2∧w.cell? ⟨g,3,none⟩ = some a3∧w.cell? ⟨g,4,none⟩ = some a4∧w.cell? ⟨g,5,none⟩ = some a5)∧w.frozen? ⟨g,0,none⟩ = false∧w.frozen? ⟨g,1,none⟩ = false∧w.frozen? ⟨g,2,none⟩ = false∧w.frozen? ⟨g,3,none⟩ = false∧w.frozen? ⟨g,4,none⟩ = false∧w.frozen? ⟨g,5,none⟩ = false:=
 ⟨⟨(kC h 0).trans rfl,(kC h 1).trans rfl,(kC h 2).trans rfl,(kC h 3).trans rfl,(kC h 4).trans rfl,(kC h 5).trans rfl⟩,kF h 0,kF h 1,kF h 2,kF h 3,kF h 4,kF h 5⟩
theorem cells9 {w : World} {g t : Nat} {a0 a1 a2 a3 a4 a5 a6 a7 a8 : Value} (h : w.heap[g]? = some (.cells #[a0,a1,a2,a3,a4,a5,a6,a7,a8] t (0,0))) : (w.cell? ⟨g,0,none⟩ = some a0∧w.cell? ⟨g,1,none⟩ = some a1∧w.cell? ⟨g,2,none⟩ = some a2∧w.cell? ⟨g,3,none⟩ = some a3∧w.cell? ⟨g,4,none⟩ = some a4∧w.cell? ⟨g,5,none⟩ = some a5∧w.cell? ⟨g,6,none⟩ = some a6∧w.cell? ⟨g,7,none⟩ = some a7∧w.cell? ⟨g,8,none⟩ = some a8)∧w.frozen? ⟨g,0,none⟩ = false∧w.frozen? ⟨g,1,none⟩ = false∧w.frozen? ⟨g,2,none⟩ = false∧w.frozen? ⟨g,3,none⟩ = false∧w.frozen? ⟨g,4,none⟩ = false∧w.frozen? ⟨g,5,none⟩ = false∧w.frozen? ⟨g,6,none⟩ = false∧w.frozen? ⟨g,7,none⟩ = false∧w.frozen? ⟨g,8,none⟩ = false:=
 ⟨⟨(kC h 0).trans rfl,(kC h 1).trans rfl,(kC h 2).trans rfl,(kC h 3).trans rfl,(kC h 4).trans rfl,(kC h 5).trans rfl,(kC h 6).trans rfl,(kC h 7).trans rfl,(kC h 8).trans rfl⟩,kF h 0,kF h 1,kF h 2,kF h 3,kF h 4,kF h 5,kF h 6,kF h 7,kF h 8⟩
def tree_Leaves.f (l0 : List (S29)) : Option (Int):=some (wrap64 (Int.tdiv (wrap64 ((l0.length : Int) + 1)) 2))
set_option maxHeartbeats 8000000 in
set_option maxRecDepth 100000 in
theorem tree_Leaves.calls (A0 : Option Addr) (c0 : Nat) (l0 : List (S29)) (r : Int) (w : World) (hr0 : Kd.C k29 w A0 l0.length l0) (hc0 : l0.length≤c0) (h : tree_Leaves.f l0 = some r) :
 Calls Tryd.prog 29 #[.slice A0 l0.length c0] w fun e w'=>e = .returned (.int .i64 r)∧Drawn0 w w':=by
 have HR0:=Az.mk hr0
 have HC0:=Az.mk hc0
 clear hr0 hc0
 have H : (some (wrap64 (Int.tdiv (wrap64 ((l0.length : Int) + 1)) 2))) = some r:=h
 clear h
 obtain rfl:=Option.some.inj H
 go_enter Tryd.func29,Tryd.ntmps29
 go_wp2
 go_ret
 exact ⟨by first | rfl | (simp;done) | (simp [*];done),by repeat (first | exact Drawn0.refl _ | apply Drawn0.step)⟩
def heap_Right.f (a0 : Int) : Option (Bool):=if a0≥1 then (if a0≤32 then (some ((Go.bits .and .i64 a0 (wrap64 (a0 - 1))) == 0)) else (some false)) else (some false)
set_option maxHeartbeats 8000000 in
set_option maxRecDepth 100000 in
theorem heap_Right.calls (a0 : Int) (r : Bool) (w : World) (h : heap_Right.f a0 = some r) :
 Calls Tryd.prog 41 #[.int .i64 a0] w fun e w'=>e = .returned (.bool r)∧Drawn0 w w':=by
 have H : (if a0≥1 then (if a0≤32 then (some ((Go.bits .and .i64 a0 (wrap64 (a0 - 1))) == 0)) else (some false)) else (some false)) = some r:=h
 clear h
 by_cases c2 : a0≥1
 · rw [if_pos c2] at H
   have c2b0 : decide (1≤a0) = true:=decide_eq_true c2
   clear c2
   by_cases c3 : a0≤32
   · rw [if_pos c3] at H
     have c3b0 : decide (a0≤32) = true:=decide_eq_true c3
     clear c3
     obtain rfl:=Option.some.inj H
     go_enter Tryd.func41,Tryd.ntmps41
     go_wp2
     go_ret
     exact ⟨by first | rfl | (simp;done) | (simp [*];done),by repeat (first | exact Drawn0.refl _ | apply Drawn0.step)⟩
   · rw [if_neg c3] at H
     have c3b0 : decide (a0≤32) = false:=decide_eq_false c3
     clear c3
     obtain rfl:=Option.some.inj H
     go_enter Tryd.func41,Tryd.ntmps41
     go_wp2
     go_ret
     exact ⟨by first | rfl | (simp;done) | (simp [*];done),by repeat (first | exact Drawn0.refl _ | apply Drawn0.step)⟩
 · rw [if_neg c2] at H
   have c2b0 : decide (1≤a0) = false:=decide_eq_false c2
   clear c2
   obtain rfl:=Option.some.inj H
   go_enter Tryd.func41,Tryd.ntmps41
   go_wp2
   go_ret
   exact ⟨by first | rfl | (simp;done) | (simp [*];done),by repeat (first | exact Drawn0.refl _ | apply Drawn0.step)⟩
def tree_tight.l0 : Nat→List (S29)→Int→Int→Option (Bool)
 | 0,_,_,_=>none
 | k + 1,x0,x3,x4=>if x4 < x3 then (if 0≤(wrap64 (2 * x4)) then (if (wrap64 (2 * x4)) < (x0.length : Int) then (if (rd_T29 x0 (wrap64 (2 * x4))).f0 = true then (some true) else (tree_tight.l0 k x0 x3 (wrap64 (x4 + 1)))) else (none)) else (none)) else (some false)
def tree_tight.f (k : Nat) (l0 : List (S29)) : Option (Bool):=(tree_Leaves.f l0).bind fun t101=>(tree_tight.l0 k l0 t101 (wrap64 (Int.tdiv t101 2)))
theorem tree_tight.mono_l : ∀ k,(∀ y0 y1 y2,LeO (tree_tight.l0 k y0 y1 y2) (tree_tight.l0 (k + 1) y0 y1 y2))
 | 0=>fun _ _ _ r h=>by simp [tree_tight.l0] at h
 | k + 1=>by
  have ih0:=tree_tight.mono_l k
  · intro y0 y1 y2
    unfold tree_tight.l0
    repeat' first
    | (with_reducible exact ih0 _ _ _)
    | (with_reducible exact LeO.refl _)
    | (with_reducible exact LeO.none _)
    | (with_reducible refine LeO.ite ?_ ?_)
    | (with_reducible refine LeO.bind ?_ (fun _=>?_))
    | exact ih0 _ _ _
    | exact LeO.none _
    | refine LeO.ite ?_ ?_
    | refine LeO.bind ?_ (fun _=>?_)
theorem tree_tight.mono : ∀ a0 k,LeO (tree_tight.f k a0) (tree_tight.f (k + 1) a0):=by
 intro a0 k
 have ih0:=tree_tight.mono_l k
 unfold tree_tight.f
 repeat' first
  | (with_reducible exact ih0 _ _ _)
  | (with_reducible exact LeO.refl _)
  | (with_reducible exact LeO.none _)
  | (with_reducible refine LeO.ite ?_ ?_)
  | (with_reducible refine LeO.bind ?_ (fun _=>?_))
  | exact ih0 _ _ _
  | exact LeO.none _
  | refine LeO.ite ?_ ?_
  | refine LeO.bind ?_ (fun _=>?_)
set_option maxHeartbeats 8000000 in
set_option maxRecDepth 100000 in
theorem tree_tight.calls (k : Nat) (A0 : Option Addr) (c0 : Nat) (l0 : List (S29)) (r : Bool) (w : World) (hr0 : Kd.C k29 w A0 l0.length l0) (hc0 : l0.length≤c0) (h : tree_tight.f k l0 = some r) :
 Calls Tryd.prog 42 #[.slice A0 l0.length c0] w fun e w'=>e = .returned (.bool r)∧Drawn0 w w':=by
 have HR0:=Az.mk hr0
 have HC0:=Az.mk hc0
 clear hr0 hc0
 have H : ((tree_Leaves.f l0).bind fun t101=>(tree_tight.l0 k l0 t101 (wrap64 (Int.tdiv t101 2)))) = some r:=h
 clear h
 replace H:=Option.bind_eq_some_iff.mp H
 obtain ⟨t101,A20,H⟩:=H
 replace H : (tree_tight.l0 k l0 t101 (wrap64 (Int.tdiv t101 2))) = some r:=H
 have A2:=Az.mk A20
 clear A20
 have H':=Az.mk H
 clear H
 go_enter Tryd.func42,Tryd.ntmps42
 go_wp2_with (first | ((with_reducible refine gate_callee (f:=29) rfl ?_);refine goesL_ (some 6) rfl rfl Tryd.func29 (by kernel_rfl) rfl #[.slice A0 l0.length c0] rfl (by (try simp only [List.map_toArray,List.map_cons,List.map_nil]);first | done | rfl | (simp only [List.length_drop,List.length_take];rfl)) ?_;(with_reducible refine (tree_Leaves.calls _ _ l0 t101 _ ?side1 ?side2 A2.out).mono ?_);(case side1=>exact C_mv (HR0.out));(case side2=>exact HC0.out);rintro e w' ⟨rfl,⟨nd,rfl⟩⟩;refine ⟨_,rfl,?_⟩))
 go_loopg [4] k (fun kq v4 w'=>∃ (x4_1 : Int),v4 = .int .i64 x4_1∧Az (tree_tight.l0 kq l0 t101 x4_1 = some r)∧Az (kq≤k)∧Drawn0 w w')
 case atStart=>exact ⟨(wrap64 (Int.tdiv t101 2)),(by first | rfl | (simp;done) | (simp [*];done)),H',⟨Nat.le_refl _⟩,by repeat (first | exact Drawn0.refl _ | apply Drawn0.step)⟩
 case round=>
  clear H'
  obtain ⟨x4_1,rfl,HA,HK1,⟨m1,rfl⟩⟩:=hrel
  cases gk with
  | zero=>exact absurd HA.out (by simp [tree_tight.l0])
  | succ k1=>
   have H:=HA.out
   clear HA
   simp only [tree_tight.l0] at H
   by_cases c3 : x4_1 < t101
   · rw [if_pos c3] at H
     have c3b0 : decide (x4_1 < t101) = true:=decide_eq_true c3
     clear c3
     obtain ⟨ji4,hji4⟩ : ∃ j_ : Int,(wrap64 (2 * x4_1)) = j_:=⟨_,rfl⟩
     replace H : (if 0≤(ji4) then (if (ji4) < (l0.length : Int) then (if (rd_T29 l0 (ji4)).f0 = true then (some true) else (tree_tight.l0 k1 l0 t101 (wrap64 (x4_1 + 1)))) else (none)) else (none)) = some r:=by first | (rw [hji4] at H;exact H) | (simp only [hji4] at H ⊢;exact H)
     have hji4w : (IntKind.i64.wrap (2 * x4_1)) = ji4:=(i64_w _).trans hji4
     by_cases c5 : 0≤(ji4)
     · rw [if_pos c5] at H
       have c5b0 : decide (0≤(ji4)) = true:=decide_eq_true c5
       clear c5
       by_cases c6 : (ji4) < (l0.length : Int)
       · rw [if_pos c6] at H
         have c6b0 : decide ((ji4) < (l0.length : Int)) = true:=decide_eq_true c6
         clear c6
         obtain ⟨bq7,hbq7⟩ : ∃ b_ : Bool,b_ = ((rd_T29 l0 (ji4)).f0):=⟨_,rfl⟩
         replace H : (if bq7 = true then (some true) else (tree_tight.l0 k1 l0 t101 (wrap64 (x4_1 + 1)))) = some r:=by rw [← hbq7] at H;exact H
         have Nbq7:=Az.mk hbq7
         clear hbq7
         by_cases c8 : bq7 = true
         · subst c8
           have H1 : (some true) = some r:=by rw [if_pos rfl] at H;exact H
           clear H
           have H:=H1
           clear H1
           obtain rfl:=Option.some.inj H
           have p102 : 0≤((ji4) : Int):=of_decide_eq_true (by first | (with_reducible assumption) | assumption)
           have q102 : (ji4) < (l0.length : Int):=of_decide_eq_true (by first | (with_reducible assumption) | assumption)
           obtain ⟨ad102,A102_5,c102_5,e102,hx102_0,hx102_1,hx102_2,hx102_3,hx102_4,hx102_5,hl102_5,hi102_5⟩:=at_T29 HR0.out (ji4) p102 q102
           (try rw [← Nbq7.out] at hx102_0)
           cases e102
           have HR102_5:=Az.mk hi102_5
           have HC102_5:=Az.mk hl102_5
           clear hi102_5 hl102_5
           replace p102:=eq_true p102
           replace q102:=eq_true q102
           go_wp2
           go_ret
           exact ⟨by first | rfl | (simp;done) | (simp only [← hji4] <;> (first | rfl | simp)) | (simp [*];done),by repeat (first | exact Drawn0.refl _ | apply Drawn0.step)⟩
         · replace c8:=Bool.eq_false_iff.mpr c8
           subst c8
           have H1 : (tree_tight.l0 k1 l0 t101 (wrap64 (x4_1 + 1))) = some r:=by rw [if_neg (show ¬ (false = true) by decide)] at H;exact H
           clear H
           have H:=H1
           clear H1
           have H':=Az.mk H
           clear H
           have p102 : 0≤((ji4) : Int):=of_decide_eq_true (by first | (with_reducible assumption) | assumption)
           have q102 : (ji4) < (l0.length : Int):=of_decide_eq_true (by first | (with_reducible assumption) | assumption)
           obtain ⟨ad102,A102_5,c102_5,e102,hx102_0,hx102_1,hx102_2,hx102_3,hx102_4,hx102_5,hl102_5,hi102_5⟩:=at_T29 HR0.out (ji4) p102 q102
           (try rw [← Nbq7.out] at hx102_0)
           cases e102
           have HR102_5:=Az.mk hi102_5
           have HC102_5:=Az.mk hl102_5
           clear hi102_5 hl102_5
           replace p102:=eq_true p102
           replace q102:=eq_true q102
           go_wp2
           go_roundg k1
           case measure=>have:=HK1.out;omega
           case rel=>exact ⟨(wrap64 (x4_1 + 1)),(by first | rfl | (simp;done) | (simp [*];done)),H',⟨by have:=HK1.out;omega⟩,by repeat (first | exact Drawn0.refl _ | apply Drawn0.step)⟩
       · rw [if_neg c6] at H
         exact absurd H (by simp)
     · rw [if_neg c5] at H
       exact absurd H (by simp)
   · rw [if_neg c3] at H
     have c3b0 : decide (x4_1 < t101) = false:=decide_eq_false c3
     clear c3
     obtain rfl:=Option.some.inj H
     go_wp2
     go_ret
     exact ⟨by first | rfl | (simp;done) | (simp [*];done),by repeat (first | exact Drawn0.refl _ | apply Drawn0.step)⟩
def tree_full.f (l0 : List (S29)) (a1 : Int) : Option (Bool):=if a1≥0 then ((tree_Leaves.f l0).bind fun t103=>(if a1 < t103 then (if 0≤(wrap64 (2 * a1)) then (if (wrap64 (2 * a1)) < (l0.length : Int) then (some ((rd_T29 l0 (wrap64 (2 * a1))).f0)) else (none)) else (none)) else (some false))) else (some false)
set_option maxHeartbeats 8000000 in
set_option maxRecDepth 100000 in
theorem tree_full.calls (A0 : Option Addr) (c0 : Nat) (l0 : List (S29)) (a1 : Int) (r : Bool) (w : World) (hr0 : Kd.C k29 w A0 l0.length l0) (hc0 : l0.length≤c0) (h : tree_full.f l0 a1 = some r) :
 Calls Tryd.prog 60 #[.slice A0 l0.length c0,.int .i64 a1] w fun e w'=>e = .returned (.bool r)∧Drawn0 w w':=by
 have HR0:=Az.mk hr0
 have HC0:=Az.mk hc0
 clear hr0 hc0
 have H : (if a1≥0 then ((tree_Leaves.f l0).bind fun t103=>(if a1 < t103 then (if 0≤(wrap64 (2 * a1)) then (if (wrap64 (2 * a1)) < (l0.length : Int) then (some ((rd_T29 l0 (wrap64 (2 * a1))).f0)) else (none)) else (none)) else (some false))) else (some false)) = some r:=h
 clear h
 by_cases c3 : a1≥0
 · rw [if_pos c3] at H
   have c3b0 : decide (0≤a1) = true:=decide_eq_true c3
   clear c3
   replace H:=Option.bind_eq_some_iff.mp H
   obtain ⟨t103,A40,H⟩:=H
   replace H : (if a1 < t103 then (if 0≤(wrap64 (2 * a1)) then (if (wrap64 (2 * a1)) < (l0.length : Int) then (some ((rd_T29 l0 (wrap64 (2 * a1))).f0)) else (none)) else (none)) else (some false)) = some r:=H
   have A4:=Az.mk A40
   clear A40
   by_cases c5 : a1 < t103
   · rw [if_pos c5] at H
     have c5b0 : decide (a1 < t103) = true:=decide_eq_true c5
     clear c5
     obtain ⟨ji6,hji6⟩ : ∃ j_ : Int,(wrap64 (2 * a1)) = j_:=⟨_,rfl⟩
     replace H : (if 0≤(ji6) then (if (ji6) < (l0.length : Int) then (some ((rd_T29 l0 (ji6)).f0)) else (none)) else (none)) = some r:=by first | (rw [hji6] at H;exact H) | (simp only [hji6] at H ⊢;exact H)
     (try rw [hji6] at A4)
     have hji6w : (IntKind.i64.wrap (2 * a1)) = ji6:=(i64_w _).trans hji6
     by_cases c7 : 0≤(ji6)
     · rw [if_pos c7] at H
       have c7b0 : decide (0≤(ji6)) = true:=decide_eq_true c7
       clear c7
       by_cases c8 : (ji6) < (l0.length : Int)
       · rw [if_pos c8] at H
         have c8b0 : decide ((ji6) < (l0.length : Int)) = true:=decide_eq_true c8
         clear c8
         obtain rfl:=Option.some.inj H
         go_enter Tryd.func60,Tryd.ntmps60
         go_wp2_with (first | (go_at_call 29;(with_reducible refine (tree_Leaves.calls _ _ l0 t103 _ ?side1 ?side2 A4.out).mono ?_);(case side1=>exact C_mv (HR0.out));(case side2=>exact HC0.out);rintro e w' ⟨rfl,⟨nd,rfl⟩⟩;have p104 : 0≤((ji6) : Int):=of_decide_eq_true (by first | (with_reducible assumption) | assumption);have q104 : (ji6) < (l0.length : Int):=of_decide_eq_true (by first | (with_reducible assumption) | assumption);obtain ⟨ad104,A104_5,c104_5,e104,hx104_0,hx104_1,hx104_2,hx104_3,hx104_4,hx104_5,hl104_5,hi104_5⟩:=at_T29 HR0.out (ji6) p104 q104;cases e104;have HR104_5:=Az.mk hi104_5;have HC104_5:=Az.mk hl104_5;clear hi104_5 hl104_5;replace p104:=eq_true p104;replace q104:=eq_true q104))
         go_ret
         exact ⟨by first | rfl | (simp;done) | (simp only [← hji6] <;> (first | rfl | simp)) | (simp [*];done),by repeat (first | exact Drawn0.refl _ | apply Drawn0.step)⟩
       · rw [if_neg c8] at H
         exact absurd H (by simp)
     · rw [if_neg c7] at H
       exact absurd H (by simp)
   · rw [if_neg c5] at H
     have c5b0 : decide (a1 < t103) = false:=decide_eq_false c5
     clear c5
     obtain rfl:=Option.some.inj H
     go_enter Tryd.func60,Tryd.ntmps60
     go_wp2_with (first | (go_at_call 29;(with_reducible refine (tree_Leaves.calls _ _ l0 t103 _ ?side1 ?side2 A4.out).mono ?_);(case side1=>exact C_mv (HR0.out));(case side2=>exact HC0.out);rintro e w' ⟨rfl,⟨nd,rfl⟩⟩))
     go_ret
     exact ⟨by first | rfl | (simp;done) | (simp [*];done),by repeat (first | exact Drawn0.refl _ | apply Drawn0.step)⟩
 · rw [if_neg c3] at H
   have c3b0 : decide (0≤a1) = false:=decide_eq_false c3
   clear c3
   obtain rfl:=Option.some.inj H
   go_enter Tryd.func60,Tryd.ntmps60
   go_wp2
   go_ret
   exact ⟨by first | rfl | (simp;done) | (simp [*];done),by repeat (first | exact Drawn0.refl _ | apply Drawn0.step)⟩
def tree_blank.f (a0_0 : Bool) (a0_1 : Int) (a0_2 : Int) (a0_3 : Int) (a0_4 : Int) (l0_5 : List Int) : Option (Bool):=if a0_0 = true then (some false) else (if a0_1 = 0 then (if a0_2 = 0 then (if a0_3 = 0 then (if a0_4 = 0 then (some ((l0_5.length : Int) == 0)) else (some false)) else (some false)) else (some false)) else (some false))
set_option maxHeartbeats 8000000 in
set_option maxRecDepth 100000 in
theorem tree_blank.calls (a0_0 : Bool) (a0_1 : Int) (a0_2 : Int) (a0_3 : Int) (a0_4 : Int) (A0_5 : Option Addr) (c0_5 : Nat) (l0_5 : List Int) (r : Bool) (w : World) (hr0_5 : Kd.C (Kd.int .i64) w A0_5 l0_5.length l0_5) (hc0_5 : l0_5.length≤c0_5) (h : tree_blank.f a0_0 a0_1 a0_2 a0_3 a0_4 l0_5 = some r) :
 Calls Tryd.prog 65 #[.agg #[.bool a0_0,.int .i64 a0_1,.int .i64 a0_2,.int .i64 a0_3,.int .i64 a0_4,.slice A0_5 l0_5.length c0_5]] w fun e w'=>e = .returned (.bool r)∧Below w.heap.size w w':=by
 have hu29:=Tryd.underlying29
 have HR0_5:=Az.mk hr0_5
 have HC0_5:=Az.mk hc0_5
 clear hr0_5 hc0_5
 have HB:=Az.mk (Below.refl w.heap.size w)
 have H : (if a0_0 = true then (some false) else (if a0_1 = 0 then (if a0_2 = 0 then (if a0_3 = 0 then (if a0_4 = 0 then (some ((l0_5.length : Int) == 0)) else (some false)) else (some false)) else (some false)) else (some false))) = some r:=h
 clear h
 by_cases c2 : a0_0 = true
 · subst c2
   have H1 : (some false) = some r:=by rw [if_pos rfl] at H;exact H
   clear H
   have H:=H1
   clear H1
   obtain rfl:=Option.some.inj H
   go_enter Tryd.func65,Tryd.ntmps65
   go_wp2_with (first | ((with_reducible refine gate_dst (N:=1) rfl ?_);(try (refine gate_guard (by rfl) ?_;dsimp only));refine box_event ?hg (N:=1) ?hd (cs:=#[.bool true,.int .i64 a0_1,.int .i64 a0_2,.int .i64 a0_3,.int .i64 a0_4,.slice A0_5 l0_5.length c0_5]) (t:=29) ?hr ?_;(case hd=>rfl);(case hg=>rfl);(case hr=>first | (go_simp;done) | (go_simp;rfl));intro gb105 hg w3 hbox hb;have n0_:=Az.mk (bwT (bmv HB.out) hb);have n1_:=Az.mk (hbox);have n2_:=Az.mk ((by rw [hg];exact (bwZ (bmv HB.out)) : w.heap.size≤gb105));have n3_:=Az.mk ((by rw [hg];exact (bwZ (bmv HB.out)) : w.heap.size≤gb105));clear HB;have HB:=n0_;have BK105:=n1_;have GW105:=n2_;have GE105:=n3_;clear n0_ n1_ n2_ n3_;clear hb hbox hg;obtain ⟨⟨hcz4_0,hcz4_1,hcz4_2,hcz4_3,hcz4_4,hcz4_5⟩,hfz4_0,hfz4_1,hfz4_2,hfz4_3,hfz4_4,hfz4_5⟩:=cells6 BK105.out))
   go_ret
   exact ⟨by first | rfl | (simp [errW_none,errW_some] <;> rfl) | (simp [*,errW_none,errW_some] <;> rfl),by repeat (with_reducible first | exact bmv HB.out | refine bwS ?_ GE105.out)⟩
 · replace c2:=Bool.eq_false_iff.mpr c2
   subst c2
   have H1 : (if a0_1 = 0 then (if a0_2 = 0 then (if a0_3 = 0 then (if a0_4 = 0 then (some ((l0_5.length : Int) == 0)) else (some false)) else (some false)) else (some false)) else (some false)) = some r:=by rw [if_neg (show ¬ (false = true) by decide)] at H;exact H
   clear H
   have H:=H1
   clear H1
   by_cases c5 : a0_1 = 0
   · rw [if_pos c5] at H
     have c5b0 : (a0_1 == 0) = true:=beq_iff_eq.mpr c5
     have c5b1 : (a0_1 != 0) = false:=bne_eq_false_iff_eq.mpr c5
     clear c5
     by_cases c6 : a0_2 = 0
     · rw [if_pos c6] at H
       have c6b0 : (a0_2 == 0) = true:=beq_iff_eq.mpr c6
       have c6b1 : (a0_2 != 0) = false:=bne_eq_false_iff_eq.mpr c6
       clear c6
       by_cases c7 : a0_3 = 0
       · rw [if_pos c7] at H
         have c7b0 : (a0_3 == 0) = true:=beq_iff_eq.mpr c7
         have c7b1 : (a0_3 != 0) = false:=bne_eq_false_iff_eq.mpr c7
         clear c7
         by_cases c8 : a0_4 = 0
         · rw [if_pos c8] at H
           have c8b0 : (a0_4 == 0) = true:=beq_iff_eq.mpr c8
           have c8b1 : (a0_4 != 0) = false:=bne_eq_false_iff_eq.mpr c8
           clear c8
           obtain rfl:=Option.some.inj H
           go_enter Tryd.func65,Tryd.ntmps65
           go_wp2_with (first | ((with_reducible refine gate_dst (N:=1) rfl ?_);(try (refine gate_guard (by rfl) ?_;dsimp only));refine box_event ?hg (N:=1) ?hd (cs:=#[.bool false,.int .i64 a0_1,.int .i64 a0_2,.int .i64 a0_3,.int .i64 a0_4,.slice A0_5 l0_5.length c0_5]) (t:=29) ?hr ?_;(case hd=>rfl);(case hg=>rfl);(case hr=>first | (go_simp;done) | (go_simp;rfl));intro gb105 hg w9 hbox hb;have n0_:=Az.mk (bwT (bmv HB.out) hb);have n1_:=Az.mk (hbox);have n2_:=Az.mk ((by rw [hg];exact (bwZ (bmv HB.out)) : w.heap.size≤gb105));have n3_:=Az.mk ((by rw [hg];exact (bwZ (bmv HB.out)) : w.heap.size≤gb105));clear HB;have HB:=n0_;have BK105:=n1_;have GW105:=n2_;have GE105:=n3_;clear n0_ n1_ n2_ n3_;clear hb hbox hg;obtain ⟨⟨hcz10_0,hcz10_1,hcz10_2,hcz10_3,hcz10_4,hcz10_5⟩,hfz10_0,hfz10_1,hfz10_2,hfz10_3,hfz10_4,hfz10_5⟩:=cells6 BK105.out))
           go_ret
           exact ⟨by first | rfl | (simp [errW_none,errW_some] <;> rfl) | (simp [*,errW_none,errW_some] <;> rfl),by repeat (with_reducible first | exact bmv HB.out | refine bwS ?_ GE105.out)⟩
         · rw [if_neg c8] at H
           have c8b0 : (a0_4 == 0) = false:=beq_eq_false_iff_ne.mpr c8
           have c8b1 : (a0_4 != 0) = true:=bne_iff_ne.mpr c8
           obtain rfl:=Option.some.inj H
           go_enter Tryd.func65,Tryd.ntmps65
           go_wp2_with (first | ((with_reducible refine gate_dst (N:=1) rfl ?_);(try (refine gate_guard (by rfl) ?_;dsimp only));refine box_event ?hg (N:=1) ?hd (cs:=#[.bool false,.int .i64 a0_1,.int .i64 a0_2,.int .i64 a0_3,.int .i64 a0_4,.slice A0_5 l0_5.length c0_5]) (t:=29) ?hr ?_;(case hd=>rfl);(case hg=>rfl);(case hr=>first | (go_simp;done) | (go_simp;rfl));intro gb105 hg w11 hbox hb;have n0_:=Az.mk (bwT (bmv HB.out) hb);have n1_:=Az.mk (hbox);have n2_:=Az.mk ((by rw [hg];exact (bwZ (bmv HB.out)) : w.heap.size≤gb105));have n3_:=Az.mk ((by rw [hg];exact (bwZ (bmv HB.out)) : w.heap.size≤gb105));clear HB;have HB:=n0_;have BK105:=n1_;have GW105:=n2_;have GE105:=n3_;clear n0_ n1_ n2_ n3_;clear hb hbox hg;obtain ⟨⟨hcz12_0,hcz12_1,hcz12_2,hcz12_3,hcz12_4,hcz12_5⟩,hfz12_0,hfz12_1,hfz12_2,hfz12_3,hfz12_4,hfz12_5⟩:=cells6 BK105.out))
           go_ret
           exact ⟨by first | rfl | (simp [errW_none,errW_some] <;> rfl) | (simp [*,errW_none,errW_some] <;> rfl),by repeat (with_reducible first | exact bmv HB.out | refine bwS ?_ GE105.out)⟩
       · rw [if_neg c7] at H
         have c7b0 : (a0_3 == 0) = false:=beq_eq_false_iff_ne.mpr c7
         have c7b1 : (a0_3 != 0) = true:=bne_iff_ne.mpr c7
         obtain rfl:=Option.some.inj H
         go_enter Tryd.func65,Tryd.ntmps65
         go_wp2_with (first | ((with_reducible refine gate_dst (N:=1) rfl ?_);(try (refine gate_guard (by rfl) ?_;dsimp only));refine box_event ?hg (N:=1) ?hd (cs:=#[.bool false,.int .i64 a0_1,.int .i64 a0_2,.int .i64 a0_3,.int .i64 a0_4,.slice A0_5 l0_5.length c0_5]) (t:=29) ?hr ?_;(case hd=>rfl);(case hg=>rfl);(case hr=>first | (go_simp;done) | (go_simp;rfl));intro gb105 hg w13 hbox hb;have n0_:=Az.mk (bwT (bmv HB.out) hb);have n1_:=Az.mk (hbox);have n2_:=Az.mk ((by rw [hg];exact (bwZ (bmv HB.out)) : w.heap.size≤gb105));have n3_:=Az.mk ((by rw [hg];exact (bwZ (bmv HB.out)) : w.heap.size≤gb105));clear HB;have HB:=n0_;have BK105:=n1_;have GW105:=n2_;have GE105:=n3_;clear n0_ n1_ n2_ n3_;clear hb hbox hg;obtain ⟨⟨hcz14_0,hcz14_1,hcz14_2,hcz14_3,hcz14_4,hcz14_5⟩,hfz14_0,hfz14_1,hfz14_2,hfz14_3,hfz14_4,hfz14_5⟩:=cells6 BK105.out))
         go_ret
         exact ⟨by first | rfl | (simp [errW_none,errW_some] <;> rfl) | (simp [*,errW_none,errW_some] <;> rfl),by repeat (with_reducible first | exact bmv HB.out | refine bwS ?_ GE105.out)⟩
     · rw [if_neg c6] at H
       have c6b0 : (a0_2 == 0) = false:=beq_eq_false_iff_ne.mpr c6
       have c6b1 : (a0_2 != 0) = true:=bne_iff_ne.mpr c6
       obtain rfl:=Option.some.inj H
       go_enter Tryd.func65,Tryd.ntmps65
       go_wp2_with (first | ((with_reducible refine gate_dst (N:=1) rfl ?_);(try (refine gate_guard (by rfl) ?_;dsimp only));refine box_event ?hg (N:=1) ?hd (cs:=#[.bool false,.int .i64 a0_1,.int .i64 a0_2,.int .i64 a0_3,.int .i64 a0_4,.slice A0_5 l0_5.length c0_5]) (t:=29) ?hr ?_;(case hd=>rfl);(case hg=>rfl);(case hr=>first | (go_simp;done) | (go_simp;rfl));intro gb105 hg w15 hbox hb;have n0_:=Az.mk (bwT (bmv HB.out) hb);have n1_:=Az.mk (hbox);have n2_:=Az.mk ((by rw [hg];exact (bwZ (bmv HB.out)) : w.heap.size≤gb105));have n3_:=Az.mk ((by rw [hg];exact (bwZ (bmv HB.out)) : w.heap.size≤gb105));clear HB;have HB:=n0_;have BK105:=n1_;have GW105:=n2_;have GE105:=n3_;clear n0_ n1_ n2_ n3_;clear hb hbox hg;obtain ⟨⟨hcz16_0,hcz16_1,hcz16_2,hcz16_3,hcz16_4,hcz16_5⟩,hfz16_0,hfz16_1,hfz16_2,hfz16_3,hfz16_4,hfz16_5⟩:=cells6 BK105.out))
       go_ret
       exact ⟨by first | rfl | (simp [errW_none,errW_some] <;> rfl) | (simp [*,errW_none,errW_some] <;> rfl),by repeat (with_reducible first | exact bmv HB.out | refine bwS ?_ GE105.out)⟩
   · rw [if_neg c5] at H
     have c5b0 : (a0_1 == 0) = false:=beq_eq_false_iff_ne.mpr c5
     have c5b1 : (a0_1 != 0) = true:=bne_iff_ne.mpr c5
     obtain rfl:=Option.some.inj H
     go_enter Tryd.func65,Tryd.ntmps65
     go_wp2_with (first | ((with_reducible refine gate_dst (N:=1) rfl ?_);(try (refine gate_guard (by rfl) ?_;dsimp only));refine box_event ?hg (N:=1) ?hd (cs:=#[.bool false,.int .i64 a0_1,.int .i64 a0_2,.int .i64 a0_3,.int .i64 a0_4,.slice A0_5 l0_5.length c0_5]) (t:=29) ?hr ?_;(case hd=>rfl);(case hg=>rfl);(case hr=>first | (go_simp;done) | (go_simp;rfl));intro gb105 hg w17 hbox hb;have n0_:=Az.mk (bwT (bmv HB.out) hb);have n1_:=Az.mk (hbox);have n2_:=Az.mk ((by rw [hg];exact (bwZ (bmv HB.out)) : w.heap.size≤gb105));have n3_:=Az.mk ((by rw [hg];exact (bwZ (bmv HB.out)) : w.heap.size≤gb105));clear HB;have HB:=n0_;have BK105:=n1_;have GW105:=n2_;have GE105:=n3_;clear n0_ n1_ n2_ n3_;clear hb hbox hg;obtain ⟨⟨hcz18_0,hcz18_1,hcz18_2,hcz18_3,hcz18_4,hcz18_5⟩,hfz18_0,hfz18_1,hfz18_2,hfz18_3,hfz18_4,hfz18_5⟩:=cells6 BK105.out))
     go_ret
     exact ⟨by first | rfl | (simp [errW_none,errW_some] <;> rfl) | (simp [*,errW_none,errW_some] <;> rfl),by repeat (with_reducible first | exact bmv HB.out | refine bwS ?_ GE105.out)⟩
def heap_in.f (a0 : Int) (a1 : Int) : Option (Bool):=(heap_Right.f a1).bind fun t106=>(if t106 = true then (if a0≥0 then (some (decide (a0≤(wrap64 ((wrap64 (2 * a1)) - 2))))) else (some false)) else (some false))
set_option maxHeartbeats 8000000 in
set_option maxRecDepth 100000 in
theorem heap_in.calls (a0 : Int) (a1 : Int) (r : Bool) (w : World) (h : heap_in.f a0 a1 = some r) :
 Calls Tryd.prog 70 #[.int .i64 a0,.int .i64 a1] w fun e w'=>e = .returned (.bool r)∧Drawn0 w w':=by
 have H : ((heap_Right.f a1).bind fun t106=>(if t106 = true then (if a0≥0 then (some (decide (a0≤(wrap64 ((wrap64 (2 * a1)) - 2))))) else (some false)) else (some false))) = some r:=h
 clear h
 replace H:=Option.bind_eq_some_iff.mp H
 obtain ⟨t106,A30,H⟩:=H
 replace H : (if t106 = true then (if a0≥0 then (some (decide (a0≤(wrap64 ((wrap64 (2 * a1)) - 2))))) else (some false)) else (some false)) = some r:=H
 have A3:=Az.mk A30
 clear A30
 by_cases c4 : t106 = true
 · subst c4
   have H1 : (if a0≥0 then (some (decide (a0≤(wrap64 ((wrap64 (2 * a1)) - 2))))) else (some false)) = some r:=by rw [if_pos rfl] at H;exact H
   clear H
   have H:=H1
   clear H1
   by_cases c5 : a0≥0
   · rw [if_pos c5] at H
     have c5b0 : decide (0≤a0) = true:=decide_eq_true c5
     clear c5
     obtain rfl:=Option.some.inj H
     go_enter Tryd.func70,Tryd.ntmps70
     go_wp2_with (first | ((with_reducible refine gate_callee (f:=41) rfl ?_);refine goesL_ (some 6) rfl rfl Tryd.func41 (by kernel_rfl) rfl #[.int .i64 a1] rfl (by (try simp only [List.map_toArray,List.map_cons,List.map_nil]);first | done | rfl | (simp only [List.length_drop,List.length_take];rfl)) ?_;(with_reducible refine (heap_Right.calls a1 true _ A3.out).mono ?_);rintro e w' ⟨rfl,⟨nd,rfl⟩⟩;refine ⟨_,rfl,?_⟩))
     go_ret
     exact ⟨by first | rfl | (simp;done) | (simp [*];done),by repeat (first | exact Drawn0.refl _ | apply Drawn0.step)⟩
   · rw [if_neg c5] at H
     have c5b0 : decide (0≤a0) = false:=decide_eq_false c5
     clear c5
     obtain rfl:=Option.some.inj H
     go_enter Tryd.func70,Tryd.ntmps70
     go_wp2_with (first | ((with_reducible refine gate_callee (f:=41) rfl ?_);refine goesL_ (some 6) rfl rfl Tryd.func41 (by kernel_rfl) rfl #[.int .i64 a1] rfl (by (try simp only [List.map_toArray,List.map_cons,List.map_nil]);first | done | rfl | (simp only [List.length_drop,List.length_take];rfl)) ?_;(with_reducible refine (heap_Right.calls a1 true _ A3.out).mono ?_);rintro e w' ⟨rfl,⟨nd,rfl⟩⟩;refine ⟨_,rfl,?_⟩))
     go_ret
     exact ⟨by first | rfl | (simp;done) | (simp [*];done),by repeat (first | exact Drawn0.refl _ | apply Drawn0.step)⟩
 · replace c4:=Bool.eq_false_iff.mpr c4
   subst c4
   have H1 : (some false) = some r:=by rw [if_neg (show ¬ (false = true) by decide)] at H;exact H
   clear H
   have H:=H1
   clear H1
   obtain rfl:=Option.some.inj H
   go_enter Tryd.func70,Tryd.ntmps70
   go_wp2_with (first | ((with_reducible refine gate_callee (f:=41) rfl ?_);refine goesL_ (some 6) rfl rfl Tryd.func41 (by kernel_rfl) rfl #[.int .i64 a1] rfl (by (try simp only [List.map_toArray,List.map_cons,List.map_nil]);first | done | rfl | (simp only [List.length_drop,List.length_take];rfl)) ?_;(with_reducible refine (heap_Right.calls a1 false _ A3.out).mono ?_);rintro e w' ⟨rfl,⟨nd,rfl⟩⟩;refine ⟨_,rfl,?_⟩))
   go_ret
   exact ⟨by first | rfl | (simp;done) | (simp [*];done),by repeat (first | exact Drawn0.refl _ | apply Drawn0.step)⟩
def TabH (w : World) : Prop:=∀ j,j < Lib.deBruijn64tab.length→w.cell? ⟨1,j,none⟩ = some (.int .u8 (Lib.deBruijn64tab.getD j 0))
theorem TabH.lt {w : World} (h : TabH w) : 1 < w.heap.size:=World.block_lt_of_cell? w _ (h 0 (by decide))
theorem TabH.heap {w w' : World} (h : TabH w) (hb : w'.heap[1]? = w.heap[1]?) : TabH w':=fun j hj=>by
 rw [show w'.cell? ⟨1,j,none⟩ = w.cell? ⟨1,j,none⟩ by simp [World.cell?,hb]];exact h j hj
theorem TabH.below {w w' : World} (h : TabH w) (hb : Below w.heap.size w w') : TabH w':=h.heap (hb.block _ h.lt)
theorem TabH.drewN {w : World} (h : TabH w) (n : Nat) : TabH (w.drewN n):=h
def TabG (w : World) : Prop:=TabH w
theorem TabG.h {w : World} (h : TabG w) : TabH w:=h
theorem TabG.below {w w' : World} (h : TabG w) (hb : Below w.heap.size w w') : TabG w':=TabH.below h hb
theorem TabG.drewN {w : World} (h : TabG w) (n : Nat) : TabG (w.drewN n):=h
theorem TabG.lt {w : World} (h : TabG w) : 1 < w.heap.size:=by have:=h.h.lt;have:=(show TabG w from h);first | exact h.h.lt | exact h.1.lt
theorem TabG.heaps {w w' : World} {B : Nat} (h : TabG w) (hB : w.heap.size≤B∨1 < B) (hb : ∀ k,k < B→k = 1→w'.heap[k]? = w.heap[k]?) : TabG w':=by
 have l2:=TabH.lt h
 exact TabH.heap h (hb _ (by omega) rfl)
set_option maxHeartbeats 1000000 in
theorem tz64_core (x k idx : Nat) (w : World) (hx0 : ((x : Int) == 0) = false)
 (key : IntKind.u64.wrap (bits BinOp.and IntKind.u64 (x : Int) (IntKind.u64.wrap (-(x : Int))) * 285870213051353865) / 288230376151711744 = (idx : Int))
 (hi : idx < 64) (hcell : w.cell? ⟨1,idx,none⟩ = some (.int .u8 k)) (hk : k < 64) :
 Calls Tryd.prog 87 #[.int .u64 x] w fun e w'=>e = .returned (.int .i64 k)∧w' = w:=by
 have hi2 : (idx : Int) < 64:=by omega
 go_enter Tryd.func87,Tryd.ntmps87
 go_wp2_with (simp only [key])
 go_ret
 exact ⟨rfl,rfl⟩
theorem tz64_zero (w : World) : Calls Tryd.prog 87 #[.int .u64 0] w fun e w'=>e = .returned (.int .i64 64)∧w' = w:=by
 go_enter Tryd.func87,Tryd.ntmps87
 go_wp2
 go_ret
 exact ⟨rfl,rfl⟩
theorem tz64_calls (x : Nat) (hx : x < 18446744073709551616) (w : World) (hT : TabG w) :
 Calls Tryd.prog 87 #[.int .u64 x] w fun e w'=>e = .returned (.int .i64 (Lib.ctz 64 x))∧w' = w:=by
 by_cases hx0 : x = 0
 · subst hx0
   exact tz64_zero w
 · obtain ⟨hlow,hk⟩:=Lib.lowest_bit 64 x hx0 hx
   obtain ⟨hi,htab⟩:=Lib.deBruijn64_at _ hk
   have hcell:=hT.h _ hi
   rw [htab] at hcell
   exact tz64_core x _ _ w (by simp;omega) (tz64_key x _ hx hx0 hlow) hi hcell hk
theorem tz_calls (x : Nat) (hx : x < 18446744073709551616) (w : World) (hT : TabG w) :
 Calls Tryd.prog 84 #[.int .u64 x] w fun e w'=>e = .returned (.int .i64 (Lib.ctz 64 x))∧w' = w:=by
 have c64:=Lib.hid (tz64_calls x hx w hT)
 have hw : IntKind.u64.wrap (x : Int) = (x : Int):=by rw [IntKind.wrap_u64];omega
 clear hT
 go_enter Tryd.func84,Tryd.ntmps84
 go_wp2_with (go_at_call 87;refine c64.out.mono ?_;rintro e w' ⟨rfl,rfl⟩)
 go_ret
 exact ⟨rfl,rfl⟩
theorem xor_max (x : Nat) (hx : x < 18446744073709551616) : bits .xor .u64 18446744073709551615 (x : Int) = ((18446744073709551615 - x : Nat) : Int):=by
 have h:=bits_xor_u64_nat 18446744073709551615 x (by omega) hx
 have e : 18446744073709551615 ^^^ x = 18446744073709551615 - x:=by
  apply Nat.eq_of_testBit_eq
  intro i
  have h1 : (18446744073709551615 : Nat).testBit i = decide (i < 64):=by
   rw [show (18446744073709551615 : Nat) = 2 ^ 64 - 1 by decide];exact Nat.testBit_two_pow_sub_one 64 i
  rw [Nat.testBit_xor,h1,show 18446744073709551615 - x = 2 ^ 64 - (x + 1) by omega,Nat.testBit_two_pow_sub_succ (by omega)]
  by_cases hi : i < 64
  · simp [hi]
  · simp only [hi,decide_false,Bool.false_and]
    rw [Nat.testBit_lt_two_pow (Nat.lt_of_lt_of_le (show x < 2 ^ 64 by omega) (Nat.pow_le_pow_right (by decide) (by omega)))]
    rfl
 rw [e] at h
 exact h
def lev (x : Int) : Int:=if x < 0 then 0 else Lib.ctz 64 (18446744073709551615 - (x % 18446744073709551616).toNat)
def heap_Level.f (a0 : Int) : Option (Int):=some (lev a0)
set_option maxHeartbeats 1000000 in
theorem heap_Level.calls (a0 : Int) (r : Int) (w : World) (hrG : TabG w) (h : heap_Level.f a0 = some r) :
 Calls Tryd.prog 76 #[.int .i64 a0] w fun e w'=>e = .returned (.int .i64 r)∧Drawn0 w w':=by
 obtain rfl:=Option.some.inj h
 clear h
 unfold lev
 by_cases h0 : a0 < 0
 · rw [if_pos h0]
   have hb : decide (a0 < 0) = true:=by simpa using h0
   clear h0 hrG
   go_enter Tryd.func76,Tryd.ntmps76
   go_wp2
   go_ret
   exact ⟨rfl,Drawn0.refl _⟩
 · rw [if_neg h0]
   have hb : decide (a0 < 0) = false:=by simpa using h0
   obtain ⟨x,hx⟩ : ∃ x : Nat,a0 % 18446744073709551616 = x:=⟨(a0 % 18446744073709551616).toNat,by omega⟩
   have hlt : x < 18446744073709551616:=by omega
   have hw : IntKind.u64.wrap a0 = (x : Int):=by rw [IntKind.wrap_u64];exact hx
   rw [hx,Int.toNat_natCast]
   have hxor : bits .xor .u64 IntKind.u64.max (x : Int) = ((18446744073709551615 - x : Nat) : Int):=xor_max x hlt
   have hsg : IntKind.u64.signed = false:=rfl
   have hc:=Lib.hid (tz_calls (18446744073709551615 - x) (by omega) w hrG)
   clear h0 hrG hx hlt
   go_enter Tryd.func76,Tryd.ntmps76
   go_wp2_with (go_at_call 84;refine hc.out.mono ?_;rintro e w' ⟨rfl,rfl⟩)
   go_ret
   exact ⟨rfl,Drawn0.refl _⟩
end Go.Proofs.YtbblomnhobodkaaDoor.PTw
