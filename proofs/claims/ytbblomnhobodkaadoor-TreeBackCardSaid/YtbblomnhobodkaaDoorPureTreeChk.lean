/- What this claim reaches of longer texts of this session. -/
import Derived.Test.YtbblomnhobodkaaDoorPTwx10
import Derived.Test.YtbblomnhobodkaaDoorPTwx4
import Derived.Test.YtbblomnhobodkaaDoorPTwx7
import Derived.Test.YtbblomnhobodkaaDoorPTwx8
import Derived.DataShut
import Derived.Test.YtbblomnhobodkaaDoorPTwx30
import Derived.Test.YtbblomnhobodkaaDoorPTwx5
import Derived.Test.YtbblomnhobodkaaDoorPTwx6
import Derived.Test.YtbblomnhobodkaaDoorPTwx17
import Derived.Test.YtbblomnhobodkaaDoorPTwx15
import Derived.Test.YtbblomnhobodkaaDoorPTwx0
import Derived.Test.YtbblomnhobodkaaDoorPTwx1
import Derived.Shelf.Spec.TrailingZeros
import Derived.Lib.ItoaNum
import Derived.Lib.LaidTab
import Derived.Laws.Bits64
import Derived.Lib.Hide
import Derived.RangeFuncBox
import Derived.Maps.AppendAt
import Derived.Lib.SliceRun
import Derived.Shelf.Spec.SlicesInsert
import Derived.Shelf.Spec.SlicesInsertGrow
import Derived.Deep.DeepCutAuto
import Derived.Test.YtbblomnhobodkaaDoorPTwx22
set_option linter.unusedVariables false
set_option linter.unusedSimpArgs false
namespace Go.Proofs.YtbblomnhobodkaaDoor.Pure
open Go.RowKit Go.Proofs.YtbblomnhobodkaaDoor Go.Proofs.YtbblomnhobodkaaDoor.PTw Go.Proofs.YtbblomnhobodkaaDoorW.PW
def Evr {α : Type} (g : Nat→Option α) (r : α) : Prop:=∃ K,∀ k,K≤k→g k = some r
theorem Evr.const {α : Type} {g : Nat→Option α} {r : α} (h : ∀ k,g k = some r) : Evr g r:=⟨0,fun k _=>h k⟩
theorem Evr.succ {α : Type} {g f : Nat→Option α} {r : α} (h : ∀ k,g (k + 1) = f k) (hf : Evr f r) : Evr g r:=by
 obtain ⟨K,hK⟩:=hf
 refine ⟨K + 1,fun k hk=>?_⟩
 obtain ⟨k,rfl⟩ : ∃ q,k = q + 1:=⟨k - 1,by omega⟩
 rw [h k]
 exact hK k (by omega)
theorem Evr.bind {α β : Type} {g : Nat→Option α} {f : Nat→α→Option β} {a : α} {r : β} (h : Evr g a) (hf : Evr (fun k=>f k a) r) : Evr (fun k=>(g k).bind (f k)) r:=by
 obtain ⟨K,hK⟩:=h
 obtain ⟨L,hL⟩:=hf
 exact ⟨K + L,fun k hk=>by show (g k).bind (f k) = some r;rw [hK k (by omega),Option.bind_some];exact hL k (by omega)⟩
theorem Evr.of_mono {α : Type} {g : Nat→Option α} {r : α} (hm : ∀ k a,g k = some a→g (k + 1) = some a) {K : Nat} (h : g K = some r) : Evr g r:=by
 refine ⟨K,fun k hk=>?_⟩
 obtain ⟨d,rfl⟩:=Nat.exists_eq_add_of_le hk
 clear hk
 induction d with
 | zero=>exact h
 | succ d ih=>exact hm _ _ ih
theorem Evr.congr {α : Type} {f g : Nat→Option α} {r : α} (h : ∀ k,g k = f k) (hf : Evr f r) : Evr g r:=by
 obtain ⟨K,hK⟩:=hf
 exact ⟨K,fun k hk=>(h k).trans (hK k hk)⟩
abbrev VX (l : List S29) (x : Nat) : S29:=rd_T29 l (x : Int)
theorem wrap_id {a : Int} (h : -9223372036854775808≤a∧a≤9223372036854775807) : wrap64 a = a:=by unfold wrap64;omega
theorem leaves_at {l : List S29} {n : Nat} (h : l.length = 2 * n - 1) (hn : 1≤n) (hn2 : n≤1000) : r4Leaves.f l = some (n : Int)∧tree_Leaves.f l = some (n : Int):=by
 unfold r4Leaves.f tree_Leaves.f
 rw [wrap_id (a:=(l.length : Int) + 1) (by omega),Int.tdiv_eq_ediv_of_nonneg (by omega),wrap_id (by omega)]
 have : ((l.length : Int) + 1) / 2 = (n : Int):=by omega
 rw [this]
 exact ⟨rfl,rfl⟩
def fullB (l : List S29) (n : Nat) (i : Int) : Bool:=decide (0≤i) && decide (i < (n : Int)) && (rd_T29 l (2 * i)).f0
theorem full_same {l : List S29} {n : Nat} (h : l.length = 2 * n - 1) (hn : 1≤n) (hn2 : n≤1000) (i : Int) : r4Full.f l i = some (fullB l n i)∧tree_full.f l i = some (fullB l n i):=by
 unfold r4Full.f tree_full.f fullB
 rw [(leaves_at h hn hn2).1,(leaves_at h hn hn2).2]
 by_cases h1 : i≥0
 · simp only [if_pos h1,Option.bind_some,decide_eq_true (show 0≤i by omega),Bool.true_and]
   by_cases h2 : i < (n : Int)
   · simp only [if_pos h2,decide_eq_true h2,Bool.true_and]
     rw [wrap_id (by omega)]
     simp only [if_pos (show 0≤2 * i by omega),if_pos (show 2 * i < (l.length : Int) by omega),and_self]
   · simp only [if_neg h2,decide_eq_false h2,Bool.false_and,and_self]
 · simp only [if_neg h1,decide_eq_false (show ¬ 0≤i by omega),Bool.false_and,and_self]
theorem fullB_lt {l : List S29} {n : Nat} {i : Int} (h : fullB l n i = true) : 0≤i∧i < n:=by
 unfold fullB at h
 simp only [Bool.and_eq_true,decide_eq_true_eq] at h
 exact ⟨h.1.1,h.1.2⟩
theorem ints_l0 (l m : List Int) (he : l.length = m.length) (hl : l.length≤100000000000000000) : ∀ (n k i : Nat),n + i = l.length→n < k→r1Ints.l0 k l m (i : Int) = some (decide (l.drop i = m.drop i))
 | 0,k + 1,i,hn,hk=>by
  rw [r1Ints.l0,if_neg (by omega),List.drop_eq_nil_of_le (by omega),List.drop_eq_nil_of_le (by omega)]
  rfl
 | n + 1,k + 1,i,hn,hk=>by
  rw [r1Ints.l0,if_pos (by omega),if_pos (by omega),if_pos (by omega)]
  have e1 : rd l (i : Int) = l[i]'(by omega):=by simp [rd,List.getD_eq_getElem?_getD,List.getElem?_eq_getElem (show i < l.length by omega)]
  have e2 : rd m (i : Int) = m[i]'(by omega):=by simp [rd,List.getD_eq_getElem?_getD,List.getElem?_eq_getElem (show i < m.length by omega)]
  have d1 : l.drop i = l[i]'(by omega) :: l.drop (i + 1):=List.drop_eq_getElem_cons (by omega)
  have d2 : m.drop i = m[i]'(by omega) :: m.drop (i + 1):=List.drop_eq_getElem_cons (by omega)
  rw [d1,d2,e1,e2]
  by_cases c : l[i]'(by omega) = m[i]'(by omega)
  · rw [if_pos c,wrap_id (by omega),show (i : Int) + 1 = ((i + 1 : Nat) : Int) by omega,ints_l0 l m he hl n k (i + 1) (by omega) (by omega)]
    congr 1
    rw [decide_eq_decide,c,List.cons.injEq]
    exact ⟨fun h=>⟨rfl,h⟩,fun h=>h.2⟩
  · rw [if_neg c]
    congr 1
    exact (decide_eq_false fun h=>c (List.cons.inj h).1).symm
theorem ints_ev (l m : List Int) (hl : l.length≤100000000000000000) : Evr (fun k=>r1Ints.f k l m) (decide (l = m)):=by
 refine ⟨l.length + 1,fun k hk=>?_⟩
 show r1Ints.f k l m = _
 unfold r1Ints.f
 by_cases he : l.length = m.length
 · rw [if_pos (by omega)]
   have:=ints_l0 l m he hl l.length k 0 (by omega) (by omega)
   simpa using this
 · rw [if_neg (by omega),decide_eq_false (fun e=>he (by rw [e]))]
theorem VX_at {l : List S29} {i : Nat} (h : i < l.length) : VX l i = l[i]:=by
 show rd_T29 l (i : Int) = _
 unfold rd_T29
 rw [Int.toNat_natCast,List.getD_eq_getElem?_getD,List.getElem?_eq_getElem h];rfl
theorem same_refl {l : List S29} (hl : l.length≤1000) (h5 : ∀ v ∈ l,v.f5.length≤100000000000000000) : Evr (fun k=>r4Same.f k l l) true:=by
 have hl0 : ∀ (d i : Nat),d + i = l.length→Evr (fun k=>r4Same.l0 k l l (i : Int)) true:=by
  intro d
  induction d with
  | zero=>exact fun i hd=>.succ (f:=fun _=>some true) (fun k=>by rw [r4Same.l0,if_neg (by omega)]) (.const fun _=>rfl)
  | succ d ih=>
   intro i hd
   have hn:=ih (i + 1) (by omega)
   have hi:=ints_ev (VX l i).f5 (VX l i).f5 (by rw [VX_at (show i < l.length by omega)];exact h5 _ (List.getElem_mem _))
   refine .succ (f:=fun k=>(r1Ints.f k (VX l i).f5 (VX l i).f5).bind fun t=>if t = true then r4Same.l0 k l l ((i : Int) + 1) else some false) (fun k=>?_) (.bind hi ?_)
   · rw [r4Same.l0,if_pos (by omega),if_pos (by omega),if_pos (by omega),if_neg (by simp),if_pos rfl,if_pos rfl,if_pos rfl,if_pos rfl,wrap_id (by omega)]
   · rw [decide_eq_true rfl]
     exact hn
 unfold r4Same.f
 simp only [if_true]
 exact hl0 l.length 0 (by omega)
theorem copy_ev {l : List S29} (hl : l.length≤1000) (h5 : ∀ v ∈ l,v.f5.length < 17592186044416) : Evr (fun k=>r4Copy.f k l) l:=by
 have hl0 : ∀ (d i : Nat),d + i = l.length→Evr (fun k=>r4Copy.l0 k l (l.take i) (i : Int)) l:=by
  intro d
  induction d with
  | zero=>
   intro i hd
   refine .succ (f:=fun _=>some l) (fun k=>?_) (.const fun _=>rfl)
   rw [r4Copy.l0,if_neg (by omega),List.take_of_length_le (by omega)]
  | succ d ih=>
   intro i hd
   have hi : i < l.length:=by omega
   have hn:=ih (i + 1) (by omega)
   refine .succ (fun k=>?_) hn
   have e : rd_T29 l (i : Int) = l[i]:=VX_at hi
   rw [r4Copy.l0,if_pos (by omega),if_pos (by omega),Option.bind_some,e,if_pos (by have:=h5 _ (List.getElem_mem hi);simpa using this),if_pos (by simp;omega),wrap_id (by omega),List.take_add_one,List.getElem?_eq_getElem hi]
   rfl
 exact hl0 l.length 0 (by omega)
end Go.Proofs.YtbblomnhobodkaaDoor.Pure
set_option linter.unusedVariables false
set_option linter.unusedSimpArgs false
namespace Go.Proofs.YtbblomnhobodkaaDoor.Pure
open Go.RowKit Go.Proofs.YtbblomnhobodkaaDoor Go.Proofs.YtbblomnhobodkaaDoor.PTw Go.Proofs.YtbblomnhobodkaaDoorW.PW
def mkT (N : Nat) (g : Nat→S29) : List S29:=(List.range N).map g
theorem mkT_len (N : Nat) (g : Nat→S29) : (mkT N g).length = N:=by simp [mkT]
theorem mkT_get {N : Nat} {g : Nat→S29} {x : Nat} (h : x < N) : VX (mkT N g) x = g x:=by
 rw [VX_at (by rw [mkT_len];exact h)]
 simp [mkT]
theorem VX_out {l : List S29} {x : Nat} (h : l.length≤x) : VX l x = z29:=by
 show rd_T29 l (x : Int) = _
 unfold rd_T29
 rw [Int.toNat_natCast,List.getD_eq_getElem?_getD,List.getElem?_eq_none h]
 rfl
theorem mkT_self (l : List S29) : l = mkT l.length (VX l):=by
 refine List.ext_getElem (by rw [mkT_len]) fun i h1 h2=>?_
 rw [← VX_at h1]
 simp [mkT]
theorem mkT_congr {N : Nat} {g g' : Nat→S29} (h : ∀ x,x < N→g x = g' x) : mkT N g = mkT N g':=by
 unfold mkT
 exact List.map_congr_left fun x hx=>h x (List.mem_range.1 hx)
theorem mkT_set {N : Nat} {g : Nat→S29} {i : Nat} {v : S29} : (mkT N g).set i v = mkT N (fun x=>if x = i then v else g x):=by
 refine List.ext_getElem (by simp [mkT_len]) fun x h1 h2=>?_
 rw [List.getElem_set]
 simp only [mkT,List.getElem_map,List.getElem_range]
 by_cases c : i = x
 · rw [if_pos c,if_pos c.symm]
 · rw [if_neg c,if_neg (fun e=>c e.symm)]
theorem mkT_app {N M : Nat} {g : Nat→S29} (h : ∀ x,N≤x→g x = z29) : mkT N g ++ List.replicate M z29 = mkT (N + M) g:=by
 refine List.ext_getElem (by simp [mkT_len]) fun x h1 h2=>?_
 rw [List.getElem_append]
 by_cases c : x < N
 · rw [dif_pos (by rw [mkT_len];exact c)]
   simp [mkT]
 · rw [dif_neg (by rw [mkT_len];exact c),List.getElem_replicate]
   simp only [mkT,List.getElem_map,List.getElem_range]
   exact (h x (by omega)).symm
theorem mkT_take {N M : Nat} {g : Nat→S29} (h : M≤N) : (mkT N g).take M = mkT M g:=by
 refine List.ext_getElem (by simp [mkT_len];omega) fun x h1 h2=>?_
 rw [List.getElem_take]
 simp [mkT]
def pathN (i m : Nat) : List Nat:=(List.range m).map fun k=>i / 2 ^ (k + 1) * 2 ^ (k + 2) + 2 ^ (k + 1) - 1
def ints (l : List Nat) : List Int:=l.map fun (x : Nat)=>(x : Int)
theorem ints_len (l : List Nat) : (ints l).length = l.length:=by simp [ints]
theorem ints_at {l : List Nat} {j : Nat} (h : j < l.length) : rd (ints l) (j : Int) = (l[j] : Int):=by
 simp [rd,ints,List.getD_eq_getElem?_getD,List.getElem?_eq_getElem h]
set_option maxRecDepth 100000 in
theorem path_fin : ∀ m : Fin 6,∀ i : Fin 32,i.val < 2 ^ m.val→heap_Path.f (2 * (i.val : Int)) ((2 ^ m.val : Nat) : Int) = some (ints (pathN i.val m.val),0):=by decide +kernel
theorem path_at {m i : Nat} (hm : m≤5) (hi : i < 2 ^ m) : heap_Path.f (2 * (i : Int)) ((2 ^ m : Nat) : Int) = some (ints (pathN i m),0):=by
 have h32 : i < 32:=Nat.lt_of_lt_of_le hi (Nat.le_trans (Nat.pow_le_pow_right (by decide) hm) (by decide))
 exact path_fin ⟨m,by omega⟩ ⟨i,h32⟩ hi
theorem pathN_fin : ∀ m : Fin 6,∀ i : Fin 32,i.val < 2 ^ m.val→(pathN i.val m.val).Nodup∧∀ x ∈ pathN i.val m.val,x % 2 = 1∧x < 2 * 2 ^ m.val - 1:=by decide +kernel
theorem pathN_ok {m i : Nat} (hm : m≤5) (hi : i < 2 ^ m) : (pathN i m).Nodup∧∀ x ∈ pathN i m,x % 2 = 1∧x < 2 * 2 ^ m - 1:=by
 have h32 : i < 32:=Nat.lt_of_lt_of_le hi (Nat.le_trans (Nat.pow_le_pow_right (by decide) hm) (by decide))
 exact pathN_fin ⟨m,by omega⟩ ⟨i,h32⟩ hi
theorem pow_le32 {m : Nat} (hm : m≤5) : 1≤2 ^ m∧2 ^ m≤32:=⟨Nat.one_le_two_pow,Nat.le_trans (Nat.pow_le_pow_right (by decide) hm) (by decide)⟩
theorem mem_cut {P : List Nat} {j x : Nat} (hj : j < P.length) : x ∈ P.drop j↔x = P[j]∨x ∈ P.drop (j + 1):=by
 rw [List.drop_eq_getElem_cons hj,List.mem_cons]
theorem clean_l0 (P : List Nat) (N : Nat) (hP : ∀ x ∈ P,x < N) (hl : P.length≤1000) : ∀ (d j : Nat) (g : Nat→S29),d + j = P.length→Evr (fun k=>tree_clean.l0 k (ints P) ((ints P).length : Int) (j : Int) (mkT N g)) (mkT N (fun x=>if x ∈ P.drop j then z29 else g x)):=by
 intro d
 induction d with
 | zero=>
  intro j g hd
  refine .succ (f:=fun _=>some (mkT N g)) (fun k=>by rw [tree_clean.l0,ints_len,if_neg (by omega)]) (.const fun _=>?_)
  rw [List.drop_eq_nil_of_le (by omega)]
  simp only [List.not_mem_nil,if_false]
 | succ d ih=>
  intro j g hd
  have hj : j < P.length:=by omega
  have hx:=hP _ (List.getElem_mem hj)
  have mem:=fun x=>mem_cut hj (x:=x)
  have h1:=ih (j + 1) (fun x=>if x = P[j] then z29 else g x) (by omega)
  refine .succ (f:=fun k=>tree_clean.l0 k (ints P) ((ints P).length : Int) ((j + 1 : Nat) : Int) (mkT N (fun x=>if x = P[j] then z29 else g x))) (fun k=>?_) ?_
  · rw [tree_clean.l0,ints_len,if_pos (by omega),if_pos (by omega),if_pos (by omega),ints_at hj,if_pos (by omega),mkT_len,if_pos (by omega),wrap_id (by omega),Int.toNat_natCast,show (j : Int) + 1 = ((j + 1 : Nat) : Int) by omega,← mkT_set]
    rfl
  · have e : (mkT N fun x=>if x ∈ P.drop j then z29 else g x) = mkT N (fun x=>if x ∈ P.drop (j + 1) then z29 else if x = P[j] then z29 else g x):=mkT_congr fun x _=>by
     by_cases c1 : x = P[j]
     · rw [if_pos ((mem x).2 (.inl c1)),if_pos c1,ite_self]
     · by_cases c2 : x ∈ P.drop (j + 1)
       · rw [if_pos ((mem x).2 (.inr c2)),if_pos c2]
       · rw [if_neg (fun hh=>((mem x).1 hh).elim c1 c2),if_neg c2,if_neg c1]
    rw [e]
    exact h1
theorem clean_ev {m i : Nat} (hm : m≤5) (hi : i < 2 ^ m) (g : Nat→S29) : Evr (fun k=>tree_clean.f k (mkT (2 * 2 ^ m - 1) g) (i : Int)) (mkT (2 * 2 ^ m - 1) (fun x=>if x ∈ pathN i m then z29 else g x)):=by
 have hp:=pow_le32 hm
 unfold tree_clean.f
 rw [(leaves_at (l:=mkT (2 * 2 ^ m - 1) g) (n:=2 ^ m) (mkT_len _ _) hp.1 (by omega)).2]
 simp only [Option.bind_some]
 rw [wrap_id (by omega),path_at hm hi]
 simp only [Option.bind_some]
 have h:=clean_l0 (pathN i m) (2 * 2 ^ m - 1) (fun x hx=>((pathN_ok hm hi).2 x hx).2) (by simp [pathN];omega) (pathN i m).length 0 g (by omega)
 rw [List.drop_zero] at h
 exact h
theorem copied_at {l : List S29} (k : Nat) (hl : l.length≤1000) (h5 : ∀ v ∈ l,v.f5.length < 17592186044416) : tree_copied.f k l = some l:=by
 unfold tree_copied.f
 rw [if_pos (by omega),if_pos]
 rw [List.all_eq_true]
 intro v hv
 exact decide_eq_true (h5 v hv)
def insN (l : List Int) (i : Int) : List Int:=l.take (l.countP (· < i)) ++ i :: l.drop (l.countP (· < i))
def lateIn (v : S29) (i : Int) : S29:=⟨v.f0,v.f1,v.f2,v.f3,v.f4,insN v.f5 i⟩
theorem add_l1 (P : List Nat) (N : Nat) (hP : ∀ x ∈ P,x < N) (hN : P.Nodup) (hl : P.length≤1000) (i : Int) : ∀ (d j : Nat) (g : Nat→S29),d + j = P.length→(∀ x ∈ P.drop j,(g x).f0 = true→(g x).f5.Pairwise (·≤·)∧(g x).f5.length≤1000)→
 Evr (fun k=>tree_Add.l1 k i (mkT N g) (ints P) ((ints P).length : Int) (j : Int)) (mkT N (fun x=>if x ∈ P.drop j∧(g x).f0 = true then lateIn (g x) i else g x),i,0):=by
 intro d
 induction d with
 | zero=>
  intro j g hd _
  refine .succ (f:=fun _=>some (mkT N g,i,0)) (fun k=>by rw [tree_Add.l1,ints_len,if_neg (by omega)]) (.const fun _=>?_)
  rw [List.drop_eq_nil_of_le (by omega)]
  simp only [List.not_mem_nil,false_and,if_false]
 | succ d ih=>
  intro j g hd hg
  have hj : j < P.length:=by omega
  have hx:=hP _ (List.getElem_mem hj)
  have hdrop:=List.drop_eq_getElem_cons hj
  have mem:=fun x=>mem_cut hj (x:=x)
  have hnot : P[j] ∉ P.drop (j + 1):=by
   have:=hN
   rw [← List.take_append_drop j P,hdrop] at this
   have:=(List.nodup_append.1 this).2.1
   exact (List.nodup_cons.1 this).1
  by_cases c : (g P[j]).f0 = true
  · obtain ⟨hs,hlen⟩:=hg P[j] (by rw [hdrop];exact List.mem_cons_self ..) c
    have h1:=ih (j + 1) (fun x=>if x = P[j] then lateIn (g P[j]) i else g x) (by omega) (fun x hx2=>by
     have : x≠P[j]:=fun e=>hnot (by rw [← e];exact hx2)
     simp only [this,if_false]
     exact hg x (by rw [hdrop];exact List.mem_cons_of_mem _ hx2))
    have hcnt:=List.countP_le_length (p:=fun a=>decide (a < i)) (l:=(g P[j]).f5)
    refine .succ (f:=fun k=>tree_Add.l1 k i (mkT N (fun x=>if x = P[j] then lateIn (g P[j]) i else g x)) (ints P) ((ints P).length : Int) ((j + 1 : Nat) : Int)) (fun k=>?_) ?_
    · rw [tree_Add.l1,ints_len,if_pos (by omega),if_pos (by omega),if_pos (by omega),ints_at hj,if_pos (by omega),mkT_len,if_pos (by omega)]
      have e : rd_T29 (mkT N g) (P[j] : Int) = g P[j]:=mkT_get hx
      rw [e,if_pos c]
      unfold sBS.f
      rw [if_pos (by omega),if_pos hs,Option.bind_some]
      unfold sIn.f
      rw [if_pos (by omega),if_pos (by omega),if_pos (by omega)]
      simp only [Option.bind_some,Int.toNat_natCast]
      rw [mkT_set,wrap_id (by omega),show (j : Int) + 1 = ((j + 1 : Nat) : Int) by omega]
      rfl
    · have e : (mkT N fun x=>if x ∈ P.drop j∧(g x).f0 = true then lateIn (g x) i else g x) = mkT N (fun x=>if x ∈ P.drop (j + 1)∧(if x = P[j] then lateIn (g P[j]) i else g x).f0 = true then lateIn (if x = P[j] then lateIn (g P[j]) i else g x) i else if x = P[j] then lateIn (g P[j]) i else g x):=mkT_congr fun x _=>by
       by_cases c1 : x = P[j]
       · have c' : (g x).f0 = true:=by rw [c1];exact c
         rw [if_pos ⟨(mem x).2 (.inl c1),c'⟩,if_neg (fun hh=>hnot (by rw [← c1];exact hh.1)),if_pos c1,c1]
       · simp only [if_neg c1]
         by_cases c2 : x ∈ P.drop (j + 1)∧(g x).f0 = true
         · rw [if_pos c2,if_pos ⟨(mem x).2 (.inr c2.1),c2.2⟩]
         · rw [if_neg c2,if_neg (fun hh=>((mem x).1 hh.1).elim c1 (fun h2=>c2 ⟨h2,hh.2⟩))]
      rw [e]
      exact h1
  · have h1:=ih (j + 1) g (by omega) (fun x hx2=>hg x (by rw [hdrop];exact List.mem_cons_of_mem _ hx2))
    refine .succ (f:=fun k=>tree_Add.l1 k i (mkT N g) (ints P) ((ints P).length : Int) ((j + 1 : Nat) : Int)) (fun k=>?_) ?_
    · rw [tree_Add.l1,ints_len,if_pos (by omega),if_pos (by omega),if_pos (by omega),ints_at hj,if_pos (by omega),mkT_len,if_pos (by omega)]
      have e : rd_T29 (mkT N g) (P[j] : Int) = g P[j]:=mkT_get hx
      rw [e,if_neg c,wrap_id (by omega),show (j : Int) + 1 = ((j + 1 : Nat) : Int) by omega]
    · have e : (mkT N fun x=>if x ∈ P.drop j∧(g x).f0 = true then lateIn (g x) i else g x) = mkT N (fun x=>if x ∈ P.drop (j + 1)∧(g x).f0 = true then lateIn (g x) i else g x):=mkT_congr fun x _=>by
       by_cases c1 : x = P[j]
       · rw [if_neg (fun hh=>c (by rw [← c1];exact hh.2)),if_neg (fun hh=>hnot (by rw [← c1];exact hh.1))]
       · by_cases c2 : x ∈ P.drop (j + 1)∧(g x).f0 = true
         · rw [if_pos c2,if_pos ⟨(mem x).2 (.inr c2.1),c2.2⟩]
         · rw [if_neg c2,if_neg (fun hh=>((mem x).1 hh.1).elim c1 (fun h2=>c2 ⟨h2,hh.2⟩))]
      rw [e]
      exact h1
def addL (l : List S29) (i m : Nat) (leaf : S29) : List S29:=mkT (2 * 2 ^ m - 1) (fun x=>if x ∈ pathN i m∧(VX l x).f0 = true then lateIn (VX l x) i else if x = 2 * i then leaf else VX l x)
structure LateOk (l : List S29) : Prop where
 len : ∀ v ∈ l,v.f5.length≤1000
 up : ∀ v ∈ l,v.f0 = true→v.f5.Pairwise (·≤·)
theorem LateOk.at {l : List S29} (h : LateOk l) (x : Nat) : (VX l x).f5.length≤1000∧((VX l x).f0 = true→(VX l x).f5.Pairwise (·≤·)):=by
 by_cases c : x < l.length
 · rw [VX_at c];exact ⟨h.len _ (List.getElem_mem c),h.up _ (List.getElem_mem c)⟩
 · rw [VX_out (by omega)]
   exact ⟨by simp [z29],fun e=>by simp [z29] at e⟩
end Go.Proofs.YtbblomnhobodkaaDoor.Pure
set_option linter.unusedVariables false
set_option linter.unusedSimpArgs false
namespace Go.Proofs.YtbblomnhobodkaaDoor.Pure
open Go.RowKit Go.Proofs.YtbblomnhobodkaaDoor Go.Proofs.YtbblomnhobodkaaDoor.PTw Go.Proofs.YtbblomnhobodkaaDoorW.PW
theorem add_j3_open {N m i : Nat} (hm : m≤5) (hi : i < 2 ^ m) (hN : N = 2 * 2 ^ m - 1) (g : Nat→S29) (f0 : Bool) (f1 f2 f3 f4 : Int) (l5 : List Int) (k : Nat) :
 tree_Add.j3 (k + 1) ((2 ^ m : Nat) : Int) (i : Int) (mkT N g) f0 f1 f2 f3 f4 l5 = tree_Add.l1 k (i : Int) (mkT N (fun x=>if x = 2 * i then ⟨true,f1,f2,f3,f4,[]⟩ else g x)) (ints (pathN i m)) ((ints (pathN i m)).length : Int) 0:=by
 have hp:=pow_le32 hm
 have hpa:=path_at hm hi
 generalize 2 ^ m = n at *
 rw [tree_Add.j3]
 have hlo : tree_leafOf.f f0 f1 f2 f3 f4 l5 = some (true,f1,f2,f3,f4,[]):=rfl
 rw [hlo,Option.bind_some,wrap_id (by omega),if_pos (by omega),mkT_len,if_pos (by omega),hpa,Option.bind_some,show (2 * (i : Int)).toNat = 2 * i by omega,mkT_set]
theorem add_j3 {N m i : Nat} (hm : m≤5) (hi : i < 2 ^ m) (hN : N = 2 * 2 ^ m - 1) (g : Nat→S29) (hg : ∀ x,(g x).f5.length≤1000∧((g x).f0 = true→(g x).f5.Pairwise (·≤·))) (f0 : Bool) (f1 f2 f3 f4 : Int) (l5 : List Int) :
 Evr (fun k=>tree_Add.j3 k ((2 ^ m : Nat) : Int) (i : Int) (mkT N g) f0 f1 f2 f3 f4 l5) (mkT N (fun x=>if x ∈ pathN i m∧(g x).f0 = true then lateIn (g x) i else if x = 2 * i then ⟨true,f1,f2,f3,f4,[]⟩ else g x),(i : Int),0):=by
 have hok:=pathN_ok hm hi
 have hpl : (pathN i m).length≤1000:=by simp [pathN];omega
 have hop:=add_j3_open hm hi hN g f0 f1 f2 f3 f4 l5
 generalize pathN i m = P at *
 generalize ((2 ^ m : Nat) : Int) = n at *
 have h:=add_l1 P N (fun x hx=>by have:=(hok.2 x hx).2;omega) hok.1 hpl (i : Int) P.length 0 (fun x=>if x = 2 * i then ⟨true,f1,f2,f3,f4,[]⟩ else g x) (by omega) (fun x hx=>by
  have h2:=(hok.2 x hx).1
  have : x≠2 * i:=by omega
  simp only [this,if_false]
  exact fun hf=>⟨(hg x).2 hf,(hg x).1⟩)
 refine .succ hop ?_
 have e : (mkT N fun x=>if x ∈ P∧(g x).f0 = true then lateIn (g x) i else if x = 2 * i then ⟨true,f1,f2,f3,f4,[]⟩ else g x) = mkT N (fun x=>if x ∈ P.drop 0∧(if x = 2 * i then (⟨true,f1,f2,f3,f4,[]⟩ : S29) else g x).f0 = true then lateIn (if x = 2 * i then (⟨true,f1,f2,f3,f4,[]⟩ : S29) else g x) i else if x = 2 * i then ⟨true,f1,f2,f3,f4,[]⟩ else g x):=mkT_congr fun x _=>by
  rw [List.drop_zero]
  by_cases c : x = 2 * i
  · have hn : x ∉ P:=fun hx=>by have:=(hok.2 x hx).1;omega
    rw [if_neg (fun hh=>hn hh.1),if_pos c,if_neg (fun hh=>hn hh.1)]
  · simp only [if_neg c]
 rw [e]
 exact h
theorem add_l0 {l : List S29} {n : Nat} (h : l.length = 2 * n - 1) (hn : 1≤n) (hn2 : n≤32) (f0 : Bool) (f1 f2 f3 f4 : Int) (l5 : List Int) {i : Nat} (hi : i≤n) (hfull : ∀ j,j < i→(VX l (2 * j)).f0 = true) (hfree : i < n→(VX l (2 * i)).f0 = false) {r : List S29 × Int × Int} (hr : Evr (fun k=>tree_Add.j1 k l (n : Int) (i : Int) f0 f1 f2 f3 f4 l5) r) : ∀ (d j : Nat),d + j = i→Evr (fun k=>tree_Add.l0 k l (n : Int) (j : Int) f0 f1 f2 f3 f4 l5) r:=by
 intro d
 induction d with
 | zero=>
  intro j hd
  have : j = i:=by omega
  subst this
  refine .succ (f:=fun k=>tree_Add.j1 k l (n : Int) (j : Int) f0 f1 f2 f3 f4 l5) (fun k=>?_) hr
  rw [tree_Add.l0]
  by_cases c : j < n
  · have e:=hfree c
    rw [if_pos (by omega),wrap_id (by omega),if_pos (by omega),if_pos (by omega)]
    have e' : (rd_T29 l (2 * (j : Int))).f0 = false:=e
    rw [e']
    rfl
  · rw [if_neg (by omega)]
 | succ d ih=>
  intro j hd
  refine .succ (fun k=>?_) (ih (j + 1) (by omega))
  have e' : (rd_T29 l (2 * (j : Int))).f0 = true:=hfull j (by omega)
  rw [tree_Add.l0,if_pos (by omega),wrap_id (a:=2 * (j : Int)) (by omega),if_pos (by omega),if_pos (by omega),e',if_pos rfl,wrap_id (by omega),show (j : Int) + 1 = ((j + 1 : Nat) : Int) by omega]
theorem add_ev {l : List S29} {m m' i : Nat} (hm : m≤5) (h : l.length = 2 * 2 ^ m - 1) (hl : LateOk l) (hi : i≤2 ^ m) (hfull : ∀ j,j < i→(VX l (2 * j)).f0 = true) (hfree : i < 2 ^ m→(VX l (2 * i)).f0 = false) (hm' : (i < 2 ^ m∧m' = m)∨(i = 2 ^ m∧m' = m + 1∧m'≤5)) (f0 : Bool) (f1 f2 f3 f4 : Int) (l5 : List Int) :
 Evr (fun k=>tree_Add.f k l f0 f1 f2 f3 f4 l5) (addL l i m' ⟨true,f1,f2,f3,f4,[]⟩,(i : Int),0):=by
 have hp:=pow_le32 hm
 have hg:=hl.at
 have h5 : ∀ v ∈ l,v.f5.length < 17592186044416:=fun v hv=>by have:=hl.len v hv;omega
 refine .congr (f:=fun k=>tree_Add.l0 k l ((2 ^ m : Nat) : Int) 0 f0 f1 f2 f3 f4 l5) (fun k=>by unfold tree_Add.f;rw [(leaves_at h hp.1 (by omega)).2,Option.bind_some]) ?_
 refine add_l0 h hp.1 hp.2 f0 f1 f2 f3 f4 l5 hi hfull hfree ?_ i 0 (by omega)
 rcases hm' with ⟨hlt,rfl⟩ | ⟨rfl,rfl,hm5⟩
 · refine .succ (f:=fun k=>tree_Add.j2 k l ((2 ^ m' : Nat) : Int) (i : Int) false f0 f1 f2 f3 f4 l5) (fun k=>?_) (.succ (f:=fun k=>tree_Add.j3 k ((2 ^ m' : Nat) : Int) (i : Int) l f0 f1 f2 f3 f4 l5) (fun k=>?_) ?_)
   · rw [tree_Add.j1,if_neg (by omega)]
   · rw [tree_Add.j2,if_neg (by decide),copied_at k (by omega) h5,Option.bind_some,if_neg (by omega)]
   · have:=add_j3 (N:=l.length) hm hlt h (VX l) hg f0 f1 f2 f3 f4 l5
     rw [← mkT_self l,h] at this
     exact this
 · refine .succ (f:=fun k=>tree_Add.j2 k l ((2 ^ m : Nat) : Int) ((2 ^ m : Nat) : Int) false f0 f1 f2 f3 f4 l5) (fun k=>?_) (.succ (f:=fun k=>tree_Add.j3 k ((2 ^ (m + 1) : Nat) : Int) ((2 ^ m : Nat) : Int) (mkT (2 * 2 ^ (m + 1) - 1) (VX l)) f0 f1 f2 f3 f4 l5) (fun k=>?_) ?_)
   · have h16 : 2 ^ m≤16:=Nat.le_trans (Nat.pow_le_pow_right (by decide) (show m≤4 by omega)) (by decide)
     rw [tree_Add.j1,if_pos rfl,decide_eq_false (by omega)]
   · have h16 : 2 ^ m≤16:=Nat.le_trans (Nat.pow_le_pow_right (by decide) (show m≤4 by omega)) (by decide)
     rw [tree_Add.j2,if_neg (by decide),copied_at k (by omega) h5,Option.bind_some,if_pos rfl,wrap_id (by omega),if_pos (by omega),if_pos (by omega),wrap_id (by omega)]
     have e1 : l ++ List.replicate (2 * ((2 ^ m : Nat) : Int)).toNat z29 = mkT (2 * 2 ^ (m + 1) - 1) (VX l):=by
      conv=>lhs;rw [mkT_self l]
      rw [mkT_app (fun x hx=>VX_out hx)]
      congr 1
      rw [h,Nat.pow_succ]
      omega
     rw [e1,show ((2 ^ m : Nat) : Int) * 2 = ((2 ^ (m + 1) : Nat) : Int) by rw [Nat.pow_succ];omega]
   · exact add_j3 hm5 (by rw [Nat.pow_succ];omega) rfl (VX l) hg f0 f1 f2 f3 f4 l5
theorem add_none {l : List S29} (h : l.length = 63) (hfull : ∀ j,j < 32→(VX l (2 * j)).f0 = true) (f0 : Bool) (f1 f2 f3 f4 : Int) (l5 : List Int) : Evr (fun k=>tree_Add.f k l f0 f1 f2 f3 f4 l5) ([],0,41):=by
 refine .congr (f:=fun k=>tree_Add.l0 k l 32 0 f0 f1 f2 f3 f4 l5) (fun k=>by unfold tree_Add.f;rw [(leaves_at (n:=32) (by omega) (by omega) (by omega)).2,Option.bind_some];rfl) ?_
 refine add_l0 (n:=32) (i:=32) (by omega) (by omega) (by omega) f0 f1 f2 f3 f4 l5 (by omega) hfull (by omega) ?_ 32 0 (by omega)
 refine .succ (f:=fun k=>tree_Add.j2 k l 32 32 true f0 f1 f2 f3 f4 l5) (fun k=>?_) (.succ (f:=fun _=>some (([] : List S29),0,41)) (fun k=>?_) (.const fun _=>rfl))
 · rw [tree_Add.j1];rfl
 · rw [tree_Add.j2,if_pos rfl]
end Go.Proofs.YtbblomnhobodkaaDoor.Pure
set_option linter.unusedVariables false
set_option linter.unusedSimpArgs false
namespace Go.Proofs.YtbblomnhobodkaaDoor.Pure
open Go.RowKit Go.Proofs.YtbblomnhobodkaaDoor Go.Proofs.YtbblomnhobodkaaDoor.PTw Go.Proofs.YtbblomnhobodkaaDoorW.PW
theorem ints_append (a b : List Nat) : ints (a ++ b) = ints a ++ ints b:=by simp [ints]
def fullN (l : List S29) (j d : Nat) : List Nat:=(List.range' j d).filter fun i=>(VX l (2 * i)).f0
theorem members_l0 {l : List S29} {n : Nat} (h : l.length = 2 * n - 1) (hn : 1≤n) (hn2 : n≤1000) : ∀ (d j : Nat) (acc : List Nat),d + j = n→acc.length≤j→Evr (fun k=>tree_Members.l0 k l (ints acc) (n : Int) (j : Int)) (ints (acc ++ fullN l j d)):=by
 intro d
 induction d with
 | zero=>
  intro j acc hd ha
  refine .succ (f:=fun _=>some (ints acc)) (fun k=>by rw [tree_Members.l0,if_neg (by omega)]) (.const fun _=>?_)
  simp [fullN]
 | succ d ih=>
  intro j acc hd ha
  have e0 : (rd_T29 l (2 * (j : Int))).f0 = (VX l (2 * j)).f0:=rfl
  have e1 : fullN l j (d + 1) = if (VX l (2 * j)).f0 = true then j :: fullN l (j + 1) d else fullN l (j + 1) d:=by
   unfold fullN
   rw [List.range'_succ,List.filter_cons]
  by_cases c : (VX l (2 * j)).f0 = true
  · rw [e1,if_pos c,show acc ++ j :: fullN l (j + 1) d = acc ++ [j] ++ fullN l (j + 1) d by simp]
    refine .succ (fun k=>?_) (ih (j + 1) (acc ++ [j]) (by omega) (by simp;omega))
    rw [tree_Members.l0,if_pos (by omega),wrap_id (a:=2 * (j : Int)) (by omega),if_pos (by omega),if_pos (by omega),e0,if_pos c,ints_len,if_pos (by omega),wrap_id (by omega),show (j : Int) + 1 = ((j + 1 : Nat) : Int) by omega,ints_append]
    rfl
  · rw [e1,if_neg c]
    refine .succ (fun k=>?_) (ih (j + 1) acc (by omega) (by omega))
    rw [tree_Members.l0,if_pos (by omega),wrap_id (a:=2 * (j : Int)) (by omega),if_pos (by omega),if_pos (by omega),e0,if_neg c,wrap_id (by omega),show (j : Int) + 1 = ((j + 1 : Nat) : Int) by omega]
theorem members_ev {l : List S29} {n : Nat} (h : l.length = 2 * n - 1) (hn : 1≤n) (hn2 : n≤1000) : Evr (fun k=>tree_Members.f k l) (ints (fullN l 0 n)):=by
 refine .congr (f:=fun k=>tree_Members.l0 k l (ints []) (n : Int) 0) (fun k=>by unfold tree_Members.f;rw [(leaves_at h hn hn2).2,Option.bind_some];rfl) ?_
 have:=members_l0 h hn hn2 n 0 [] (by omega) (by simp)
 rw [List.nil_append] at this
 exact this
theorem tight_no {l : List S29} {n : Nat} (h : l.length = 2 * n - 1) (hn : 1≤n) (hn2 : n≤1000) (hno : ∀ i,n / 2≤i→i < n→(VX l (2 * i)).f0 = false) : Evr (fun k=>tree_tight.f k l) false:=by
 have hl0 : ∀ (d j : Nat),d + j = n→n / 2≤j→Evr (fun k=>tree_tight.l0 k l (n : Int) (j : Int)) false:=by
  intro d
  induction d with
  | zero=>exact fun j hd _=>.succ (f:=fun _=>some false) (fun k=>by rw [tree_tight.l0,if_neg (by omega)]) (.const fun _=>rfl)
  | succ d ih=>
   intro j hd hj
   have e0 : (rd_T29 l (2 * (j : Int))).f0 = false:=hno j hj (by omega)
   refine .succ (fun k=>?_) (ih (j + 1) (by omega) (by omega))
   rw [tree_tight.l0,if_pos (by omega),wrap_id (a:=2 * (j : Int)) (by omega),if_pos (by omega),if_pos (by omega),e0,if_neg (by decide),wrap_id (by omega),show (j : Int) + 1 = ((j + 1 : Nat) : Int) by omega]
 refine .congr (f:=fun k=>tree_tight.l0 k l (n : Int) ((n / 2 : Nat) : Int)) (fun k=>?_) (hl0 (n - n / 2) (n / 2) (by omega) (Nat.le_refl _))
 unfold tree_tight.f
 rw [(leaves_at h hn hn2).2,Option.bind_some,Int.tdiv_eq_ediv_of_nonneg (by omega),wrap_id (by omega),show (n : Int) / 2 = ((n / 2 : Nat) : Int) by omega]
theorem tight_yes {l : List S29} {n : Nat} (h : l.length = 2 * n - 1) (hn : 1≤n) (hn2 : n≤1000) {i : Nat} (hi : n / 2≤i) (hi2 : i < n) (hf : (VX l (2 * i)).f0 = true) : Evr (fun k=>tree_tight.f k l) true:=by
 have hl0 : ∀ (d j : Nat),d + j = i→Evr (fun k=>tree_tight.l0 k l (n : Int) (j : Int)) true:=by
  intro d
  induction d with
  | zero=>
   intro j hd
   have : j = i:=by omega
   subst this
   refine .succ (f:=fun _=>some true) (fun k=>?_) (.const fun _=>rfl)
   have e0 : (rd_T29 l (2 * (j : Int))).f0 = true:=hf
   rw [tree_tight.l0,if_pos (by omega),wrap_id (a:=2 * (j : Int)) (by omega),if_pos (by omega),if_pos (by omega),e0,if_pos rfl]
  | succ d ih=>
   intro j hd
   by_cases c : (rd_T29 l (2 * (j : Int))).f0 = true
   · refine .succ (f:=fun _=>some true) (fun k=>?_) (.const fun _=>rfl)
     rw [tree_tight.l0,if_pos (by omega),wrap_id (a:=2 * (j : Int)) (by omega),if_pos (by omega),if_pos (by omega),if_pos c]
   · refine .succ (fun k=>?_) (ih (j + 1) (by omega))
     rw [tree_tight.l0,if_pos (by omega),wrap_id (a:=2 * (j : Int)) (by omega),if_pos (by omega),if_pos (by omega),if_neg c,wrap_id (by omega),show (j : Int) + 1 = ((j + 1 : Nat) : Int) by omega]
 refine .congr (f:=fun k=>tree_tight.l0 k l (n : Int) ((n / 2 : Nat) : Int)) (fun k=>?_) (hl0 (i - n / 2) (n / 2) (by omega))
 unfold tree_tight.f
 rw [(leaves_at h hn hn2).2,Option.bind_some,Int.tdiv_eq_ediv_of_nonneg (by omega),wrap_id (by omega),show (n : Int) / 2 = ((n / 2 : Nat) : Int) by omega]
structure Tops (g : Nat→S29) (m m' : Nat) : Prop where
 le : m'≤m
 no : ∀ i,2 ^ m'≤i→i < 2 ^ m→(g (2 * i)).f0 = false
 yes : ∃ i,2 ^ m' / 2≤i∧i < 2 ^ m'∧(g (2 * i)).f0 = true
theorem shrink {g : Nat→S29} {m' : Nat} : ∀ (m : Nat),m≤5→Tops g m m'→Evr (fun k=>tree_Remove.l0 k (mkT (2 * 2 ^ m - 1) g)) (mkT (2 * 2 ^ m' - 1) g,0):=by
 intro m
 induction m with
 | zero=>
  intro hm ht
  have : m' = 0:=by have:=ht.le;omega
  subst this
  obtain ⟨i,h1,h2,h3⟩:=ht.yes
  have:=tight_yes (l:=mkT (2 * 2 ^ 0 - 1) g) (n:=2 ^ 0) (mkT_len _ _) (by decide) (by decide) h1 h2 (by rw [mkT_get (by omega)];exact h3)
  exact .succ (f:=fun k=>(tree_tight.f k (mkT (2 * 2 ^ 0 - 1) g)).bind fun b=>if b = true then some (mkT (2 * 2 ^ 0 - 1) g,0) else tree_Remove.l0 k ((mkT (2 * 2 ^ 0 - 1) g).take ((mkT (2 * 2 ^ 0 - 1) g).length / 2))) (fun k=>by rw [tree_Remove.l0]) (this.bind (.const fun _=>by rw [if_pos rfl]))
 | succ m ih=>
  intro hm ht
  have hp:=pow_le32 (m:=m + 1) hm
  have hps : 2 ^ (m + 1) = 2 * 2 ^ m:=by rw [Nat.pow_succ];omega
  by_cases c : m' = m + 1
  · subst c
    obtain ⟨i,h1,h2,h3⟩:=ht.yes
    have:=tight_yes (l:=mkT (2 * 2 ^ (m + 1) - 1) g) (n:=2 ^ (m + 1)) (mkT_len _ _) hp.1 (by omega) h1 h2 (by rw [mkT_get (by omega)];exact h3)
    exact .succ (f:=fun k=>(tree_tight.f k (mkT (2 * 2 ^ (m + 1) - 1) g)).bind fun b=>if b = true then some (mkT (2 * 2 ^ (m + 1) - 1) g,0) else tree_Remove.l0 k ((mkT (2 * 2 ^ (m + 1) - 1) g).take ((mkT (2 * 2 ^ (m + 1) - 1) g).length / 2))) (fun k=>by rw [tree_Remove.l0]) (this.bind (.const fun _=>by rw [if_pos rfl]))
  · have hle : m'≤m:=by have:=ht.le;omega
    have hpm : 2 ^ m'≤2 ^ m:=Nat.pow_le_pow_right (by decide) hle
    have:=tight_no (l:=mkT (2 * 2 ^ (m + 1) - 1) g) (n:=2 ^ (m + 1)) (mkT_len _ _) hp.1 (by omega) (fun i h1 h2=>by rw [mkT_get (by omega)];exact ht.no i (by omega) h2)
    have hi:=ih (by omega) ⟨hle,fun i h1 h2=>ht.no i h1 (by omega),ht.yes⟩
    refine .succ (f:=fun k=>(tree_tight.f k (mkT (2 * 2 ^ (m + 1) - 1) g)).bind fun b=>if b = true then some (mkT (2 * 2 ^ (m + 1) - 1) g,0) else tree_Remove.l0 k ((mkT (2 * 2 ^ (m + 1) - 1) g).take ((mkT (2 * 2 ^ (m + 1) - 1) g).length / 2))) (fun k=>by rw [tree_Remove.l0]) (this.bind ?_)
    refine .congr (fun k=>?_) hi
    rw [if_neg (by decide),mkT_len,mkT_take (by omega),show (2 * 2 ^ (m + 1) - 1) / 2 = 2 * 2 ^ m - 1 by omega]
def cutG (l : List S29) (i m : Nat) : Nat→S29:=fun x=>if x ∈ pathN i m then z29 else if x = 2 * i then z29 else VX l x
theorem remove_ev {l : List S29} {m m' i : Nat} (hm : m≤5) (h : l.length = 2 * 2 ^ m - 1) (hl : LateOk l) (hi : i < 2 ^ m) (hf : (VX l (2 * i)).f0 = true) (hc : (fullN l 0 (2 ^ m)).length≠1) (ht : Tops (cutG l i m) m m') : Evr (fun k=>tree_Remove.f k l (i : Int)) (mkT (2 * 2 ^ m' - 1) (cutG l i m),0):=by
 have hp:=pow_le32 hm
 have h5 : ∀ v ∈ l,v.f5.length < 17592186044416:=fun v hv=>by have:=hl.len v hv;omega
 have hfb : tree_full.f l (i : Int) = some true:=by
  rw [(full_same h hp.1 (by omega) _).2]
  unfold fullB
  rw [decide_eq_true (by omega),decide_eq_true (by omega)]
  exact congrArg some hf
 have hms:=members_ev h hp.1 (by omega)
 have hcl:=clean_ev hm hi (fun x=>if x = 2 * i then z29 else VX l x)
 have hcl2 : Evr (fun k=>tree_clean.f k ((l.set (2 * i) z29)) (i : Int)) (mkT (2 * 2 ^ m - 1) (cutG l i m)):=by
  have e : l.set (2 * i) z29 = mkT (2 * 2 ^ m - 1) (fun x=>if x = 2 * i then z29 else VX l x):=by
   conv=>lhs;rw [mkT_self l]
   rw [mkT_set,h]
  rw [e]
  exact hcl
 refine .congr (f:=fun k=>(tree_Members.f k l).bind fun ms=>if ms.length = 1 then some (([] : List S29),40) else (tree_clean.f k (l.set (2 * i) z29) (i : Int)).bind fun t3=>tree_Remove.l0 k t3) (fun k=>?_) (hms.bind ?_)
 · unfold tree_Remove.f
   rw [hfb,Option.bind_some,if_pos rfl,copied_at k (by omega) h5,Option.bind_some,wrap_id (by omega),if_pos (by omega),if_pos (by omega),show (2 * (i : Int)).toNat = 2 * i by omega]
   rfl
 · rw [ints_len]
   simp only [if_neg hc]
   exact hcl2.bind (shrink m hm ht)
theorem remove_one {l : List S29} {m : Nat} {i : Int} (hm : m≤5) (h : l.length = 2 * 2 ^ m - 1) (hc : fullB l (2 ^ m) i = true→(fullN l 0 (2 ^ m)).length = 1) : Evr (fun k=>tree_Remove.f k l i) ([],40):=by
 have hp:=pow_le32 hm
 have hms:=members_ev h hp.1 (by omega)
 by_cases c : fullB l (2 ^ m) i = true
 · refine .congr (f:=fun k=>(tree_Members.f k l).bind fun ms=>if ms.length = 1 then some (([] : List S29),40) else ((tree_copied.f k l).bind fun t2=>if 0≤(wrap64 (2 * i)) then (if (wrap64 (2 * i)) < (t2.length : Int) then ((tree_clean.f k (t2.set ((wrap64 (2 * i)) : Int).toNat (⟨false,0,0,0,0,([] : List Int)⟩ : S29)) i).bind fun t3=>tree_Remove.l0 k t3) else none) else none)) (fun k=>?_) (hms.bind ?_)
   · unfold tree_Remove.f
     rw [(full_same h hp.1 (by omega) _).2,c,Option.bind_some,if_pos rfl]
   · rw [ints_len]
     simp only [if_pos (hc c)]
     exact .const fun _=>rfl
 · refine .const fun k=>?_
   unfold tree_Remove.f
   rw [(full_same h hp.1 (by omega) _).2,Option.bind_some,if_neg c]
end Go.Proofs.YtbblomnhobodkaaDoor.Pure
set_option linter.unusedVariables false
set_option linter.unusedSimpArgs false
namespace Go.Proofs.YtbblomnhobodkaaDoor.Pure
open Go.RowKit Go.Proofs.YtbblomnhobodkaaDoor Go.Proofs.YtbblomnhobodkaaDoor.PTw Go.Proofs.YtbblomnhobodkaaDoorW.PW
def lvN (x : Nat) : Nat:=((List.range 6).find? (fun k=>x % 2 ^ (k + 1) == 2 ^ k - 1)).getD 0
def copN (i m : Nat) : List Nat:=(List.range m).map fun k=>if i / 2 ^ k % 2 = 0 then (i / 2 ^ k + 1) * 2 ^ (k + 1) + 2 ^ k - 1 else (i / 2 ^ k - 1) * 2 ^ (k + 1) + 2 ^ k - 1
set_option maxRecDepth 100000 in
theorem child_fin : ∀ m : Fin 6,∀ x : Fin 63,x.val < 2 * 2 ^ m.val - 1→heap_Children.f (x.val : Int) ((2 ^ m.val : Nat) : Int) = (if lvN x.val = 0 then some (0,0,30) else some (((x.val - 2 ^ (lvN x.val - 1) : Nat) : Int),((x.val + 2 ^ (lvN x.val - 1) : Nat) : Int),0)):=by decide +kernel
set_option maxRecDepth 100000 in
theorem lv_fin : ∀ m : Fin 6,∀ x : Fin 63,x.val < 2 * 2 ^ m.val - 1→lvN x.val≤m.val∧(lvN x.val≠0→lvN (x.val - 2 ^ (lvN x.val - 1)) = lvN x.val - 1∧lvN (x.val + 2 ^ (lvN x.val - 1)) = lvN x.val - 1∧x.val + 2 ^ (lvN x.val - 1) < 2 * 2 ^ m.val - 1∧2 ^ (lvN x.val - 1)≤x.val):=by decide +kernel
set_option maxRecDepth 100000 in
theorem width_fin : ∀ x : Fin 63,r3Width.f 20 (x.val : Int) = some ((2 ^ lvN x.val - 1 : Nat) : Int):=by decide +kernel
set_option maxRecDepth 100000 in
theorem cop_fin : ∀ m : Fin 6,∀ i : Fin 32,i.val < 2 ^ m.val→heap_Copath.f (2 * (i.val : Int)) ((2 ^ m.val : Nat) : Int) = some (ints (copN i.val m.val),0)∧r3Path.f 100 (2 * (i.val : Int)) ((2 ^ m.val : Nat) : Int) = some (ints (pathN i.val m.val))∧r3Copath.f 100 (2 * (i.val : Int)) ((2 ^ m.val : Nat) : Int) = some (ints (copN i.val m.val)):=by decide +kernel
theorem child_at {m x : Nat} (hm : m≤5) (hx : x < 2 * 2 ^ m - 1) : heap_Children.f (x : Int) ((2 ^ m : Nat) : Int) = (if lvN x = 0 then some (0,0,30) else some (((x - 2 ^ (lvN x - 1) : Nat) : Int),((x + 2 ^ (lvN x - 1) : Nat) : Int),0)):=by
 have hp:=pow_le32 hm
 exact child_fin ⟨m,by omega⟩ ⟨x,by omega⟩ hx
theorem lv_at {m x : Nat} (hm : m≤5) (hx : x < 2 * 2 ^ m - 1) : lvN x≤m∧(lvN x≠0→lvN (x - 2 ^ (lvN x - 1)) = lvN x - 1∧lvN (x + 2 ^ (lvN x - 1)) = lvN x - 1∧x + 2 ^ (lvN x - 1) < 2 * 2 ^ m - 1∧2 ^ (lvN x - 1)≤x):=by
 have hp:=pow_le32 hm
 exact lv_fin ⟨m,by omega⟩ ⟨x,by omega⟩ hx
theorem width_at {x : Nat} (hx : x < 63) : Evr (fun k=>r3Width.f k (x : Int)) ((2 ^ lvN x - 1 : Nat) : Int):=
 .of_mono (K:=20) (fun k a h=>r3Width.mono _ k _ h) (width_fin ⟨x,hx⟩)
def resN (l : List S29) : Nat→Nat→List Int
 | 0,x=>if (VX l x).f0 = true then (x : Int) :: (VX l x).f5.map (fun y=>2 * y) else []
 | k + 1,x=>if (VX l x).f0 = true then (x : Int) :: (VX l x).f5.map (fun y=>2 * y) else resN l k (x - 2 ^ k) ++ resN l k (x + 2 ^ k)
structure LateSm (l : List S29) : Prop where
 len : ∀ x,(VX l x).f5.length≤100
 sm : ∀ x,∀ y ∈ (VX l x).f5,0≤y∧y≤100
theorem resN_len {l : List S29} (h : LateSm l) : ∀ (k x : Nat),(resN l k x).length≤101 * 2 ^ k
 | 0,x=>by
  unfold resN
  split
  · simp;have:=h.len x;omega
  · simp
 | k + 1,x=>by
  unfold resN
  have h1:=resN_len h k (x - 2 ^ k)
  have h2:=resN_len h k (x + 2 ^ k)
  have hp : 1≤2 ^ k:=Nat.one_le_two_pow
  split
  · simp;have:=h.len x;rw [Nat.pow_succ];omega
  · rw [List.length_append,Nat.pow_succ];omega
theorem res_l0 {l : List S29} (late : List Int) (hl : late.length≤1000) (hs : ∀ y ∈ late,0≤y∧y≤100) : ∀ (d j : Nat) (acc : List Int),d + j = late.length→acc.length + d≤100000→Evr (fun k=>tree_Resolution.l0 k acc late (late.length : Int) (j : Int)) (acc ++ (late.drop j).map (fun y=>2 * y)):=by
 intro d
 induction d with
 | zero=>
  intro j acc hd _
  refine .succ (f:=fun _=>some acc) (fun k=>by rw [tree_Resolution.l0,if_neg (by omega)]) (.const fun _=>?_)
  rw [List.drop_eq_nil_of_le (by omega)]
  simp
 | succ d ih=>
  intro j acc hd ha
  have hj : j < late.length:=by omega
  have hy:=hs _ (List.getElem_mem hj)
  have e : rd late (j : Int) = late[j]:=by simp [rd,List.getD_eq_getElem?_getD,List.getElem?_eq_getElem hj]
  rw [List.drop_eq_getElem_cons hj,List.map_cons,show acc ++ 2 * late[j] :: (late.drop (j + 1)).map (fun y=>2 * y) = acc ++ [2 * late[j]] ++ (late.drop (j + 1)).map (fun y=>2 * y) by simp]
  refine .succ (fun k=>?_) (ih (j + 1) (acc ++ [2 * late[j]]) (by omega) (by simp;omega))
  rw [tree_Resolution.l0,if_pos (by omega),if_pos (by omega),if_pos (by omega),if_pos (by omega),e,wrap_id (a:=2 * late[j]) (by omega),wrap_id (by omega),show (j : Int) + 1 = ((j + 1 : Nat) : Int) by omega]
theorem tres_open {l : List S29} {x : Nat} (hx : x < l.length) {r : List Int} (hr : Evr (fun q=>tree_Resolution.j0 q l (x : Int) false) r) : Evr (fun q=>tree_Resolution.f q l (x : Int)) r:=
 .succ (fun q=>by rw [tree_Resolution.f,if_neg (by omega),decide_eq_false (by omega)]) hr
theorem tres_full {l : List S29} (hL : LateSm l) {x : Nat} (hx : x < l.length) (hf : (VX l x).f0 = true) : Evr (fun q=>tree_Resolution.f q l (x : Int)) ((x : Int) :: (VX l x).f5.map (fun y=>2 * y)):=by
 have h:=res_l0 (l:=l) (VX l x).f5 (by have:=hL.len x;omega) (hL.sm x) (VX l x).f5.length 0 [(x : Int)] (by omega) (by have:=hL.len x;simp;omega)
 rw [List.drop_zero] at h
 refine tres_open hx (.succ (fun q=>?_) h)
 have e : (rd_T29 l (x : Int)).f0 = true:=hf
 rw [tree_Resolution.j0,if_neg (by decide),if_pos (by omega),if_pos (by omega),e,if_pos rfl]
 rfl
theorem tres_ev {l : List S29} {m : Nat} (hm : m≤5) (h : l.length = 2 * 2 ^ m - 1) (hL : LateSm l) : ∀ (k x : Nat),lvN x = k→x < l.length→Evr (fun q=>tree_Resolution.f q l (x : Int)) (resN l k x):=by
 have hp:=pow_le32 hm
 intro k
 induction k with
 | zero=>
  intro x hk hx
  by_cases c : (VX l x).f0 = true
  · have:=tres_full hL hx c
    unfold resN
    rw [if_pos c]
    exact this
  · unfold resN
    rw [if_neg c]
    have hc:=child_at hm (x:=x) (by omega)
    rw [hk,if_pos rfl] at hc
    refine tres_open hx (.succ (f:=fun _=>some []) (fun q=>?_) (.const fun _=>rfl))
    have e : ¬ (rd_T29 l (x : Int)).f0 = true:=c
    rw [tree_Resolution.j0,if_neg (by decide),if_pos (by omega),if_pos (by omega),if_neg e,(leaves_at h hp.1 (by omega)).2,Option.bind_some,hc,Option.bind_some,if_neg (by decide)]
 | succ k ih=>
  intro x hk hx
  by_cases c : (VX l x).f0 = true
  · have:=tres_full hL hx c
    unfold resN
    rw [if_pos c]
    exact this
  · have hlv:=lv_at hm (x:=x) (by omega)
    rw [hk] at hlv
    obtain ⟨h1,h2,h3,h4⟩:=hlv.2 (by omega)
    rw [show k + 1 - 1 = k by omega] at h1 h2 h3 h4
    have r1:=ih (x - 2 ^ k) h1 (Nat.lt_of_le_of_lt (Nat.sub_le _ _) hx)
    have r2:=ih (x + 2 ^ k) h2 (by rw [h];exact h3)
    have hc:=child_at hm (x:=x) (by omega)
    rw [hk,if_neg (by omega),show k + 1 - 1 = k by omega] at hc
    have l1:=resN_len hL k (x - 2 ^ k)
    have l2:=resN_len hL k (x + 2 ^ k)
    have hpk : 2 ^ k≤32:=by
     have : k≤5:=by have:=hlv.1;omega
     exact (pow_le32 this).2
    have e : ¬ (rd_T29 l (x : Int)).f0 = true:=c
    have er : resN l (k + 1) x = resN l k (x - 2 ^ k) ++ resN l k (x + 2 ^ k):=by
     conv=>lhs;unfold resN
     rw [if_neg c]
    rw [er]
    refine tres_open hx (.succ (f:=fun q=>(tree_Resolution.f q l ((x - 2 ^ k : Nat) : Int)).bind fun a=>(tree_Resolution.f q l ((x + 2 ^ k : Nat) : Int)).bind fun b=>if a.length + b.length < 17592186044416 then some (a ++ b) else none) (fun q=>?_) (r1.bind (r2.bind (.const fun _=>?_))))
    · rw [tree_Resolution.j0,if_neg (by decide),if_pos (by omega),if_pos (by omega),if_neg e,(leaves_at h hp.1 (by omega)).2,Option.bind_some,hc,Option.bind_some,if_pos rfl]
    · rw [if_pos (by omega)]
theorem rres_late0 {l : List S29} {x : Nat} (hx : x < l.length) (late : List Int) (e5 : (rd_T29 l (x : Int)).f5 = late) (hll : late.length≤100) (hsm : ∀ y ∈ late,0≤y∧y≤100) (s : List Int) {r : List Int} : ∀ (d j : Nat) (acc : List Int),d + j = late.length→acc.length + d≤100000→Evr (fun k=>r4Resolution.l0 k l (acc ++ (late.drop j).map (fun y=>2 * y)) s) r→Evr (fun k=>r4Resolution.l1 k l acc s (x : Int) (j : Int)) r:=by
 intro d
 induction d with
 | zero=>
  intro j acc hd _ hr
  rw [List.drop_eq_nil_of_le (by omega),List.map_nil,List.append_nil] at hr
  refine .succ (fun k=>?_) hr
  rw [r4Resolution.l1,if_pos (by omega),if_pos (by omega),e5,if_neg (by omega)]
 | succ d ih=>
  intro j acc hd ha hr
  have hj : j < late.length:=by omega
  have hy:=hsm _ (List.getElem_mem hj)
  have e : rd late (j : Int) = late[j]:=by simp [rd,List.getD_eq_getElem?_getD,List.getElem?_eq_getElem hj]
  rw [List.drop_eq_getElem_cons hj,List.map_cons,show acc ++ 2 * late[j] :: (late.drop (j + 1)).map (fun y=>2 * y) = acc ++ [2 * late[j]] ++ (late.drop (j + 1)).map (fun y=>2 * y) by simp] at hr
  refine .succ (fun k=>?_) (ih (j + 1) (acc ++ [2 * late[j]]) (by omega) (by simp;omega) hr)
  rw [r4Resolution.l1,if_pos (by omega),if_pos (by omega),e5,if_pos (by omega),if_pos (by omega),if_pos (by omega),e,wrap_id (a:=2 * late[j]) (by omega),wrap_id (by omega),show (j : Int) + 1 = ((j + 1 : Nat) : Int) by omega]
theorem rres_late {l : List S29} {x : Nat} (hx : x < l.length) (hL : LateSm l) (s : List Int) {r : List Int} : ∀ (d j : Nat) (acc : List Int),d + j = (VX l x).f5.length→acc.length + d≤100000→Evr (fun k=>r4Resolution.l0 k l (acc ++ ((VX l x).f5.drop j).map (fun y=>2 * y)) s) r→Evr (fun k=>r4Resolution.l1 k l acc s (x : Int) (j : Int)) r:=
 rres_late0 hx (VX l x).f5 rfl (hL.len x) (hL.sm x) s
theorem pop_two (l : List S29) (acc s : List Int) (w x q : Nat) (h1 : 1≤w) (h2 : w≤32) (h3 : w≤x) (h4 : x < 63) (hs : s.length≤1000) : (if ((w : Nat) : Int) > 0 then (if s.length < 17592186044416 then ((some (s ++ [wrap64 ((x : Int) + (w : Int))] : List Int)).bind fun y=>if y.length < 17592186044416 then r4Resolution.l0 q l acc (y ++ [wrap64 ((x : Int) - (w : Int))]) else none) else none) else r4Resolution.l0 q l acc s) = r4Resolution.l0 q l acc (s ++ [((x + w : Nat) : Int)] ++ [((x - w : Nat) : Int)]):=by
 have e1 : wrap64 ((x : Int) + (w : Int)) = ((x + w : Nat) : Int):=by rw [wrap_id (by omega)];omega
 have e2 : wrap64 ((x : Int) - (w : Int)) = ((x - w : Nat) : Int):=by rw [wrap_id (by omega)];omega
 rw [if_pos (by omega),if_pos (by omega),Option.bind_some,if_pos (by simp;omega),e1,e2]
theorem rres_pop {l : List S29} {m : Nat} (hm : m≤5) (h : l.length = 2 * 2 ^ m - 1) (hL : LateSm l) : ∀ (k x : Nat),lvN x = k→x < l.length→∀ (acc s : List Int) (r : List Int),acc.length + 101 * 2 ^ k≤90000→s.length + k≤1000→Evr (fun q=>r4Resolution.l0 q l (acc ++ resN l k x) s) r→Evr (fun q=>r4Resolution.l0 q l acc (s ++ [(x : Int)])) r:=by
 have hp:=pow_le32 hm
 have hop : ∀ (x : Nat),x < l.length→∀ (acc s : List Int),s.length≤1000→∀ q,r4Resolution.l0 (q + 1) l acc (s ++ [(x : Int)]) = if (VX l x).f0 = true then (if acc.length < 17592186044416 then r4Resolution.l1 q l (acc ++ [(x : Int)]) s (x : Int) 0 else none) else ((r3Width.f q (x : Int)).bind fun t=>if (wrap64 (Int.tdiv (wrap64 (t + 1)) 2)) > 0 then (if s.length < 17592186044416 then ((some (s ++ [wrap64 ((x : Int) + (wrap64 (Int.tdiv (wrap64 (t + 1)) 2)))] : List Int)).bind fun y=>if y.length < 17592186044416 then r4Resolution.l0 q l acc (y ++ [wrap64 ((x : Int) - (wrap64 (Int.tdiv (wrap64 (t + 1)) 2)))]) else none) else none) else r4Resolution.l0 q l acc s):=by
  intro x hx acc s hs q
  have hlen : (s ++ [(x : Int)]).length = s.length + 1:=by simp
  have ew : wrap64 (((s ++ [(x : Int)]).length : Int) - 1) = (s.length : Int):=by rw [hlen,wrap_id (by omega)];omega
  have erd : rd (s ++ [(x : Int)]) (s.length : Int) = (x : Int):=by simp [rd,List.getD_eq_getElem?_getD]
  have etk : (s ++ [(x : Int)]).take ((s.length : Int)).toNat = s:=by simp
  rw [r4Resolution.l0,ew,erd,etk,if_pos (by omega),if_pos (by omega),if_pos (by omega),if_pos (by omega),Option.bind_some,if_pos (by omega),if_pos (by omega)]
 intro k
 induction k with
 | zero=>
  intro x hk hx acc s r ha hs hr
  refine .succ (hop x hx acc s (by omega)) ?_
  by_cases c : (VX l x).f0 = true
  · unfold resN at hr
    rw [if_pos c,show acc ++ (x : Int) :: (VX l x).f5.map (fun y=>2 * y) = acc ++ [(x : Int)] ++ ((VX l x).f5.drop 0).map (fun y=>2 * y) by simp] at hr
    have:=rres_late hx hL s (VX l x).f5.length 0 (acc ++ [(x : Int)]) (by omega) (by have:=hL.len x;simp;omega) hr
    refine .congr (fun q=>?_) this
    rw [if_pos c,if_pos (by omega)]
    rfl
  · unfold resN at hr
    rw [if_neg c,List.append_nil] at hr
    have hw:=width_at (x:=x) (by omega)
    rw [hk] at hw
    refine .congr (f:=fun q=>(r3Width.f q (x : Int)).bind fun t=>if (wrap64 (Int.tdiv (wrap64 (t + 1)) 2)) > 0 then (if s.length < 17592186044416 then ((some (s ++ [wrap64 ((x : Int) + (wrap64 (Int.tdiv (wrap64 (t + 1)) 2)))] : List Int)).bind fun y=>if y.length < 17592186044416 then r4Resolution.l0 q l acc (y ++ [wrap64 ((x : Int) - (wrap64 (Int.tdiv (wrap64 (t + 1)) 2)))]) else none) else none) else r4Resolution.l0 q l acc s) (fun q=>by rw [if_neg c]) (hw.bind ?_)
    refine .congr (fun q=>?_) hr
    have ew0 : wrap64 (Int.tdiv (wrap64 (((2 ^ 0 - 1 : Nat) : Int) + 1)) 2) = 0:=by decide +kernel
    rw [ew0,if_neg (by decide)]
 | succ k ih=>
  intro x hk hx acc s r ha hs hr
  have hpk1 : 2 ^ (k + 1) = 2 * 2 ^ k:=by rw [Nat.pow_succ];omega
  have hpk : 1≤2 ^ k:=Nat.one_le_two_pow
  refine .succ (hop x hx acc s (by omega)) ?_
  by_cases c : (VX l x).f0 = true
  · unfold resN at hr
    rw [if_pos c,show acc ++ (x : Int) :: (VX l x).f5.map (fun y=>2 * y) = acc ++ [(x : Int)] ++ ((VX l x).f5.drop 0).map (fun y=>2 * y) by simp] at hr
    have:=rres_late hx hL s (VX l x).f5.length 0 (acc ++ [(x : Int)]) (by omega) (by have:=hL.len x;simp;omega) hr
    refine .congr (fun q=>?_) this
    rw [if_pos c,if_pos (by omega)]
    rfl
  · have hlv:=lv_at hm (x:=x) (by omega)
    rw [hk] at hlv
    obtain ⟨h1,h2,h3,h4⟩:=hlv.2 (by omega)
    rw [show k + 1 - 1 = k by omega] at h1 h2 h3 h4
    have l1:=resN_len hL k (x - 2 ^ k)
    have er : resN l (k + 1) x = resN l k (x - 2 ^ k) ++ resN l k (x + 2 ^ k):=by
     conv=>lhs;unfold resN
     rw [if_neg c]
    rw [er,← List.append_assoc] at hr
    have q2:=ih (x + 2 ^ k) h2 (by omega) (acc ++ resN l k (x - 2 ^ k)) s r (by simp;omega) (by omega) hr
    have q1:=ih (x - 2 ^ k) h1 (by omega) acc (s ++ [((x + 2 ^ k : Nat) : Int)]) r (by omega) (by simp;omega) q2
    have hw:=width_at (x:=x) (by omega)
    rw [hk] at hw
    have hpk32 : 2 ^ k≤32:=by
     have : k≤5:=by have:=hlv.1;omega
     exact (pow_le32 this).2
    have ew : wrap64 (Int.tdiv (wrap64 (((2 ^ (k + 1) - 1 : Nat) : Int) + 1)) 2) = ((2 ^ k : Nat) : Int):=by
     rw [wrap_id (a:=((2 ^ (k + 1) - 1 : Nat) : Int) + 1) (by omega),Int.tdiv_eq_ediv_of_nonneg (by omega),wrap_id (by omega)]
     omega
    refine .congr (f:=fun q=>(r3Width.f q (x : Int)).bind fun t=>if (wrap64 (Int.tdiv (wrap64 (t + 1)) 2)) > 0 then (if s.length < 17592186044416 then ((some (s ++ [wrap64 ((x : Int) + (wrap64 (Int.tdiv (wrap64 (t + 1)) 2)))] : List Int)).bind fun y=>if y.length < 17592186044416 then r4Resolution.l0 q l acc (y ++ [wrap64 ((x : Int) - (wrap64 (Int.tdiv (wrap64 (t + 1)) 2)))]) else none) else none) else r4Resolution.l0 q l acc s) (fun q=>by rw [if_neg c]) (hw.bind ?_)
    refine .congr (fun q=>?_) q1
    have x63 : x < 63:=by omega
    rw [ew]
    exact pop_two l acc s (2 ^ k) x q hpk hpk32 h4 x63 (by omega)
theorem rres_ev {l : List S29} {m : Nat} (hm : m≤5) (h : l.length = 2 * 2 ^ m - 1) (hL : LateSm l) {x : Nat} (hx : x < l.length) : Evr (fun q=>r4Resolution.f q l (x : Int)) (resN l (lvN x) x):=by
 have hp:=pow_le32 hm
 have hlv:=(lv_at hm (x:=x) (by omega)).1
 have hk : 2 ^ lvN x≤32:=(pow_le32 (by omega)).2
 have he : Evr (fun q=>r4Resolution.l0 q l ([] ++ resN l (lvN x) x) []) (resN l (lvN x) x):=.succ (f:=fun _=>some (resN l (lvN x) x)) (fun q=>by rw [r4Resolution.l0,if_neg (by simp),List.nil_append]) (.const fun _=>rfl)
 have h2:=rres_pop hm h hL (lvN x) x rfl hx [] [] _ (by simp;omega) (by simp;omega) he
 refine .congr (f:=fun q=>r4Resolution.j0 q l (x : Int) [] false) (fun q=>by unfold r4Resolution.f;rw [if_neg (by omega),decide_eq_false (by omega)]) (.succ (fun q=>?_) h2)
 rw [r4Resolution.j0,if_neg (by decide)]
 rfl
end Go.Proofs.YtbblomnhobodkaaDoor.Pure
namespace Go.Proofs.YtbblomnhobodkaaDoor.PTw
open Go.RowKit Go.Proofs.YtbblomnhobodkaaDoorW.PW Go.Proofs.YtbblomnhobodkaaDoorW.PL Go.Proofs.YtbblomnhobodkaaDoorW.PM
attribute [local go_sem] max2_int min2_int max_two min_two max_three min_three max_four min_four   -- for this text's walks alone
set_option linter.unusedVariables false
set_option linter.unusedSimpArgs false
def tree_Update.f (k : Nat) (l0 : List (S29)) (a1 : Int) (a2_0 : Bool) (a2_1 : Int) (a2_2 : Int) (a2_3 : Int) (a2_4 : Int) (l2_5 : List Int) : Option ((List (S29)) × Int):=(tree_full.f l0 a1).bind fun t=>if t = true then ((tree_copied.f k l0).bind fun t2=>if 0≤(wrap64 (2 * a1)) then (if (wrap64 (2 * a1)) < (t2.length : Int) then ((tree_clean.f k (t2.set ((wrap64 (2 * a1)) : Int).toNat (⟨true,a2_1,a2_2,a2_3,a2_4,([] : List Int)⟩ : S29)) a1).bind fun t3=>some (t3,0)) else none) else none) else some (([] : List (S29)),40)
theorem tree_Update.mono : ∀ a0 a1 a2 a3 a4 a5 a6 a7 k,LeO (tree_Update.f k a0 a1 a2 a3 a4 a5 a6 a7) (tree_Update.f (k + 1) a0 a1 a2 a3 a4 a5 a6 a7):=by
 intro a0 a1 a2 a3 a4 a5 a6 a7 k
 unfold tree_Update.f
 refine LeO.bind (LeO.refl _) (fun _=>LeO.ite (LeO.bind (tree_copied.mono _ _) (fun _=>LeO.ite (LeO.ite (LeO.bind (tree_clean.mono _ _ _) (fun _=>LeO.refl _)) (LeO.none _)) (LeO.none _))) (LeO.refl _))
set_option maxHeartbeats 8000000 in
set_option maxRecDepth 100000 in
theorem tree_Update.calls (k : Nat) (A0 : Option Addr) (c0 : Nat) (l0 : List (S29)) (a1 : Int) (a2_0 : Bool) (a2_1 : Int) (a2_2 : Int) (a2_3 : Int) (a2_4 : Int) (A2_5 : Option Addr) (c2_5 : Nat) (l2_5 : List Int) (r1 : List (S29)) (r2 : Int) (w : World) (hrG : TabG w) (hr0 : Kd.C k29 w A0 l0.length l0) (hc0 : l0.length≤c0) (hr2_5 : Kd.C (Kd.int .i64) w A2_5 l2_5.length l2_5) (hc2_5 : l2_5.length≤c2_5) (h : tree_Update.f k l0 a1 a2_0 a2_1 a2_2 a2_3 a2_4 l2_5 = some (r1,r2)) :
 Calls Tryd.prog 33 #[.slice A0 l0.length c0,.int .i64 a1,.agg #[.bool a2_0,.int .i64 a2_1,.int .i64 a2_2,.int .i64 a2_3,.int .i64 a2_4,.slice A2_5 l2_5.length c2_5]] w fun e w'=>∃ v0_ : Value,e = .returned (.tuple #[v0_,.int .i64 r2])∧Kd.S k29 29 w' w.heap.size (fun _=>True) v0_ r1∧Below w.heap.size w w':=by
 have huV:=Tryd.underlying29
 have HT:=Az.mk hrG
 have HC:=Az.mk hr0
 have HL:=Az.mk hc0
 have HC5:=Az.mk hr2_5
 have HL5:=Az.mk hc2_5
 clear hrG hr0 hc0 hr2_5 hc2_5
 unfold tree_Update.f at h
 obtain ⟨t,A40,H⟩:=Option.bind_eq_some_iff.mp h
 have A4:=Az.mk A40
 clear A40 h
 have HB0:=Az.mk (bwA (Below.refl w.heap.size w) (.cells #[.bool a2_0,.int .i64 a2_1,.int .i64 a2_2,.int .i64 a2_3,.int .i64 a2_4,.slice A2_5 l2_5.length c2_5] 29))
 cases t
 · rw [if_neg (by decide)] at H
   simp only [Option.some.injEq,Prod.mk.injEq] at H
   obtain ⟨rfl,rfl⟩:=H
   go_enter Tryd.func33,Tryd.ntmps33
   go_wp2_with (go_at_call 60;(with_reducible refine (tree_full.calls _ _ l0 a1 false _ (Kd.C_alloc HC.out _) HL.out A4.out).mono ?_);rintro e w1 ⟨rfl,⟨nd,rfl⟩⟩)
   go_ret2
   exact ⟨_,rfl,Kd.S_nil _ _ _ _ _,bwN HB0.out _⟩
 · rw [if_pos rfl] at H
   obtain ⟨t2,A60,H⟩:=Option.bind_eq_some_iff.mp H
   have A6:=Az.mk A60
   clear A60
   go_enter Tryd.func33,Tryd.ntmps33
   have ex : ∃ ji,wrap64 (2 * a1) = ji:=⟨_,rfl⟩
   obtain ⟨ji,hji⟩:=ex
   rw [hji] at H
   have hjiw : (IntKind.i64.wrap (2 * a1)) = ji:=(i64_w _).trans hji
   by_cases h0 : 0≤ji
   case neg=>rw [if_neg h0] at H;cases H
   rw [if_pos h0] at H
   by_cases h1 : ji < (t2.length : Int)
   case neg=>rw [if_neg h1] at H;cases H
   rw [if_pos h1] at H
   obtain ⟨t3,A70,H⟩:=Option.bind_eq_some_iff.mp H
   have A7:=Az.mk A70
   simp only [Option.some.injEq,Prod.mk.injEq] at H
   obtain ⟨rfl,rfl⟩:=H
   clear A70
   go_upto_region 4 with (first
    | (go_at_call 60;(with_reducible refine (tree_full.calls _ _ l0 a1 true _ (Kd.C_alloc HC.out _) HL.out A4.out).mono ?_);rintro e w1 ⟨rfl,⟨nd,rfl⟩⟩)
    | (go_at_call 50;(with_reducible refine (tree_copied.calls _ _ _ l0 t2 _ (Kd.C_drewN (Kd.C_alloc HC.out _) nd) HL.out A6.out).mono ?_);rintro e w3 ⟨v3,rfl,hS,hb⟩;have HB3:=Az.mk (bwT (bwN HB0.out nd) hb);have HS3:=Az.mk (Kd.S_lower hS (by exact (bwZ (bwN HB0.out nd))));have HBX:=Az.mk hb;clear hS hb))
   obtain ⟨g,c3,rfl,gb,gl,_,_⟩:=Kd.S_form HS3.out (by omega)
   have hblk : w3.heap[w.heap.size]? = some (.cells #[.bool a2_0,.int .i64 a2_1,.int .i64 a2_2,.int .i64 a2_3,.int .i64 a2_4,.slice A2_5 l2_5.length c2_5] 29 (0,0)):=(HBX.out.block _ (by simp)).trans heap_alloc_at
   have lx0:=cell_of hblk 0
   have lx1:=cell_of hblk 1
   have lx2:=cell_of hblk 2
   have lx3:=cell_of hblk 3
   have lx4:=cell_of hblk 4
   have lx5:=cell_of hblk 5
   simp only [List.getElem?_toArray,List.getElem?_cons_zero,List.getElem?_cons_succ] at lx0 lx1 lx2 lx3 lx4 lx5
   have HC53:=Az.mk (Kd.C_below (Kd.C_drewN (Kd.C_alloc HC5.out (.cells #[.bool a2_0,.int .i64 a2_1,.int .i64 a2_2,.int .i64 a2_3,.int .i64 a2_4,.slice A2_5 l2_5.length c2_5] 29)) nd) HBX.out)
   have GB:=Az.mk gb
   have p0:=eq_true h0
   have p1:=eq_true h1
   have H0:=Az.mk h0
   have H1:=Az.mk h1
   clear gb gl hji h0 h1 hblk
   go_upto_region 5 with (first
    | (go_at_call 51;(with_reducible refine (tree_leafOf.nil a2_0 a2_1 a2_2 a2_3 a2_4 A2_5 c2_5 l2_5 _ HC53.out HL5.out).mono ?_);rintro e w4 ⟨rfl,hb4⟩;have HS4:=Az.mk (Kd.S_below HS3.out hb4);have HB4:=Az.mk (bwT HB3.out hb4);clear hb4 lx0 lx1 lx2 lx3 lx4 lx5;obtain ⟨oki,ce,hcl,hM,hcc,hfr,hoki,hH⟩:=Kd.S_elem HS4.out z29 ji H0.out H1.out;obtain ⟨ve5,rfl,ge5⟩:=k29_openM hM;have HP:=Az.mk (Kd.S_seg0 hH H0.out H1.out (seg:=[.bool true,.int .i64 a2_1,.int .i64 a2_2,.int .i64 a2_3,.int .i64 a2_4,.slice none 0 0]) (j:=0) (show 6≤6 from by decide) (x':=(⟨true,a2_1,a2_2,a2_3,a2_4,([] : List Int)⟩ : S29)) (k29_mkM _ _ _ (⟨true,a2_1,a2_2,a2_3,a2_4,([] : List Int)⟩ : S29) (Kd.R_nil _ _ _ _ _)) (fun _ hk=>hk));have hx0 : w4.cell? ⟨g,ji.toNat * 6,none⟩ = some (.bool _):=hcc 0 _ rfl;have hx1 : w4.cell? ⟨g,ji.toNat * 6 + 1,none⟩ = some (.int .i64 _):=hcc 1 _ rfl;have hx2 : w4.cell? ⟨g,ji.toNat * 6 + 2,none⟩ = some (.int .i64 _):=hcc 2 _ rfl;have hx3 : w4.cell? ⟨g,ji.toNat * 6 + 3,none⟩ = some (.int .i64 _):=hcc 3 _ rfl;have hx4 : w4.cell? ⟨g,ji.toNat * 6 + 4,none⟩ = some (.int .i64 _):=hcc 4 _ rfl;have hx5 : w4.cell? ⟨g,ji.toNat * 6 + 5,none⟩ = some ve5:=hcc 5 _ rfl;have hf0 : w4.frozen? ⟨g,ji.toNat * 6,none⟩ = false:=hfr 0;have hf1 : w4.frozen? ⟨g,ji.toNat * 6 + 1,none⟩ = false:=hfr 1;have hf2 : w4.frozen? ⟨g,ji.toNat * 6 + 2,none⟩ = false:=hfr 2;have hf3 : w4.frozen? ⟨g,ji.toNat * 6 + 3,none⟩ = false:=hfr 3;have hf4 : w4.frozen? ⟨g,ji.toNat * 6 + 4,none⟩ = false:=hfr 4;have hf5 : w4.frozen? ⟨g,ji.toNat * 6 + 5,none⟩ = false:=hfr 5;clear hcl hM hcc hfr hoki hH ge5)
    | ((with_reducible refine gate_store (t:=29) (p:=20) rfl ?_);refine store_event (t:=29) (p:=20) (v:=?vo) (w1:=((((((w4.setCell ⟨g,ji.toNat * 6,none⟩ (.bool true)).setCell ⟨g,ji.toNat * 6 + 1,none⟩ (.int .i64 a2_1)).setCell ⟨g,ji.toNat * 6 + 2,none⟩ (.int .i64 a2_2)).setCell ⟨g,ji.toNat * 6 + 3,none⟩ (.int .i64 a2_3)).setCell ⟨g,ji.toNat * 6 + 4,none⟩ (.int .i64 a2_4)).setCell ⟨g,ji.toNat * 6 + 5,none⟩ (.slice none 0 0))) ?hg ?ho ?hn ?hr ?_;(case ho=>rfl);(case hg=>rfl);(case hn=>rfl);(case hr=>first | (go_simp;done) | (go_simp;rfl));intro w5 hw;have HS5:=Az.mk (show Kd.S k29 29 w5 w.heap.size (fun _=>True) (.slice (some ⟨g,0,none⟩) t2.length c3) (t2.set ji.toNat (⟨true,a2_1,a2_2,a2_3,a2_4,([] : List Int)⟩ : S29)) from by rw [hw];exact HP.out.1);have HG5:=Az.mk (show w4.grownBy w5 (some g) from by rw [hw];exact HP.out.2);clear hw))
   obtain ⟨y,hy⟩ : ∃ y,y = (t2.set ji.toNat (⟨true,a2_1,a2_2,a2_3,a2_4,([] : List Int)⟩ : S29)):=⟨_,rfl⟩
   have hyl : y.length = t2.length:=by rw [hy,List.length_set]
   have HB5:=Az.mk (show Below w.heap.size w w5 from pw_below_grown HB4.out (some g) (bwZ HB4.out) HG5.out (fun k_ e_=>by cases e_;exact GB.out))
   have HT5:=Az.mk (TabG.below HT.out HB5.out)
   have HS6:=HS5.out
   have A8:=A7.out
   rw [← hy] at HS6 A8
   have hcl:=tree_clean.calls k (some ⟨g,0,none⟩) c3 y a1 t3 (fun _=>True) w w5 HT5.out (by rw [hyl];exact HS6) HB5.out A8
   rw [hyl] at hcl
   have HCL:=Az.mk hcl
   clear hcl HS6 A8 hyl hy y HS5 HP HG5 A7 p0 p1 hx0 hx1 hx2 hx3 hx4 hx5 hf0 hf1 hf2 hf3 hf4 hf5
   go_wp2_with (go_at_call 61;(with_reducible refine HCL.out.mono ?_);rintro e w6 ⟨rfl,hS6,hB6,_⟩;have HS6:=Az.mk hS6;have HB6:=Az.mk hB6;clear hS6 hB6)
   go_ret2
   exact ⟨_,rfl,HS6.out,HB6.out⟩
end Go.Proofs.YtbblomnhobodkaaDoor.PTw
set_option linter.unusedVariables false
set_option linter.unusedSimpArgs false
namespace Go.Proofs.YtbblomnhobodkaaDoor.Pure
open Go.RowKit Go.Proofs.YtbblomnhobodkaaDoor Go.Proofs.YtbblomnhobodkaaDoor.PTw Go.Proofs.YtbblomnhobodkaaDoorW.PW
theorem Evr.uniq {α : Type} {g : Nat→Option α} {a b : α} (h : Evr g a) (k : Evr g b) : a = b:=by
 obtain ⟨K,hK⟩:=h
 obtain ⟨L,hL⟩:=k
 exact Option.some.inj ((hK (K + L) (by omega)).symm.trans (hL (K + L) (by omega)))
set_option maxRecDepth 100000 in
theorem und_fin : ∀ m : Fin 6,∀ i : Fin 32,∀ x : Fin 63,i.val < 2 ^ m.val→x.val < 2 * 2 ^ m.val - 1→r3Under.f 20 (2 * (i.val : Int)) (x.val : Int) ((2 ^ m.val : Nat) : Int) = some (decide (x.val ∈ pathN i.val m.val) || decide (x.val = 2 * i.val)):=by decide +kernel
theorem und_at {m i x : Nat} (hm : m≤5) (hi : i < 2 ^ m) (hx : x < 2 * 2 ^ m - 1) : Evr (fun k=>r3Under.f k (2 * (i : Int)) (x : Int) ((2 ^ m : Nat) : Int)) (decide (x ∈ pathN i m) || decide (x = 2 * i)):=by
 have hp:=pow_le32 hm
 exact .of_mono (K:=20) (fun k a h=>r3Under.mono _ _ _ k _ h) (und_fin ⟨m,by omega⟩ ⟨i,by omega⟩ ⟨x,by omega⟩ hi hx)
theorem above_l0 {m i : Nat} (hm : m≤5) (hi : i < 2 ^ m) : ∀ (d j : Nat) (g : Nat→S29),d + j = 2 * 2 ^ m - 1→Evr (fun k=>r4above.l0 k (i : Int) (mkT (2 * 2 ^ m - 1) g) ((2 ^ m : Nat) : Int) (j : Int)) (mkT (2 * 2 ^ m - 1) (fun x=>if j≤x∧x ∈ pathN i m then z29 else g x)):=by
 have hp:=pow_le32 hm
 have hok:=pathN_ok hm hi
 intro d
 induction d with
 | zero=>
  intro j g hd
  refine .succ (f:=fun _=>some (mkT (2 * 2 ^ m - 1) g)) (fun k=>by rw [r4above.l0,mkT_len,if_neg (by omega)]) (.const fun _=>?_)
  congr 1
  refine mkT_congr fun x hx=>?_
  rw [if_neg (fun hh=>by omega)]
 | succ d ih=>
  intro j g hd
  have hstep : ∀ (g' : Nat→S29),(∀ x,x≠j→g' x = g x)→(g' j = if j ∈ pathN i m then z29 else g j)→mkT (2 * 2 ^ m - 1) (fun x=>if j + 1≤x∧x ∈ pathN i m then z29 else g' x) = mkT (2 * 2 ^ m - 1) (fun x=>if j≤x∧x ∈ pathN i m then z29 else g x):=fun g' h1 h2=>mkT_congr fun x _=>by
   by_cases c : x = j
   · subst c
     rw [if_neg (fun hh=>by omega),h2]
     by_cases c2 : x ∈ pathN i m
     · rw [if_pos c2,if_pos ⟨Nat.le_refl _,c2⟩]
     · rw [if_neg c2,if_neg (fun hh=>c2 hh.2)]
   · rw [h1 x c]
     by_cases c2 : j≤x∧x ∈ pathN i m
     · rw [if_pos c2,if_pos ⟨by omega,c2.2⟩]
     · rw [if_neg c2,if_neg (fun hh=>c2 ⟨by omega,hh.2⟩)]
  by_cases c : j = 2 * i
  · have hn : j ∉ pathN i m:=fun hh=>by have:=(hok.2 _ hh).1;omega
    rw [← hstep g (fun _ _=>rfl) (by rw [if_neg hn])]
    refine .succ (fun k=>?_) (ih (j + 1) g (by omega))
    rw [r4above.l0,mkT_len,if_pos (by omega),wrap_id (a:=2 * (i : Int)) (by omega),if_pos (by omega),wrap_id (by omega),show (j : Int) + 1 = ((j + 1 : Nat) : Int) by omega]
  · have hu:=und_at hm hi (x:=j) (by omega)
    have hop : ∀ k,r4above.l0 (k + 1) (i : Int) (mkT (2 * 2 ^ m - 1) g) ((2 ^ m : Nat) : Int) (j : Int) = (r3Under.f k (2 * (i : Int)) (j : Int) ((2 ^ m : Nat) : Int)).bind fun t=>if t = true then r4above.l0 k (i : Int) (mkT (2 * 2 ^ m - 1) (fun x=>if x = j then z29 else g x)) ((2 ^ m : Nat) : Int) ((j + 1 : Nat) : Int) else r4above.l0 k (i : Int) (mkT (2 * 2 ^ m - 1) g) ((2 ^ m : Nat) : Int) ((j + 1 : Nat) : Int):=fun k=>by
     rw [r4above.l0,mkT_len,if_pos (by omega),wrap_id (a:=2 * (i : Int)) (by omega),if_neg (by omega),wrap_id (a:=(j : Int) + 1) (by omega),show (j : Int) + 1 = ((j + 1 : Nat) : Int) by omega,if_pos (by omega),Int.toNat_natCast,← mkT_set]
     rfl
    refine .succ hop (hu.bind ?_)
    rw [decide_eq_false c,Bool.or_false]
    by_cases c2 : j ∈ pathN i m
    · simp only [decide_eq_true c2,if_true]
      rw [← hstep (fun x=>if x = j then z29 else g x) (fun x hx=>by rw [if_neg hx]) (by rw [if_pos rfl,if_pos c2])]
      exact ih (j + 1) _ (by omega)
    · simp only [decide_eq_false c2,Bool.false_eq_true,if_false]
      rw [← hstep g (fun _ _=>rfl) (by rw [if_neg c2])]
      exact ih (j + 1) _ (by omega)
def abvG (l : List S29) (i m : Nat) : Nat→S29:=fun x=>if x ∈ pathN i m then z29 else VX l x
theorem above_ev {l : List S29} {m i : Nat} (hm : m≤5) (h : l.length = 2 * 2 ^ m - 1) (hi : i < 2 ^ m) (h5 : ∀ v ∈ l,v.f5.length < 17592186044416) : Evr (fun k=>r4above.f k l (i : Int)) (mkT (2 * 2 ^ m - 1) (abvG l i m)):=by
 have hp:=pow_le32 hm
 have h0:=above_l0 hm hi (2 * 2 ^ m - 1) 0 (VX l) (by omega)
 have e : mkT (2 * 2 ^ m - 1) (fun x=>if 0≤x∧x ∈ pathN i m then z29 else VX l x) = mkT (2 * 2 ^ m - 1) (abvG l i m):=mkT_congr fun x _=>by
  unfold abvG
  by_cases c : x ∈ pathN i m
  · rw [if_pos ⟨Nat.zero_le _,c⟩,if_pos c]
  · rw [if_neg (fun hh=>c hh.2),if_neg c]
 rw [e,← h,← mkT_self l] at h0
 have hc:=copy_ev (l:=l) (by omega) h5
 refine .congr (f:=fun k=>(r4Copy.f k l).bind fun t=>r4above.l0 k (i : Int) t ((2 ^ m : Nat) : Int) 0) (fun k=>?_) (hc.bind ?_)
 · unfold r4above.f
   congr 1
   funext t
   rw [(leaves_at h hp.1 (by omega)).1,Option.bind_some]
 · rw [h] at h0
   exact h0
def updL (l : List S29) (i m : Nat) (leaf : S29) : List S29:=mkT (2 * 2 ^ m - 1) (fun x=>if x ∈ pathN i m then z29 else if x = 2 * i then leaf else VX l x)
theorem full_at {l : List S29} {m : Nat} (hm : m≤5) (h : l.length = 2 * 2 ^ m - 1) {i : Nat} (hi : i < 2 ^ m) : fullB l (2 ^ m) (i : Int) = (VX l (2 * i)).f0:=by
 unfold fullB
 rw [decide_eq_true (by omega),decide_eq_true (by omega),Bool.true_and,Bool.true_and]
 rfl
theorem tupdate_ev {l : List S29} {m i : Nat} (hm : m≤5) (h : l.length = 2 * 2 ^ m - 1) (hl : LateOk l) (hi : i < 2 ^ m) (hf : (VX l (2 * i)).f0 = true) (f0 : Bool) (f1 f2 f3 f4 : Int) (l5 : List Int) : Evr (fun k=>tree_Update.f k l (i : Int) f0 f1 f2 f3 f4 l5) (updL l i m ⟨true,f1,f2,f3,f4,[]⟩,0):=by
 have hp:=pow_le32 hm
 have h5 : ∀ v ∈ l,v.f5.length < 17592186044416:=fun v hv=>by have:=hl.len v hv;omega
 have hcl:=clean_ev hm hi (fun x=>if x = 2 * i then (⟨true,f1,f2,f3,f4,[]⟩ : S29) else VX l x)
 have e : l.set (2 * i) (⟨true,f1,f2,f3,f4,[]⟩ : S29) = mkT (2 * 2 ^ m - 1) (fun x=>if x = 2 * i then (⟨true,f1,f2,f3,f4,[]⟩ : S29) else VX l x):=by
  conv=>lhs;rw [mkT_self l]
  rw [mkT_set,h]
 rw [← e] at hcl
 refine .congr (f:=fun k=>(tree_clean.f k (l.set (2 * i) (⟨true,f1,f2,f3,f4,[]⟩ : S29)) (i : Int)).bind fun t3=>some (t3,0)) (fun k=>?_) (hcl.bind (.const fun _=>rfl))
 unfold tree_Update.f
 rw [(full_same h hp.1 (by omega) _).2,full_at hm h hi,hf,Option.bind_some,if_pos rfl,copied_at k (by omega) h5,Option.bind_some,wrap_id (by omega),if_pos (by omega),if_pos (by omega),show (2 * (i : Int)).toNat = 2 * i by omega]
theorem rupdate_ev {l : List S29} {m i : Nat} (hm : m≤5) (h : l.length = 2 * 2 ^ m - 1) (hl : LateOk l) (hi : i < 2 ^ m) (hf : (VX l (2 * i)).f0 = true) (f0 : Bool) (f1 f2 f3 f4 : Int) (l5 : List Int) : Evr (fun k=>r4Update.f k l (i : Int) f0 f1 f2 f3 f4 l5) (updL l i m ⟨true,f1,f2,f3,f4,[]⟩,0):=by
 have hp:=pow_le32 hm
 have h5 : ∀ v ∈ l,v.f5.length < 17592186044416:=fun v hv=>by have:=hl.len v hv;omega
 have hlo : r4Leaf.f f0 f1 f2 f3 f4 l5 = some (true,f1,f2,f3,f4,[]):=rfl
 refine .congr (f:=fun k=>(r4above.f k l (i : Int)).bind fun t=>if 2 * (i : Int) < (t.length : Int) then some (t.set (2 * i) (⟨true,f1,f2,f3,f4,[]⟩ : S29),0) else none) (fun k=>?_) ((above_ev hm h hi h5).bind (.const fun _=>?_))
 · unfold r4Update.f
   rw [(full_same h hp.1 (by omega) _).1,full_at hm h hi,hf,Option.bind_some,if_pos rfl]
   congr 1
   funext t
   rw [hlo,Option.bind_some,wrap_id (by omega),if_pos (by omega),show (2 * (i : Int)).toNat = 2 * i by omega]
 · rw [mkT_len,if_pos (by omega),mkT_set]
   congr 2
   refine mkT_congr fun x _=>?_
   unfold abvG
   by_cases c : x = 2 * i
   · have hn : x ∉ pathN i m:=fun hh=>by have:=((pathN_ok hm hi).2 _ hh).1;omega
     rw [if_pos c,if_neg hn,if_pos c]
   · rw [if_neg c,if_neg c]
theorem update_none {l : List S29} {m : Nat} {i : Int} (hm : m≤5) (h : l.length = 2 * 2 ^ m - 1) (hf : fullB l (2 ^ m) i = false) (f0 : Bool) (f1 f2 f3 f4 : Int) (l5 : List Int) : Evr (fun k=>tree_Update.f k l i f0 f1 f2 f3 f4 l5) ([],40)∧Evr (fun k=>r4Update.f k l i f0 f1 f2 f3 f4 l5) ([],40):=by
 have hp:=pow_le32 hm
 refine ⟨.const fun k=>?_,.const fun k=>?_⟩
 · unfold tree_Update.f
   rw [(full_same h hp.1 (by omega) _).2,hf,Option.bind_some,if_neg (by decide)]
 · unfold r4Update.f
   rw [(full_same h hp.1 (by omega) _).1,hf,Option.bind_some,if_neg (by decide)]
end Go.Proofs.YtbblomnhobodkaaDoor.Pure
set_option linter.unusedVariables false
set_option linter.unusedSimpArgs false
namespace Go.Proofs.YtbblomnhobodkaaDoor.Pure
open Go.RowKit Go.Proofs.YtbblomnhobodkaaDoor Go.Proofs.YtbblomnhobodkaaDoor.PTw Go.Proofs.YtbblomnhobodkaaDoorW.PW
theorem VX_mkT {N : Nat} {g : Nat→S29} (h : ∀ x,N≤x→g x = z29) : VX (mkT N g) = g:=by
 funext x
 by_cases c : x < N
 · exact mkT_get c
 · rw [VX_out (by rw [mkT_len];omega),h x (by omega)]
structure RG (g : Nat→S29) (m : Nat) : Prop where
 hm : m≤5
 out : ∀ x,2 * 2 ^ m - 1≤x→g x = z29
 blank : ∀ x,(g x).f0 = false→g x = z29
 leaf : ∀ x,x % 2 = 0→(g x).f5 = []
 par : ∀ x,x % 2 = 1→(g x).f2 = 0∧(g x).f3 = 0
 up : ∀ x,(g x).f5.Pairwise (· < ·)
 late : ∀ x,∀ y ∈ (g x).f5,∃ j : Nat,y = (j : Int)∧j < 2 ^ m∧(g (2 * j)).f0 = true∧x ∈ pathN j m
 top : ∃ i,2 ^ m / 2≤i∧i < 2 ^ m∧(g (2 * i)).f0 = true
structure RT (l : List S29) (m : Nat) : Prop where
 len : l.length = 2 * 2 ^ m - 1
 rg : RG (VX l) m
theorem RT.of {g : Nat→S29} {m : Nat} (h : RG g m) : RT (mkT (2 * 2 ^ m - 1) g) m:=
 ⟨mkT_len _ _,by rw [VX_mkT h.out];exact h⟩
theorem RT.hm {l : List S29} {m : Nat} (h : RT l m) : m≤5:=h.rg.hm
theorem rising_len : ∀ (l : List Int) (a b : Int),l.Pairwise (· < ·)→(∀ y ∈ l,a≤y∧y < b)→l = []∨(l.length : Int)≤b - a
 | [],_,_,_,_=>.inl rfl
 | h :: t,a,b,hp,hb=>by
  refine .inr ?_
  obtain ⟨h1,h2⟩:=List.pairwise_cons.1 hp
  have hh:=hb h (List.mem_cons_self ..)
  rcases rising_len t (h + 1) b h2 (fun y hy=>⟨by have:=h1 y hy;omega,(hb y (List.mem_cons_of_mem _ hy)).2⟩) with e | e
  · subst e;simp;omega
  · simp only [List.length_cons];omega
theorem RG.lates {g : Nat→S29} {m : Nat} (h : RG g m) (x : Nat) : (∀ y ∈ (g x).f5,0≤y∧y < 32)∧(g x).f5.length≤32:=by
 have hp:=pow_le32 h.hm
 have h1 : ∀ y ∈ (g x).f5,0≤y∧y < 32:=fun y hy=>by
  obtain ⟨j,rfl,hj,_⟩:=h.late x y hy
  omega
 refine ⟨h1,?_⟩
 rcases rising_len (g x).f5 0 32 (h.up x) h1 with e | e
 · rw [e];simp
 · omega
theorem mem_VX {l : List S29} {v : S29} (h : v ∈ l) : ∃ x,x < l.length∧v = VX l x:=by
 obtain ⟨x,hx,rfl⟩:=List.getElem_of_mem h
 exact ⟨x,hx,(VX_at hx).symm⟩
theorem RT.lateOk {l : List S29} {m : Nat} (h : RT l m) : LateOk l:=by
 refine ⟨fun v hv=>?_,fun v hv _=>?_⟩
 · obtain ⟨x,_,rfl⟩:=mem_VX hv
   have:=(h.rg.lates x).2
   omega
 · obtain ⟨x,_,rfl⟩:=mem_VX hv
   exact (h.rg.up x).imp fun h=>Int.le_of_lt h
theorem RT.l5 {l : List S29} {m : Nat} (h : RT l m) : ∀ v ∈ l,v.f5.length≤1000:=h.lateOk.len
theorem path_pre {i m m' x : Nat} (h : m≤m') (hm' : m'≤5) (hi : i < 2 ^ m) : x ∈ pathN i m↔x ∈ pathN i m'∧x < 2 * 2 ^ m - 1:=by
 constructor
 · intro hx
   refine ⟨?_,((pathN_ok (by omega) hi).2 x hx).2⟩
   obtain ⟨k,hk,rfl⟩:=List.mem_map.1 hx
   exact List.mem_map.2 ⟨k,List.mem_range.2 (by have:=List.mem_range.1 hk;omega),rfl⟩
 · rintro ⟨hx,hlt⟩
   obtain ⟨k,hk,rfl⟩:=List.mem_map.1 hx
   refine List.mem_map.2 ⟨k,List.mem_range.2 ?_,rfl⟩
   rcases Nat.lt_or_ge k m with c | c
   · exact c
   · exfalso
     have h2 : 2 ^ m≤2 ^ k:=Nat.pow_le_pow_right (by decide) c
     have h3 : 2 ^ (k + 1) = 2 * 2 ^ k:=by rw [Nat.pow_succ];omega
     have h0 : i / 2 ^ (k + 1) = 0:=Nat.div_eq_of_lt (by omega)
     rw [h0] at hlt
     omega
theorem path_odd {m i x : Nat} (hm : m≤5) (hi : i < 2 ^ m) (h : x ∈ pathN i m) : x % 2 = 1:=((pathN_ok hm hi).2 x h).1
theorem path_lt {m i x : Nat} (hm : m≤5) (hi : i < 2 ^ m) (h : x ∈ pathN i m) : x < 2 * 2 ^ m - 1:=((pathN_ok hm hi).2 x h).2
theorem path_even {m i j : Nat} (hm : m≤5) (hi : i < 2 ^ m) : 2 * j ∉ pathN i m:=fun h=>by have:=path_odd hm hi h;omega
theorem insN_lt {a i : Int} {l : List Int} (h : a < i) : insN (a :: l) i = a :: insN l i:=by
 unfold insN
 rw [List.countP_cons,decide_eq_true h]
 simp
theorem insN_ge {a i : Int} {l : List Int} (hp : (a :: l).Pairwise (· < ·)) (h : i≤a) : insN (a :: l) i = i :: a :: l:=by
 unfold insN
 have h0 : (a :: l).countP (fun y=>decide (y < i)) = 0:=List.countP_eq_zero.2 fun y hy hh=>by
  have:=of_decide_eq_true hh
  rcases List.mem_cons.1 hy with e | e
  · omega
  · have:=(List.pairwise_cons.1 hp).1 y e
    omega
 rw [h0]
 simp
theorem insN_mem {l : List Int} {i y : Int} : y ∈ insN l i↔y = i∨y ∈ l:=by
 unfold insN
 rw [List.mem_append,List.mem_cons]
 conv=>rhs;rw [← List.take_append_drop (l.countP (fun y=>decide (y < i))) l,List.mem_append]
 constructor
 · rintro (h | h | h)
   · exact .inr (.inl h)
   · exact .inl h
   · exact .inr (.inr h)
 · rintro (h | h | h)
   · exact .inr (.inl h)
   · exact .inl h
   · exact .inr (.inr h)
theorem insN_up {i : Int} : ∀ {l : List Int},l.Pairwise (· < ·)→i ∉ l→(insN l i).Pairwise (· < ·)
 | [],_,_=>by unfold insN;simp
 | a :: l,hp,hi=>by
  obtain ⟨h1,h2⟩:=List.pairwise_cons.1 hp
  have hne : a≠i:=fun e=>hi (by rw [e];exact List.mem_cons_self ..)
  have hi2 : i ∉ l:=fun e=>hi (List.mem_cons_of_mem _ e)
  by_cases c : a < i
  · rw [insN_lt c]
    refine List.pairwise_cons.2 ⟨fun y hy=>?_,insN_up h2 hi2⟩
    rcases insN_mem.1 hy with e | e
    · rw [e];exact c
    · exact h1 y e
  · rw [insN_ge hp (by omega)]
    refine List.pairwise_cons.2 ⟨fun y hy=>?_,hp⟩
    rcases List.mem_cons.1 hy with e | e
    · omega
    · have:=h1 y e;omega
def addG (g : Nat→S29) (i m : Nat) (leaf : S29) : Nat→S29:=fun x=>if x ∈ pathN i m∧(g x).f0 = true then lateIn (g x) i else if x = 2 * i then leaf else g x
def aLeaf (leaf : S29) : Prop:=leaf.f0 = true∧leaf.f5 = []
theorem RG.add {g : Nat→S29} {m m' i : Nat} {leaf : S29} (h : RG g m) (hL : aLeaf leaf) (hfree : (g (2 * i)).f0 = false) (hm' : (i < 2 ^ m∧m' = m)∨(i = 2 ^ m∧m' = m + 1∧m'≤5)) : RG (addG g i m' leaf) m':=by
 have hm:=h.hm
 have hm5 : m'≤5:=by omega
 have hle : m≤m':=by omega
 have hpp : 2 ^ m≤2 ^ m':=Nat.pow_le_pow_right (by decide) hle
 have hi : i < 2 ^ m':=by
  rcases hm' with ⟨h1,h2⟩ | ⟨h1,h2,_⟩
  · omega
  · rw [h2,Nat.pow_succ];have:=Nat.one_le_two_pow (n:=m);omega
 have f0 : ∀ x,(addG g i m' leaf x).f0 = if x = 2 * i then true else (g x).f0:=fun x=>by
  unfold addG
  by_cases c : x ∈ pathN i m'∧(g x).f0 = true
  · have : x≠2 * i:=fun e=>path_even hm5 hi (by rw [← e];exact c.1)
    rw [if_pos c,if_neg this]
    rfl
  · rw [if_neg c]
    by_cases c2 : x = 2 * i
    · rw [if_pos c2,if_pos c2];exact hL.1
    · rw [if_neg c2,if_neg c2]
 have hni : ∀ x,(i : Int) ∉ (g x).f5:=fun x hx=>by
  obtain ⟨j,h1,h2,h3,_⟩:=h.late x _ hx
  rw [show 2 * i = 2 * j by omega,h3] at hfree
  cases hfree
 refine ⟨hm5,fun x hx=>?_,fun x hx=>?_,fun x hx=>?_,fun x hx=>?_,fun x=>?_,fun x y hy=>?_,?_⟩
 · unfold addG
   rw [if_neg (fun c=>by have:=path_lt hm5 hi c.1;omega),if_neg (by omega)]
   exact h.out x (by omega)
 · rw [f0] at hx
   by_cases c : x = 2 * i
   · rw [if_pos c] at hx;cases hx
   · rw [if_neg c] at hx
     unfold addG
     rw [if_neg (fun hh=>by rw [hx] at hh;cases hh.2),if_neg c]
     exact h.blank x hx
 · unfold addG
   rw [if_neg (fun hh=>by have:=path_odd hm5 hi hh.1;omega)]
   split
   · exact hL.2
   · exact h.leaf x hx
 · unfold addG
   by_cases c : x ∈ pathN i m'∧(g x).f0 = true
   · rw [if_pos c];exact h.par x hx
   · rw [if_neg c,if_neg (by omega)];exact h.par x hx
 · unfold addG
   by_cases c : x ∈ pathN i m'∧(g x).f0 = true
   · rw [if_pos c];exact insN_up (h.up x) (hni x)
   · rw [if_neg c]
     split
     · rw [hL.2];exact List.Pairwise.nil
     · exact h.up x
 · have old : y ∈ (g x).f5→∃ j : Nat,y = (j : Int)∧j < 2 ^ m'∧(addG g i m' leaf (2 * j)).f0 = true∧x ∈ pathN j m':=fun hy=>by
    obtain ⟨j,h1,h2,h3,h4⟩:=h.late x y hy
    refine ⟨j,h1,by omega,?_,((path_pre hle hm5 h2).1 h4).1⟩
    rw [f0]
    split
    · rfl
    · exact h3
   by_cases c : x ∈ pathN i m'∧(g x).f0 = true
   · have e : (addG g i m' leaf x).f5 = insN (g x).f5 i:=by unfold addG;rw [if_pos c];rfl
     rw [e] at hy
     rcases insN_mem.1 hy with e2 | e2
     · exact ⟨i,e2,hi,by rw [f0,if_pos rfl],c.1⟩
     · exact old e2
   · by_cases c2 : x = 2 * i
     · have e : addG g i m' leaf x = leaf:=by unfold addG;rw [if_neg c,if_pos c2]
       rw [e,hL.2] at hy
       cases hy
     · have e : addG g i m' leaf x = g x:=by unfold addG;rw [if_neg c,if_neg c2]
       rw [e] at hy
       exact old hy
 · rcases hm' with ⟨h1,rfl⟩ | ⟨h1,rfl,_⟩
   · obtain ⟨j,q1,q2,q3⟩:=h.top
     refine ⟨j,q1,q2,?_⟩
     rw [f0]
     split
     · rfl
     · exact q3
   · exact ⟨i,by rw [h1,Nat.pow_succ];omega,hi,by rw [f0,if_pos rfl]⟩
def merG (g : Nat→S29) (i m : Nat) (leaf : S29) (F : Nat→S29) : Nat→S29:=fun x=>if x ∈ pathN i m then F x else if x = 2 * i then leaf else g x
def OkF (F : Nat→S29) : Prop:=∀ x,F x = z29∨∃ k h : Int,F x = ⟨true,k,0,0,h,[]⟩
theorem OkF.none : OkF (fun _=>z29):=fun _=>.inl rfl
theorem OkF.f5 {F : Nat→S29} (h : OkF F) (x : Nat) : (F x).f5 = []∧(F x).f2 = 0∧(F x).f3 = 0∧((F x).f0 = false→F x = z29):=by
 rcases h x with e | ⟨k,h,e⟩
 · rw [e];exact ⟨rfl,rfl,rfl,fun _=>rfl⟩
 · rw [e];exact ⟨rfl,rfl,rfl,fun c=>by cases c⟩
theorem RG.lay {g : Nat→S29} {m i : Nat} {leaf : S29} {F : Nat→S29} (h : RG g m) (hL : aLeaf leaf) (hF : OkF F) (hi : i < 2 ^ m) : RG (merG g i m leaf F) m:=by
 have hm:=h.hm
 have fe : ∀ j,(merG g i m leaf F (2 * j)).f0 = if j = i then true else (g (2 * j)).f0:=fun j=>by
  unfold merG
  rw [if_neg (path_even hm hi)]
  by_cases c : j = i
  · rw [if_pos c,if_pos (by omega)];exact hL.1
  · rw [if_neg c,if_neg (by omega)]
 have hcase : ∀ x,(x ∈ pathN i m∧merG g i m leaf F x = F x)∨(x = 2 * i∧merG g i m leaf F x = leaf)∨(x ∉ pathN i m∧x≠2 * i∧merG g i m leaf F x = g x):=fun x=>by
  unfold merG
  by_cases c : x ∈ pathN i m
  · exact .inl ⟨c,by rw [if_pos c]⟩
  · by_cases c2 : x = 2 * i
    · exact .inr (.inl ⟨c2,by rw [if_neg c,if_pos c2]⟩)
    · exact .inr (.inr ⟨c,c2,by rw [if_neg c,if_neg c2]⟩)
 refine ⟨hm,fun x hx=>?_,fun x hx=>?_,fun x hx=>?_,fun x hx=>?_,fun x=>?_,fun x y hy=>?_,?_⟩
 · rcases hcase x with ⟨c,_⟩ | ⟨c,_⟩ | ⟨_,_,e⟩
   · have:=path_lt hm hi c;omega
   · omega
   · rw [e];exact h.out x hx
 · rcases hcase x with ⟨c,e⟩ | ⟨c,e⟩ | ⟨_,_,e⟩ <;> rw [e] at hx ⊢
   · exact (hF.f5 x).2.2.2 hx
   · rw [hL.1] at hx;cases hx
   · exact h.blank x hx
 · rcases hcase x with ⟨c,e⟩ | ⟨c,e⟩ | ⟨_,_,e⟩ <;> rw [e]
   · exact (hF.f5 x).1
   · exact hL.2
   · exact h.leaf x hx
 · rcases hcase x with ⟨c,e⟩ | ⟨c,e⟩ | ⟨_,_,e⟩
   · rw [e];exact ⟨(hF.f5 x).2.1,(hF.f5 x).2.2.1⟩
   · omega
   · rw [e];exact h.par x hx
 · rcases hcase x with ⟨c,e⟩ | ⟨c,e⟩ | ⟨_,_,e⟩ <;> rw [e]
   · rw [(hF.f5 x).1];exact List.Pairwise.nil
   · rw [hL.2];exact List.Pairwise.nil
   · exact h.up x
 · rcases hcase x with ⟨c,e⟩ | ⟨c,e⟩ | ⟨_,_,e⟩ <;> rw [e] at hy
   · rw [(hF.f5 x).1] at hy;cases hy
   · rw [hL.2] at hy;cases hy
   · obtain ⟨j,h1,h2,h3,h4⟩:=h.late x y hy
     refine ⟨j,h1,h2,?_,h4⟩
     rw [fe]
     split
     · rfl
     · exact h3
 · obtain ⟨j,q1,q2,q3⟩:=h.top
   refine ⟨j,q1,q2,?_⟩
   rw [fe]
   split
   · rfl
   · exact q3
def remG (g : Nat→S29) (i m m' : Nat) : Nat→S29:=fun x=>if x < 2 * 2 ^ m' - 1 then (if x ∈ pathN i m then z29 else if x = 2 * i then z29 else g x) else z29
theorem RG.rem {l : List S29} {m m' i : Nat} (h : RG (VX l) m) (hi : i < 2 ^ m) (ht : Tops (cutG l i m) m m') : RG (remG (VX l) i m m') m':=by
 have hm:=h.hm
 have hle:=ht.le
 have hpp : 2 ^ m'≤2 ^ m:=Nat.pow_le_pow_right (by decide) hle
 have hcase : ∀ x,remG (VX l) i m m' x = z29∨(x < 2 * 2 ^ m' - 1∧x ∉ pathN i m∧x≠2 * i∧remG (VX l) i m m' x = VX l x):=fun x=>by
  unfold remG
  by_cases c0 : x < 2 * 2 ^ m' - 1
  · rw [if_pos c0]
    by_cases c : x ∈ pathN i m
    · exact .inl (by rw [if_pos c])
    · by_cases c2 : x = 2 * i
      · exact .inl (by rw [if_neg c,if_pos c2])
      · exact .inr ⟨c0,c,c2,by rw [if_neg c,if_neg c2]⟩
  · exact .inl (by rw [if_neg c0])
 have hcut : ∀ x,x < 2 * 2 ^ m' - 1→remG (VX l) i m m' x = cutG l i m x:=fun x hx=>by
  unfold remG cutG
  rw [if_pos hx]
 refine ⟨by omega,fun x hx=>?_,fun x hx=>?_,fun x hx=>?_,fun x hx=>?_,fun x=>?_,fun x y hy=>?_,?_⟩
 · unfold remG
   rw [if_neg (by omega)]
 · rcases hcase x with e | ⟨_,_,_,e⟩
   · exact e
   · rw [e] at hx ⊢;exact h.blank x hx
 · rcases hcase x with e | ⟨_,_,_,e⟩ <;> rw [e]
   · rfl
   · exact h.leaf x hx
 · rcases hcase x with e | ⟨_,_,_,e⟩ <;> rw [e]
   · exact ⟨rfl,rfl⟩
   · exact h.par x hx
 · rcases hcase x with e | ⟨_,_,_,e⟩ <;> rw [e]
   · exact List.Pairwise.nil
   · exact h.up x
 · rcases hcase x with e | ⟨c0,c1,c2,e⟩ <;> rw [e] at hy
   · cases hy
   · obtain ⟨j,h1,h2,h3,h4⟩:=h.late x y hy
     have hne : j≠i:=fun hh=>c1 (by rw [← hh];exact h4)
     have hc : cutG l i m (2 * j) = VX l (2 * j):=by
      unfold cutG
      rw [if_neg (path_even hm hi),if_neg (by omega)]
     have hj : j < 2 ^ m':=by
      rcases Nat.lt_or_ge j (2 ^ m') with q | q
      · exact q
      · have:=ht.no j q h2
        rw [hc,h3] at this
        cases this
     refine ⟨j,h1,hj,?_,(path_pre hle hm hj).2 ⟨h4,c0⟩⟩
     rw [hcut _ (by omega),hc]
     exact h3
 · obtain ⟨j,q1,q2,q3⟩:=ht.yes
   exact ⟨j,q1,q2,by rw [hcut _ (by omega)];exact q3⟩
theorem rem_mk {l : List S29} {i m m' : Nat} : mkT (2 * 2 ^ m' - 1) (cutG l i m) = mkT (2 * 2 ^ m' - 1) (remG (VX l) i m m'):=mkT_congr fun x hx=>by
 unfold remG cutG
 rw [if_pos hx]
theorem tops_any {g : Nat→S29} (hb : ∃ j,(g (2 * j)).f0 = true) : ∀ (q : Nat),(∀ j,(g (2 * j)).f0 = true→j < 2 ^ q)→∃ m',m'≤q∧(∀ j,(g (2 * j)).f0 = true→j < 2 ^ m')∧∃ j,2 ^ m' / 2≤j∧j < 2 ^ m'∧(g (2 * j)).f0 = true:=by
 intro q
 induction q with
 | zero=>
  intro h
  obtain ⟨j,hj⟩:=hb
  exact ⟨0,Nat.le_refl _,h,j,by have:=h j hj;simp at this;simp,h j hj,hj⟩
 | succ q ih=>
  intro h
  by_cases c : ∃ j,(g (2 * j)).f0 = true∧2 ^ (q + 1) / 2≤j
  · obtain ⟨j,h1,h2⟩:=c
    exact ⟨q + 1,Nat.le_refl _,h,j,h2,h j h1,h1⟩
  · obtain ⟨m',h1,h2,h3⟩:=ih (fun j hj=>by
     have : ¬ 2 ^ (q + 1) / 2≤j:=fun hh=>c ⟨j,hj,hh⟩
     rw [Nat.pow_succ] at this
     omega)
    exact ⟨m',by omega,h2,h3⟩
end Go.Proofs.YtbblomnhobodkaaDoor.Pure
set_option linter.unusedVariables false
set_option linter.unusedSimpArgs false
namespace Go.Proofs.YtbblomnhobodkaaDoor.Pure
open Go.RowKit Go.Proofs.YtbblomnhobodkaaDoor Go.Proofs.YtbblomnhobodkaaDoor.PTw Go.Proofs.YtbblomnhobodkaaDoorW.PW
theorem tight_same {l : List S29} {n : Nat} (h : l.length = 2 * n - 1) (hn : 1≤n) (hn2 : n≤1000) : ∀ (d i : Nat),d + i = n→∃ b,Evr (fun k=>tree_tight.l0 k l (n : Int) (i : Int)) b∧Evr (fun k=>r4Tight.l0 k l (n : Int) (i : Int)) b:=by
 intro d
 induction d with
 | zero=>exact fun i hd=>⟨false,.succ (f:=fun _=>some false) (fun k=>by rw [tree_tight.l0,if_neg (by omega)]) (.const fun _=>rfl),.succ (f:=fun _=>some false) (fun k=>by rw [r4Tight.l0,if_neg (by omega)]) (.const fun _=>rfl)⟩
 | succ d ih=>
  intro i hd
  obtain ⟨b,t1,t2⟩:=ih (i + 1) (by omega)
  have ef : fullB l n (i : Int) = (rd_T29 l (2 * (i : Int))).f0:=by
   unfold fullB
   rw [decide_eq_true (by omega),decide_eq_true (by omega),Bool.true_and,Bool.true_and]
  have e1 : ∀ k,tree_tight.l0 (k + 1) l (n : Int) (i : Int) = if (rd_T29 l (2 * (i : Int))).f0 = true then some true else tree_tight.l0 k l (n : Int) ((i + 1 : Nat) : Int):=fun k=>by
   rw [tree_tight.l0,if_pos (by omega),wrap_id (a:=2 * (i : Int)) (by omega),if_pos (by omega),if_pos (by omega),wrap_id (by omega),show (i : Int) + 1 = ((i + 1 : Nat) : Int) by omega]
  have e2 : ∀ k,r4Tight.l0 (k + 1) l (n : Int) (i : Int) = if (rd_T29 l (2 * (i : Int))).f0 = true then some true else r4Tight.l0 k l (n : Int) ((i + 1 : Nat) : Int):=fun k=>by
   rw [r4Tight.l0,if_pos (by omega),(full_same h hn hn2 _).1,Option.bind_some,ef,wrap_id (by omega),show (i : Int) + 1 = ((i + 1 : Nat) : Int) by omega]
  by_cases c : (rd_T29 l (2 * (i : Int))).f0 = true
  · exact ⟨true,.succ e1 (.const fun k=>by rw [if_pos c]),.succ e2 (.const fun k=>by rw [if_pos c])⟩
  · exact ⟨b,.succ e1 (by simpa only [if_neg c] using t1),.succ e2 (by simpa only [if_neg c] using t2)⟩
end Go.Proofs.YtbblomnhobodkaaDoor.Pure
