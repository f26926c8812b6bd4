/- What this claim reaches of longer texts of this session. -/
import Derived.Test.YtbblomnhobodkaaDoorPTwx7
import Derived.Test.YtbblomnhobodkaaDoorPTwx6
import Derived.Test.YtbblomnhobodkaaDoorPTwx24
import Derived.Test.YtbblomnhobodkaaDoorPTwx15
import Derived.Test.YtbblomnhobodkaaDoorPureTreeC
import Derived.Test.YtbblomnhobodkaaDoorPTwx18
import Derived.Test.YtbblomnhobodkaaDoorPTwx14
import Derived.Test.YtbblomnhobodkaaDoorPTwx32
set_option linter.unusedVariables false
set_option linter.unusedSimpArgs false
namespace Go.Proofs.YtbblomnhobodkaaDoor.Pure
open Go.RowKit Go.Proofs.YtbblomnhobodkaaDoor Go.Proofs.YtbblomnhobodkaaDoor.PTw Go.Proofs.YtbblomnhobodkaaDoorW.PW
def lvN (x : Nat) : Nat:=((List.range 6).find? (fun k=>x % 2 ^ (k + 1) == 2 ^ k - 1)).getD 0
def copN (i m : Nat) : List Nat:=(List.range m).map fun k=>if i / 2 ^ k % 2 = 0 then (i / 2 ^ k + 1) * 2 ^ (k + 1) + 2 ^ k - 1 else (i / 2 ^ k - 1) * 2 ^ (k + 1) + 2 ^ k - 1
set_option maxRecDepth 100000 in
theorem child_fin : ∀ m : Fin 6,∀ x : Fin 63,x.val < 2 * 2 ^ m.val - 1→heap_Children.f (x.val : Int) ((2 ^ m.val : Nat) : Int) = (if lvN x.val = 0 then some (0,0,30) else some (((x.val - 2 ^ (lvN x.val - 1) : Nat) : Int),((x.val + 2 ^ (lvN x.val - 1) : Nat) : Int),0)):=by decide +kernel
set_option maxRecDepth 100000 in
theorem lv_fin : ∀ m : Fin 6,∀ x : Fin 63,x.val < 2 * 2 ^ m.val - 1→lvN x.val≤m.val∧(lvN x.val≠0→lvN (x.val - 2 ^ (lvN x.val - 1)) = lvN x.val - 1∧lvN (x.val + 2 ^ (lvN x.val - 1)) = lvN x.val - 1∧x.val + 2 ^ (lvN x.val - 1) < 2 * 2 ^ m.val - 1∧2 ^ (lvN x.val - 1)≤x.val):=by decide +kernel
set_option maxRecDepth 100000 in
theorem width_fin : ∀ x : Fin 63,r3Width.f 20 (x.val : Int) = some ((2 ^ lvN x.val - 1 : Nat) : Int):=by decide +kernel
set_option maxRecDepth 100000 in
theorem cop_fin : ∀ m : Fin 6,∀ i : Fin 32,i.val < 2 ^ m.val→heap_Copath.f (2 * (i.val : Int)) ((2 ^ m.val : Nat) : Int) = some (ints (copN i.val m.val),0)∧r3Path.f 100 (2 * (i.val : Int)) ((2 ^ m.val : Nat) : Int) = some (ints (pathN i.val m.val))∧r3Copath.f 100 (2 * (i.val : Int)) ((2 ^ m.val : Nat) : Int) = some (ints (copN i.val m.val)):=by decide +kernel
theorem child_at {m x : Nat} (hm : m≤5) (hx : x < 2 * 2 ^ m - 1) : heap_Children.f (x : Int) ((2 ^ m : Nat) : Int) = (if lvN x = 0 then some (0,0,30) else some (((x - 2 ^ (lvN x - 1) : Nat) : Int),((x + 2 ^ (lvN x - 1) : Nat) : Int),0)):=by
 have hp:=pow_le32 hm;exact child_fin ⟨m,by omega⟩ ⟨x,by omega⟩ hx
theorem lv_at {m x : Nat} (hm : m≤5) (hx : x < 2 * 2 ^ m - 1) : lvN x≤m∧(lvN x≠0→lvN (x - 2 ^ (lvN x - 1)) = lvN x - 1∧lvN (x + 2 ^ (lvN x - 1)) = lvN x - 1∧x + 2 ^ (lvN x - 1) < 2 * 2 ^ m - 1∧2 ^ (lvN x - 1)≤x):=by
 have hp:=pow_le32 hm;exact lv_fin ⟨m,by omega⟩ ⟨x,by omega⟩ hx
theorem width_at {x : Nat} (hx : x < 63) : Evr (fun k=>r3Width.f k (x : Int)) ((2 ^ lvN x - 1 : Nat) : Int):=
 .of_mono (K:=20) (fun k a h=>r3Width.mono _ k _ h) (width_fin ⟨x,hx⟩)
def resN (l : List S29) : Nat→Nat→List Int
 | 0,x=>if (VX l x).f0 = true then (x : Int) :: (VX l x).f5.map (fun y=>2 * y) else []
 | k + 1,x=>if (VX l x).f0 = true then (x : Int) :: (VX l x).f5.map (fun y=>2 * y) else resN l k (x - 2 ^ k) ++ resN l k (x + 2 ^ k)
structure LateSm (l : List S29) : Prop where
 len : ∀ x,(VX l x).f5.length≤100
 sm : ∀ x,∀ y ∈ (VX l x).f5,0≤y∧y≤100
theorem resN_len {l : List S29} (h : LateSm l) : ∀ (k x : Nat),(resN l k x).length≤101 * 2 ^ k
 | 0,x=>by
  unfold resN
  split
  · simp;have:=h.len x;omega
  · simp
 | k + 1,x=>by
  unfold resN;have h1:=resN_len h k (x - 2 ^ k);have h2:=resN_len h k (x + 2 ^ k);have hp : 1≤2 ^ k:=Nat.one_le_two_pow
  split
  · simp;have:=h.len x;rw [Nat.pow_succ];omega
  · rw [List.length_append,Nat.pow_succ];omega
theorem res_l0 {l : List S29} (late : List Int) (hl : late.length≤1000) (hs : ∀ y ∈ late,0≤y∧y≤100) : ∀ (d j : Nat) (acc : List Int),d + j = late.length→acc.length + d≤100000→Evr (fun k=>tree_Resolution.l0 k acc late (late.length : Int) (j : Int)) (acc ++ (late.drop j).map (fun y=>2 * y)):=by
 intro d
 induction d with
 | zero=>
  intro j acc hd _;refine .succ (f:=fun _=>some acc) (fun k=>by rw [tree_Resolution.l0,if_neg (by omega)]) (.const fun _=>?_);rw [List.drop_eq_nil_of_le (by omega)]
  simp
 | succ d ih=>
  intro j acc hd ha
  have hj : j < late.length:=by omega
  have hy:=hs _ (List.getElem_mem hj)
  have e : rd late (j : Int) = late[j]:=by simp [rd,List.getD_eq_getElem?_getD,List.getElem?_eq_getElem hj]
  rw [List.drop_eq_getElem_cons hj,List.map_cons,show acc ++ 2 * late[j] :: (late.drop (j + 1)).map (fun y=>2 * y) = acc ++ [2 * late[j]] ++ (late.drop (j + 1)).map (fun y=>2 * y) by simp];refine .succ (fun k=>?_) (ih (j + 1) (acc ++ [2 * late[j]]) (by omega) (by simp;omega));rw [tree_Resolution.l0,if_pos (by omega),if_pos (by omega),if_pos (by omega),if_pos (by omega),e,wrap_id (a:=2 * late[j]) (by omega),wrap_id (by omega),show (j : Int) + 1 = ((j + 1 : Nat) : Int) by omega]
theorem tres_open {l : List S29} {x : Nat} (hx : x < l.length) {r : List Int} (hr : Evr (fun q=>tree_Resolution.j0 q l (x : Int) false) r) : Evr (fun q=>tree_Resolution.f q l (x : Int)) r:=
 .succ (fun q=>by rw [tree_Resolution.f,if_neg (by omega),decide_eq_false (by omega)]) hr
theorem tres_full {l : List S29} (hL : LateSm l) {x : Nat} (hx : x < l.length) (hf : (VX l x).f0 = true) : Evr (fun q=>tree_Resolution.f q l (x : Int)) ((x : Int) :: (VX l x).f5.map (fun y=>2 * y)):=by
 have h:=res_l0 (l:=l) (VX l x).f5 (by have:=hL.len x;omega) (hL.sm x) (VX l x).f5.length 0 [(x : Int)] (by omega) (by have:=hL.len x;simp;omega);rw [List.drop_zero] at h;refine tres_open hx (.succ (fun q=>?_) h);have e : (rd_T29 l (x : Int)).f0 = true:=hf;rw [tree_Resolution.j0,if_neg (by decide),if_pos (by omega),if_pos (by omega),e,if_pos rfl]
 rfl
theorem tres_ev {l : List S29} {m : Nat} (hm : m≤5) (h : l.length = 2 * 2 ^ m - 1) (hL : LateSm l) : ∀ (k x : Nat),lvN x = k→x < l.length→Evr (fun q=>tree_Resolution.f q l (x : Int)) (resN l k x):=by
 have hp:=pow_le32 hm;intro k
 induction k with
 | zero=>
  intro x hk hx
  by_cases c : (VX l x).f0 = true
  · have:=tres_full hL hx c
    unfold resN;rw [if_pos c];exact this
  · unfold resN
    rw [if_neg c];have hc:=child_at hm (x:=x) (by omega);rw [hk,if_pos rfl] at hc;refine tres_open hx (.succ (f:=fun _=>some []) (fun q=>?_) (.const fun _=>rfl));have e : ¬ (rd_T29 l (x : Int)).f0 = true:=c;rw [tree_Resolution.j0,if_neg (by decide),if_pos (by omega),if_pos (by omega),if_neg e,(leaves_at h hp.1 (by omega)).2,Option.bind_some,hc,Option.bind_some,if_neg (by decide)]
 | succ k ih=>
  intro x hk hx
  by_cases c : (VX l x).f0 = true
  · have:=tres_full hL hx c
    unfold resN;rw [if_pos c];exact this
  · have hlv:=lv_at hm (x:=x) (by omega)
    rw [hk] at hlv;obtain ⟨h1,h2,h3,h4⟩:=hlv.2 (by omega);rw [show k + 1 - 1 = k by omega] at h1 h2 h3 h4;have r1:=ih (x - 2 ^ k) h1 (Nat.lt_of_le_of_lt (Nat.sub_le _ _) hx);have r2:=ih (x + 2 ^ k) h2 (by rw [h];exact h3);have hc:=child_at hm (x:=x) (by omega);rw [hk,if_neg (by omega),show k + 1 - 1 = k by omega] at hc;have l1:=resN_len hL k (x - 2 ^ k);have l2:=resN_len hL k (x + 2 ^ k)
    have hpk : 2 ^ k≤32:=by
     have : k≤5:=by have:=hlv.1;omega
     exact (pow_le32 this).2
    have e : ¬ (rd_T29 l (x : Int)).f0 = true:=c
    have er : resN l (k + 1) x = resN l k (x - 2 ^ k) ++ resN l k (x + 2 ^ k):=by
     conv=>lhs;unfold resN
     rw [if_neg c]
    rw [er];refine tres_open hx (.succ (f:=fun q=>(tree_Resolution.f q l ((x - 2 ^ k : Nat) : Int)).bind fun a=>(tree_Resolution.f q l ((x + 2 ^ k : Nat) : Int)).bind fun b=>if a.length + b.length < 17592186044416 then some (a ++ b) else none) (fun q=>?_) (r1.bind (r2.bind (.const fun _=>?_))))
    · rw [tree_Resolution.j0,if_neg (by decide),if_pos (by omega),if_pos (by omega),if_neg e,(leaves_at h hp.1 (by omega)).2,Option.bind_some,hc,Option.bind_some,if_pos rfl]
    · rw [if_pos (by omega)]
theorem tres_out {l : List S29} {x : Int} (hx : x < 0∨(l.length : Int)≤x) : Evr (fun q=>tree_Resolution.f q l x) []:=by
 refine .succ (f:=fun q=>tree_Resolution.j0 q l x true) (fun q=>?_) (.succ (f:=fun _=>some []) (fun q=>by rw [tree_Resolution.j0,if_pos rfl]) (.const fun _=>rfl));rw [tree_Resolution.f]
 by_cases c : x < 0
 · rw [if_pos c]
 · rw [if_neg c,decide_eq_true (by omega)]
theorem rres_late0 {l : List S29} {x : Nat} (hx : x < l.length) (late : List Int) (e5 : (rd_T29 l (x : Int)).f5 = late) (hll : late.length≤100) (hsm : ∀ y ∈ late,0≤y∧y≤100) (s : List Int) {r : List Int} : ∀ (d j : Nat) (acc : List Int),d + j = late.length→acc.length + d≤100000→Evr (fun k=>r4Resolution.l0 k l (acc ++ (late.drop j).map (fun y=>2 * y)) s) r→Evr (fun k=>r4Resolution.l1 k l acc s (x : Int) (j : Int)) r:=by
 intro d
 induction d with
 | zero=>
  intro j acc hd _ hr;rw [List.drop_eq_nil_of_le (by omega),List.map_nil,List.append_nil] at hr;refine .succ (fun k=>?_) hr;rw [r4Resolution.l1,if_pos (by omega),if_pos (by omega),e5,if_neg (by omega)]
 | succ d ih=>
  intro j acc hd ha hr
  have hj : j < late.length:=by omega
  have hy:=hsm _ (List.getElem_mem hj)
  have e : rd late (j : Int) = late[j]:=by simp [rd,List.getD_eq_getElem?_getD,List.getElem?_eq_getElem hj]
  rw [List.drop_eq_getElem_cons hj,List.map_cons,show acc ++ 2 * late[j] :: (late.drop (j + 1)).map (fun y=>2 * y) = acc ++ [2 * late[j]] ++ (late.drop (j + 1)).map (fun y=>2 * y) by simp] at hr;refine .succ (fun k=>?_) (ih (j + 1) (acc ++ [2 * late[j]]) (by omega) (by simp;omega) hr);rw [r4Resolution.l1,if_pos (by omega),if_pos (by omega),e5,if_pos (by omega),if_pos (by omega),if_pos (by omega),e,wrap_id (a:=2 * late[j]) (by omega),wrap_id (by omega),show (j : Int) + 1 = ((j + 1 : Nat) : Int) by omega]
theorem rres_late {l : List S29} {x : Nat} (hx : x < l.length) (hL : LateSm l) (s : List Int) {r : List Int} : ∀ (d j : Nat) (acc : List Int),d + j = (VX l x).f5.length→acc.length + d≤100000→Evr (fun k=>r4Resolution.l0 k l (acc ++ ((VX l x).f5.drop j).map (fun y=>2 * y)) s) r→Evr (fun k=>r4Resolution.l1 k l acc s (x : Int) (j : Int)) r:=
 rres_late0 hx (VX l x).f5 rfl (hL.len x) (hL.sm x) s
theorem pop_two (l : List S29) (acc s : List Int) (w x q : Nat) (h1 : 1≤w) (h2 : w≤32) (h3 : w≤x) (h4 : x < 63) (hs : s.length≤1000) : (if ((w : Nat) : Int) > 0 then (if s.length < 17592186044416 then ((some (s ++ [wrap64 ((x : Int) + (w : Int))] : List Int)).bind fun y=>if y.length < 17592186044416 then r4Resolution.l0 q l acc (y ++ [wrap64 ((x : Int) - (w : Int))]) else none) else none) else r4Resolution.l0 q l acc s) = r4Resolution.l0 q l acc (s ++ [((x + w : Nat) : Int)] ++ [((x - w : Nat) : Int)]):=by
 have e1 : wrap64 ((x : Int) + (w : Int)) = ((x + w : Nat) : Int):=by rw [wrap_id (by omega)];omega
 have e2 : wrap64 ((x : Int) - (w : Int)) = ((x - w : Nat) : Int):=by rw [wrap_id (by omega)];omega
 rw [if_pos (by omega),if_pos (by omega),Option.bind_some,if_pos (by simp;omega),e1,e2]
theorem rres_pop {l : List S29} {m : Nat} (hm : m≤5) (h : l.length = 2 * 2 ^ m - 1) (hL : LateSm l) : ∀ (k x : Nat),lvN x = k→x < l.length→∀ (acc s : List Int) (r : List Int),acc.length + 101 * 2 ^ k≤90000→s.length + k≤1000→Evr (fun q=>r4Resolution.l0 q l (acc ++ resN l k x) s) r→Evr (fun q=>r4Resolution.l0 q l acc (s ++ [(x : Int)])) r:=by
 have hp:=pow_le32 hm
 have hop : ∀ (x : Nat),x < l.length→∀ (acc s : List Int),s.length≤1000→∀ q,r4Resolution.l0 (q + 1) l acc (s ++ [(x : Int)]) = if (VX l x).f0 = true then (if acc.length < 17592186044416 then r4Resolution.l1 q l (acc ++ [(x : Int)]) s (x : Int) 0 else none) else ((r3Width.f q (x : Int)).bind fun t=>if (wrap64 (Int.tdiv (wrap64 (t + 1)) 2)) > 0 then (if s.length < 17592186044416 then ((some (s ++ [wrap64 ((x : Int) + (wrap64 (Int.tdiv (wrap64 (t + 1)) 2)))] : List Int)).bind fun y=>if y.length < 17592186044416 then r4Resolution.l0 q l acc (y ++ [wrap64 ((x : Int) - (wrap64 (Int.tdiv (wrap64 (t + 1)) 2)))]) else none) else none) else r4Resolution.l0 q l acc s):=by
  intro x hx acc s hs q
  have hlen : (s ++ [(x : Int)]).length = s.length + 1:=by simp
  have ew : wrap64 (((s ++ [(x : Int)]).length : Int) - 1) = (s.length : Int):=by rw [hlen,wrap_id (by omega)];omega
  have erd : rd (s ++ [(x : Int)]) (s.length : Int) = (x : Int):=by simp [rd,List.getD_eq_getElem?_getD]
  have etk : (s ++ [(x : Int)]).take ((s.length : Int)).toNat = s:=by simp
  rw [r4Resolution.l0,ew,erd,etk,if_pos (by omega),if_pos (by omega),if_pos (by omega),if_pos (by omega),Option.bind_some,if_pos (by omega),if_pos (by omega)]
 intro k
 induction k with
 | zero=>
  intro x hk hx acc s r ha hs hr;refine .succ (hop x hx acc s (by omega)) ?_
  by_cases c : (VX l x).f0 = true
  · unfold resN at hr
    rw [if_pos c,show acc ++ (x : Int) :: (VX l x).f5.map (fun y=>2 * y) = acc ++ [(x : Int)] ++ ((VX l x).f5.drop 0).map (fun y=>2 * y) by simp] at hr
    have:=rres_late hx hL s (VX l x).f5.length 0 (acc ++ [(x : Int)]) (by omega) (by have:=hL.len x;simp;omega) hr
    refine .congr (fun q=>?_) this;rw [if_pos c,if_pos (by omega)]
    rfl
  · unfold resN at hr
    rw [if_neg c,List.append_nil] at hr;have hw:=width_at (x:=x) (by omega);rw [hk] at hw;refine .congr (f:=fun q=>(r3Width.f q (x : Int)).bind fun t=>if (wrap64 (Int.tdiv (wrap64 (t + 1)) 2)) > 0 then (if s.length < 17592186044416 then ((some (s ++ [wrap64 ((x : Int) + (wrap64 (Int.tdiv (wrap64 (t + 1)) 2)))] : List Int)).bind fun y=>if y.length < 17592186044416 then r4Resolution.l0 q l acc (y ++ [wrap64 ((x : Int) - (wrap64 (Int.tdiv (wrap64 (t + 1)) 2)))]) else none) else none) else r4Resolution.l0 q l acc s) (fun q=>by rw [if_neg c]) (hw.bind ?_);refine .congr (fun q=>?_) hr
    have ew0 : wrap64 (Int.tdiv (wrap64 (((2 ^ 0 - 1 : Nat) : Int) + 1)) 2) = 0:=by decide +kernel
    rw [ew0,if_neg (by decide)]
 | succ k ih=>
  intro x hk hx acc s r ha hs hr
  have hpk1 : 2 ^ (k + 1) = 2 * 2 ^ k:=by rw [Nat.pow_succ];omega
  have hpk : 1≤2 ^ k:=Nat.one_le_two_pow;refine .succ (hop x hx acc s (by omega)) ?_
  by_cases c : (VX l x).f0 = true
  · unfold resN at hr
    rw [if_pos c,show acc ++ (x : Int) :: (VX l x).f5.map (fun y=>2 * y) = acc ++ [(x : Int)] ++ ((VX l x).f5.drop 0).map (fun y=>2 * y) by simp] at hr
    have:=rres_late hx hL s (VX l x).f5.length 0 (acc ++ [(x : Int)]) (by omega) (by have:=hL.len x;simp;omega) hr
    refine .congr (fun q=>?_) this;rw [if_pos c,if_pos (by omega)]
    rfl
  · have hlv:=lv_at hm (x:=x) (by omega)
    rw [hk] at hlv;obtain ⟨h1,h2,h3,h4⟩:=hlv.2 (by omega);rw [show k + 1 - 1 = k by omega] at h1 h2 h3 h4;have l1:=resN_len hL k (x - 2 ^ k)
    have er : resN l (k + 1) x = resN l k (x - 2 ^ k) ++ resN l k (x + 2 ^ k):=by
     conv=>lhs;unfold resN
     rw [if_neg c]
    rw [er,← List.append_assoc] at hr;have q2:=ih (x + 2 ^ k) h2 (by omega) (acc ++ resN l k (x - 2 ^ k)) s r (by simp;omega) (by omega) hr;have q1:=ih (x - 2 ^ k) h1 (by omega) acc (s ++ [((x + 2 ^ k : Nat) : Int)]) r (by omega) (by simp;omega) q2;have hw:=width_at (x:=x) (by omega);rw [hk] at hw
    have hpk32 : 2 ^ k≤32:=by
     have : k≤5:=by have:=hlv.1;omega
     exact (pow_le32 this).2
    have ew : wrap64 (Int.tdiv (wrap64 (((2 ^ (k + 1) - 1 : Nat) : Int) + 1)) 2) = ((2 ^ k : Nat) : Int):=by
     rw [wrap_id (a:=((2 ^ (k + 1) - 1 : Nat) : Int) + 1) (by omega),Int.tdiv_eq_ediv_of_nonneg (by omega),wrap_id (by omega)]
     omega
    refine .congr (f:=fun q=>(r3Width.f q (x : Int)).bind fun t=>if (wrap64 (Int.tdiv (wrap64 (t + 1)) 2)) > 0 then (if s.length < 17592186044416 then ((some (s ++ [wrap64 ((x : Int) + (wrap64 (Int.tdiv (wrap64 (t + 1)) 2)))] : List Int)).bind fun y=>if y.length < 17592186044416 then r4Resolution.l0 q l acc (y ++ [wrap64 ((x : Int) - (wrap64 (Int.tdiv (wrap64 (t + 1)) 2)))]) else none) else none) else r4Resolution.l0 q l acc s) (fun q=>by rw [if_neg c]) (hw.bind ?_);refine .congr (fun q=>?_) q1
    have x63 : x < 63:=by omega
    rw [ew];exact pop_two l acc s (2 ^ k) x q hpk hpk32 h4 x63 (by omega)
theorem rres_ev {l : List S29} {m : Nat} (hm : m≤5) (h : l.length = 2 * 2 ^ m - 1) (hL : LateSm l) {x : Nat} (hx : x < l.length) : Evr (fun q=>r4Resolution.f q l (x : Int)) (resN l (lvN x) x):=by
 have hp:=pow_le32 hm;have hlv:=(lv_at hm (x:=x) (by omega)).1;have hk : 2 ^ lvN x≤32:=(pow_le32 (by omega)).2;have he : Evr (fun q=>r4Resolution.l0 q l ([] ++ resN l (lvN x) x) []) (resN l (lvN x) x):=.succ (f:=fun _=>some (resN l (lvN x) x)) (fun q=>by rw [r4Resolution.l0,if_neg (by simp),List.nil_append]) (.const fun _=>rfl);have h2:=rres_pop hm h hL (lvN x) x rfl hx [] [] _ (by simp;omega) (by simp;omega) he;refine .congr (f:=fun q=>r4Resolution.j0 q l (x : Int) [] false) (fun q=>by unfold r4Resolution.f;rw [if_neg (by omega),decide_eq_false (by omega)]) (.succ (fun q=>?_) h2);rw [r4Resolution.j0,if_neg (by decide)]
 rfl
theorem rres_out {l : List S29} {x : Int} (hx : x < 0∨(l.length : Int)≤x) : Evr (fun q=>r4Resolution.f q l x) []:=by
 refine .congr (f:=fun q=>r4Resolution.j0 q l x [] true) (fun q=>?_) (.succ (f:=fun _=>some []) (fun q=>by rw [r4Resolution.j0,if_pos rfl]) (.const fun _=>rfl));unfold r4Resolution.f
 by_cases c : x < 0
 · rw [if_pos c]
 · rw [if_neg c,decide_eq_true (by omega)]
end Go.Proofs.YtbblomnhobodkaaDoor.Pure
set_option linter.unusedVariables false
set_option linter.unusedSimpArgs false
namespace Go.Proofs.YtbblomnhobodkaaDoor.Pure
open Go.RowKit Go.Proofs.YtbblomnhobodkaaDoor Go.Proofs.YtbblomnhobodkaaDoor.PTw Go.Proofs.YtbblomnhobodkaaDoorW.PW
theorem Evr.uniq {α : Type} {g : Nat→Option α} {a b : α} (h : Evr g a) (k : Evr g b) : a = b:=by
 obtain ⟨K,hK⟩:=h;obtain ⟨L,hL⟩:=k;exact Option.some.inj ((hK (K + L) (by omega)).symm.trans (hL (K + L) (by omega)))
set_option maxRecDepth 100000 in
theorem und_fin : ∀ m : Fin 6,∀ i : Fin 32,∀ x : Fin 63,i.val < 2 ^ m.val→x.val < 2 * 2 ^ m.val - 1→r3Under.f 20 (2 * (i.val : Int)) (x.val : Int) ((2 ^ m.val : Nat) : Int) = some (decide (x.val ∈ pathN i.val m.val) || decide (x.val = 2 * i.val)):=by decide +kernel
theorem und_at {m i x : Nat} (hm : m≤5) (hi : i < 2 ^ m) (hx : x < 2 * 2 ^ m - 1) : Evr (fun k=>r3Under.f k (2 * (i : Int)) (x : Int) ((2 ^ m : Nat) : Int)) (decide (x ∈ pathN i m) || decide (x = 2 * i)):=by
 have hp:=pow_le32 hm;exact .of_mono (K:=20) (fun k a h=>r3Under.mono _ _ _ k _ h) (und_fin ⟨m,by omega⟩ ⟨i,by omega⟩ ⟨x,by omega⟩ hi hx)
theorem above_l0 {m i : Nat} (hm : m≤5) (hi : i < 2 ^ m) : ∀ (d j : Nat) (g : Nat→S29),d + j = 2 * 2 ^ m - 1→Evr (fun k=>r4above.l0 k (i : Int) (mkT (2 * 2 ^ m - 1) g) ((2 ^ m : Nat) : Int) (j : Int)) (mkT (2 * 2 ^ m - 1) (fun x=>if j≤x∧x ∈ pathN i m then z29 else g x)):=by
 have hp:=pow_le32 hm;have hok:=pathN_ok hm hi;intro d
 induction d with
 | zero=>
  intro j g hd;refine .succ (f:=fun _=>some (mkT (2 * 2 ^ m - 1) g)) (fun k=>by rw [r4above.l0,mkT_len,if_neg (by omega)]) (.const fun _=>?_)
  congr 1
  refine mkT_congr fun x hx=>?_
  rw [if_neg (fun hh=>by omega)]
 | succ d ih=>
  intro j g hd
  have hstep : ∀ (g' : Nat→S29),(∀ x,x≠j→g' x = g x)→(g' j = if j ∈ pathN i m then z29 else g j)→mkT (2 * 2 ^ m - 1) (fun x=>if j + 1≤x∧x ∈ pathN i m then z29 else g' x) = mkT (2 * 2 ^ m - 1) (fun x=>if j≤x∧x ∈ pathN i m then z29 else g x):=fun g' h1 h2=>mkT_congr fun x _=>by
   by_cases c : x = j
   · subst c
     rw [if_neg (fun hh=>by omega),h2]
     by_cases c2 : x ∈ pathN i m
     · rw [if_pos c2,if_pos ⟨Nat.le_refl _,c2⟩]
     · rw [if_neg c2,if_neg (fun hh=>c2 hh.2)]
   · rw [h1 x c]
     by_cases c2 : j≤x∧x ∈ pathN i m
     · rw [if_pos c2,if_pos ⟨by omega,c2.2⟩]
     · rw [if_neg c2,if_neg (fun hh=>c2 ⟨by omega,hh.2⟩)]
  by_cases c : j = 2 * i
  · have hn : j ∉ pathN i m:=fun hh=>by have:=(hok.2 _ hh).1;omega
    rw [← hstep g (fun _ _=>rfl) (by rw [if_neg hn])];refine .succ (fun k=>?_) (ih (j + 1) g (by omega));rw [r4above.l0,mkT_len,if_pos (by omega),wrap_id (a:=2 * (i : Int)) (by omega),if_pos (by omega),wrap_id (by omega),show (j : Int) + 1 = ((j + 1 : Nat) : Int) by omega]
  · have hu:=und_at hm hi (x:=j) (by omega)
    have hop : ∀ k,r4above.l0 (k + 1) (i : Int) (mkT (2 * 2 ^ m - 1) g) ((2 ^ m : Nat) : Int) (j : Int) = (r3Under.f k (2 * (i : Int)) (j : Int) ((2 ^ m : Nat) : Int)).bind fun t=>if t = true then r4above.l0 k (i : Int) (mkT (2 * 2 ^ m - 1) (fun x=>if x = j then z29 else g x)) ((2 ^ m : Nat) : Int) ((j + 1 : Nat) : Int) else r4above.l0 k (i : Int) (mkT (2 * 2 ^ m - 1) g) ((2 ^ m : Nat) : Int) ((j + 1 : Nat) : Int):=fun k=>by
     rw [r4above.l0,mkT_len,if_pos (by omega),wrap_id (a:=2 * (i : Int)) (by omega),if_neg (by omega),wrap_id (a:=(j : Int) + 1) (by omega),show (j : Int) + 1 = ((j + 1 : Nat) : Int) by omega,if_pos (by omega),Int.toNat_natCast,← mkT_set]
     rfl
    refine .succ hop (hu.bind ?_);rw [decide_eq_false c,Bool.or_false]
    by_cases c2 : j ∈ pathN i m
    · simp only [decide_eq_true c2,if_true]
      rw [← hstep (fun x=>if x = j then z29 else g x) (fun x hx=>by rw [if_neg hx]) (by rw [if_pos rfl,if_pos c2])];exact ih (j + 1) _ (by omega)
    · simp only [decide_eq_false c2,Bool.false_eq_true,if_false]
      rw [← hstep g (fun _ _=>rfl) (by rw [if_neg c2])];exact ih (j + 1) _ (by omega)
def abvG (l : List S29) (i m : Nat) : Nat→S29:=fun x=>if x ∈ pathN i m then z29 else VX l x
theorem above_ev {l : List S29} {m i : Nat} (hm : m≤5) (h : l.length = 2 * 2 ^ m - 1) (hi : i < 2 ^ m) (h5 : ∀ v ∈ l,v.f5.length < 17592186044416) : Evr (fun k=>r4above.f k l (i : Int)) (mkT (2 * 2 ^ m - 1) (abvG l i m)):=by
 have hp:=pow_le32 hm;have h0:=above_l0 hm hi (2 * 2 ^ m - 1) 0 (VX l) (by omega)
 have e : mkT (2 * 2 ^ m - 1) (fun x=>if 0≤x∧x ∈ pathN i m then z29 else VX l x) = mkT (2 * 2 ^ m - 1) (abvG l i m):=mkT_congr fun x _=>by
  unfold abvG
  by_cases c : x ∈ pathN i m
  · rw [if_pos ⟨Nat.zero_le _,c⟩,if_pos c]
  · rw [if_neg (fun hh=>c hh.2),if_neg c]
 rw [e,← h,← mkT_self l] at h0;have hc:=copy_ev (l:=l) (by omega) h5;refine .congr (f:=fun k=>(r4Copy.f k l).bind fun t=>r4above.l0 k (i : Int) t ((2 ^ m : Nat) : Int) 0) (fun k=>?_) (hc.bind ?_)
 · unfold r4above.f
   congr 1
   funext t
   rw [(leaves_at h hp.1 (by omega)).1,Option.bind_some]
 · rw [h] at h0
   exact h0
def updL (l : List S29) (i m : Nat) (leaf : S29) : List S29:=mkT (2 * 2 ^ m - 1) (fun x=>if x ∈ pathN i m then z29 else if x = 2 * i then leaf else VX l x)
theorem full_at {l : List S29} {m : Nat} (hm : m≤5) (h : l.length = 2 * 2 ^ m - 1) {i : Nat} (hi : i < 2 ^ m) : fullB l (2 ^ m) (i : Int) = (VX l (2 * i)).f0:=by
 unfold fullB;rw [decide_eq_true (by omega),decide_eq_true (by omega),Bool.true_and,Bool.true_and]
 rfl
theorem tupdate_ev {l : List S29} {m i : Nat} (hm : m≤5) (h : l.length = 2 * 2 ^ m - 1) (hl : LateOk l) (hi : i < 2 ^ m) (hf : (VX l (2 * i)).f0 = true) (f0 : Bool) (f1 f2 f3 f4 : Int) (l5 : List Int) : Evr (fun k=>tree_Update.f k l (i : Int) f0 f1 f2 f3 f4 l5) (updL l i m ⟨true,f1,f2,f3,f4,[]⟩,0):=by
 have hp:=pow_le32 hm
 have h5 : ∀ v ∈ l,v.f5.length < 17592186044416:=fun v hv=>by have:=hl.len v hv;omega
 have hcl:=clean_ev hm hi (fun x=>if x = 2 * i then (⟨true,f1,f2,f3,f4,[]⟩ : S29) else VX l x)
 have e : l.set (2 * i) (⟨true,f1,f2,f3,f4,[]⟩ : S29) = mkT (2 * 2 ^ m - 1) (fun x=>if x = 2 * i then (⟨true,f1,f2,f3,f4,[]⟩ : S29) else VX l x):=by
  conv=>lhs;rw [mkT_self l]
  rw [mkT_set,h]
 rw [← e] at hcl;refine .congr (f:=fun k=>(tree_clean.f k (l.set (2 * i) (⟨true,f1,f2,f3,f4,[]⟩ : S29)) (i : Int)).bind fun t3=>some (t3,0)) (fun k=>?_) (hcl.bind (.const fun _=>rfl));unfold tree_Update.f;rw [(full_same h hp.1 (by omega) _).2,full_at hm h hi,hf,Option.bind_some,if_pos rfl,copied_at k (by omega) h5,Option.bind_some,wrap_id (by omega),if_pos (by omega),if_pos (by omega),show (2 * (i : Int)).toNat = 2 * i by omega]
theorem rupdate_ev {l : List S29} {m i : Nat} (hm : m≤5) (h : l.length = 2 * 2 ^ m - 1) (hl : LateOk l) (hi : i < 2 ^ m) (hf : (VX l (2 * i)).f0 = true) (f0 : Bool) (f1 f2 f3 f4 : Int) (l5 : List Int) : Evr (fun k=>r4Update.f k l (i : Int) f0 f1 f2 f3 f4 l5) (updL l i m ⟨true,f1,f2,f3,f4,[]⟩,0):=by
 have hp:=pow_le32 hm
 have h5 : ∀ v ∈ l,v.f5.length < 17592186044416:=fun v hv=>by have:=hl.len v hv;omega
 have hlo : r4Leaf.f f0 f1 f2 f3 f4 l5 = some (true,f1,f2,f3,f4,[]):=rfl;refine .congr (f:=fun k=>(r4above.f k l (i : Int)).bind fun t=>if 2 * (i : Int) < (t.length : Int) then some (t.set (2 * i) (⟨true,f1,f2,f3,f4,[]⟩ : S29),0) else none) (fun k=>?_) ((above_ev hm h hi h5).bind (.const fun _=>?_))
 · unfold r4Update.f
   rw [(full_same h hp.1 (by omega) _).1,full_at hm h hi,hf,Option.bind_some,if_pos rfl]
   congr 1
   funext t
   rw [hlo,Option.bind_some,wrap_id (by omega),if_pos (by omega),show (2 * (i : Int)).toNat = 2 * i by omega]
 · rw [mkT_len,if_pos (by omega),mkT_set]
   congr 2
   refine mkT_congr fun x _=>?_
   unfold abvG
   by_cases c : x = 2 * i
   · have hn : x ∉ pathN i m:=fun hh=>by have:=((pathN_ok hm hi).2 _ hh).1;omega
     rw [if_pos c,if_neg hn,if_pos c]
   · rw [if_neg c,if_neg c]
theorem update_none {l : List S29} {m : Nat} {i : Int} (hm : m≤5) (h : l.length = 2 * 2 ^ m - 1) (hf : fullB l (2 ^ m) i = false) (f0 : Bool) (f1 f2 f3 f4 : Int) (l5 : List Int) : Evr (fun k=>tree_Update.f k l i f0 f1 f2 f3 f4 l5) ([],40)∧Evr (fun k=>r4Update.f k l i f0 f1 f2 f3 f4 l5) ([],40):=by
 have hp:=pow_le32 hm;refine ⟨.const fun k=>?_,.const fun k=>?_⟩
 · unfold tree_Update.f
   rw [(full_same h hp.1 (by omega) _).2,hf,Option.bind_some,if_neg (by decide)]
 · unfold r4Update.f
   rw [(full_same h hp.1 (by omega) _).1,hf,Option.bind_some,if_neg (by decide)]
end Go.Proofs.YtbblomnhobodkaaDoor.Pure
set_option linter.unusedVariables false
set_option linter.unusedSimpArgs false
namespace Go.Proofs.YtbblomnhobodkaaDoor.Pure
open Go.RowKit Go.Proofs.YtbblomnhobodkaaDoor Go.Proofs.YtbblomnhobodkaaDoor.PTw Go.Proofs.YtbblomnhobodkaaDoorW.PW
theorem VX_mkT {N : Nat} {g : Nat→S29} (h : ∀ x,N≤x→g x = z29) : VX (mkT N g) = g:=by
 funext x
 by_cases c : x < N
 · exact mkT_get c
 · rw [VX_out (by rw [mkT_len];omega),h x (by omega)]
structure RG (g : Nat→S29) (m : Nat) : Prop where
 hm : m≤5
 out : ∀ x,2 * 2 ^ m - 1≤x→g x = z29
 blank : ∀ x,(g x).f0 = false→g x = z29
 leaf : ∀ x,x % 2 = 0→(g x).f5 = []
 par : ∀ x,x % 2 = 1→(g x).f2 = 0∧(g x).f3 = 0
 up : ∀ x,(g x).f5.Pairwise (· < ·)
 late : ∀ x,∀ y ∈ (g x).f5,∃ j : Nat,y = (j : Int)∧j < 2 ^ m∧(g (2 * j)).f0 = true∧x ∈ pathN j m
 top : ∃ i,2 ^ m / 2≤i∧i < 2 ^ m∧(g (2 * i)).f0 = true
structure RT (l : List S29) (m : Nat) : Prop where
 len : l.length = 2 * 2 ^ m - 1
 rg : RG (VX l) m
theorem RT.of {g : Nat→S29} {m : Nat} (h : RG g m) : RT (mkT (2 * 2 ^ m - 1) g) m:=
 ⟨mkT_len _ _,by rw [VX_mkT h.out];exact h⟩
theorem RT.hm {l : List S29} {m : Nat} (h : RT l m) : m≤5:=h.rg.hm
theorem rising_len : ∀ (l : List Int) (a b : Int),l.Pairwise (· < ·)→(∀ y ∈ l,a≤y∧y < b)→l = []∨(l.length : Int)≤b - a
 | [],_,_,_,_=>.inl rfl
 | h :: t,a,b,hp,hb=>by
  refine .inr ?_;obtain ⟨h1,h2⟩:=List.pairwise_cons.1 hp;have hh:=hb h (List.mem_cons_self ..)
  rcases rising_len t (h + 1) b h2 (fun y hy=>⟨by have:=h1 y hy;omega,(hb y (List.mem_cons_of_mem _ hy)).2⟩) with e | e
  · subst e;simp;omega
  · simp only [List.length_cons];omega
theorem RG.lates {g : Nat→S29} {m : Nat} (h : RG g m) (x : Nat) : (∀ y ∈ (g x).f5,0≤y∧y < 32)∧(g x).f5.length≤32:=by
 have hp:=pow_le32 h.hm
 have h1 : ∀ y ∈ (g x).f5,0≤y∧y < 32:=fun y hy=>by
  obtain ⟨j,rfl,hj,_⟩:=h.late x y hy
  omega
 refine ⟨h1,?_⟩
 rcases rising_len (g x).f5 0 32 (h.up x) h1 with e | e
 · rw [e];simp
 · omega
theorem mem_VX {l : List S29} {v : S29} (h : v ∈ l) : ∃ x,x < l.length∧v = VX l x:=by
 obtain ⟨x,hx,rfl⟩:=List.getElem_of_mem h;exact ⟨x,hx,(VX_at hx).symm⟩
theorem RT.lateOk {l : List S29} {m : Nat} (h : RT l m) : LateOk l:=by
 refine ⟨fun v hv=>?_,fun v hv _=>?_⟩
 · obtain ⟨x,_,rfl⟩:=mem_VX hv
   have:=(h.rg.lates x).2
   omega
 · obtain ⟨x,_,rfl⟩:=mem_VX hv
   exact (h.rg.up x).imp fun h=>Int.le_of_lt h
theorem RT.l5 {l : List S29} {m : Nat} (h : RT l m) : ∀ v ∈ l,v.f5.length≤1000:=h.lateOk.len
theorem path_pre {i m m' x : Nat} (h : m≤m') (hm' : m'≤5) (hi : i < 2 ^ m) : x ∈ pathN i m↔x ∈ pathN i m'∧x < 2 * 2 ^ m - 1:=by
 constructor
 · intro hx
   refine ⟨?_,((pathN_ok (by omega) hi).2 x hx).2⟩;obtain ⟨k,hk,rfl⟩:=List.mem_map.1 hx;exact List.mem_map.2 ⟨k,List.mem_range.2 (by have:=List.mem_range.1 hk;omega),rfl⟩
 · rintro ⟨hx,hlt⟩
   obtain ⟨k,hk,rfl⟩:=List.mem_map.1 hx;refine List.mem_map.2 ⟨k,List.mem_range.2 ?_,rfl⟩
   rcases Nat.lt_or_ge k m with c | c
   · exact c
   · exfalso
     have h2 : 2 ^ m≤2 ^ k:=Nat.pow_le_pow_right (by decide) c
     have h3 : 2 ^ (k + 1) = 2 * 2 ^ k:=by rw [Nat.pow_succ];omega
     have h0 : i / 2 ^ (k + 1) = 0:=Nat.div_eq_of_lt (by omega);rw [h0] at hlt
     omega
theorem path_odd {m i x : Nat} (hm : m≤5) (hi : i < 2 ^ m) (h : x ∈ pathN i m) : x % 2 = 1:=((pathN_ok hm hi).2 x h).1
theorem path_lt {m i x : Nat} (hm : m≤5) (hi : i < 2 ^ m) (h : x ∈ pathN i m) : x < 2 * 2 ^ m - 1:=((pathN_ok hm hi).2 x h).2
theorem path_even {m i j : Nat} (hm : m≤5) (hi : i < 2 ^ m) : 2 * j ∉ pathN i m:=fun h=>by have:=path_odd hm hi h;omega
theorem insN_lt {a i : Int} {l : List Int} (h : a < i) : insN (a :: l) i = a :: insN l i:=by
 unfold insN;rw [List.countP_cons,decide_eq_true h]
 simp
theorem insN_ge {a i : Int} {l : List Int} (hp : (a :: l).Pairwise (· < ·)) (h : i≤a) : insN (a :: l) i = i :: a :: l:=by
 unfold insN
 have h0 : (a :: l).countP (fun y=>decide (y < i)) = 0:=List.countP_eq_zero.2 fun y hy hh=>by
  have:=of_decide_eq_true hh
  rcases List.mem_cons.1 hy with e | e
  · omega
  · have:=(List.pairwise_cons.1 hp).1 y e
    omega
 rw [h0]
 simp
theorem insN_mem {l : List Int} {i y : Int} : y ∈ insN l i↔y = i∨y ∈ l:=by
 unfold insN;rw [List.mem_append,List.mem_cons]
 conv=>rhs;rw [← List.take_append_drop (l.countP (fun y=>decide (y < i))) l,List.mem_append]
 constructor
 · rintro (h | h | h)
   · exact .inr (.inl h)
   · exact .inl h
   · exact .inr (.inr h)
 · rintro (h | h | h)
   · exact .inr (.inl h)
   · exact .inl h
   · exact .inr (.inr h)
theorem insN_up {i : Int} : ∀ {l : List Int},l.Pairwise (· < ·)→i ∉ l→(insN l i).Pairwise (· < ·)
 | [],_,_=>by unfold insN;simp
 | a :: l,hp,hi=>by
  obtain ⟨h1,h2⟩:=List.pairwise_cons.1 hp
  have hne : a≠i:=fun e=>hi (by rw [e];exact List.mem_cons_self ..)
  have hi2 : i ∉ l:=fun e=>hi (List.mem_cons_of_mem _ e)
  by_cases c : a < i
  · rw [insN_lt c]
    refine List.pairwise_cons.2 ⟨fun y hy=>?_,insN_up h2 hi2⟩
    rcases insN_mem.1 hy with e | e
    · rw [e];exact c
    · exact h1 y e
  · rw [insN_ge hp (by omega)]
    refine List.pairwise_cons.2 ⟨fun y hy=>?_,hp⟩
    rcases List.mem_cons.1 hy with e | e
    · omega
    · have:=h1 y e;omega
def addG (g : Nat→S29) (i m : Nat) (leaf : S29) : Nat→S29:=fun x=>if x ∈ pathN i m∧(g x).f0 = true then lateIn (g x) i else if x = 2 * i then leaf else g x
def aLeaf (leaf : S29) : Prop:=leaf.f0 = true∧leaf.f5 = []
theorem RG.add {g : Nat→S29} {m m' i : Nat} {leaf : S29} (h : RG g m) (hL : aLeaf leaf) (hfree : (g (2 * i)).f0 = false) (hm' : (i < 2 ^ m∧m' = m)∨(i = 2 ^ m∧m' = m + 1∧m'≤5)) : RG (addG g i m' leaf) m':=by
 have hm:=h.hm
 have hm5 : m'≤5:=by omega
 have hle : m≤m':=by omega
 have hpp : 2 ^ m≤2 ^ m':=Nat.pow_le_pow_right (by decide) hle
 have hi : i < 2 ^ m':=by
  rcases hm' with ⟨h1,h2⟩ | ⟨h1,h2,_⟩
  · omega
  · rw [h2,Nat.pow_succ];have:=Nat.one_le_two_pow (n:=m);omega
 have f0 : ∀ x,(addG g i m' leaf x).f0 = if x = 2 * i then true else (g x).f0:=fun x=>by
  unfold addG
  by_cases c : x ∈ pathN i m'∧(g x).f0 = true
  · have : x≠2 * i:=fun e=>path_even hm5 hi (by rw [← e];exact c.1)
    rw [if_pos c,if_neg this]
    rfl
  · rw [if_neg c]
    by_cases c2 : x = 2 * i
    · rw [if_pos c2,if_pos c2];exact hL.1
    · rw [if_neg c2,if_neg c2]
 have hni : ∀ x,(i : Int) ∉ (g x).f5:=fun x hx=>by
  obtain ⟨j,h1,h2,h3,_⟩:=h.late x _ hx;rw [show 2 * i = 2 * j by omega,h3] at hfree;cases hfree
 refine ⟨hm5,fun x hx=>?_,fun x hx=>?_,fun x hx=>?_,fun x hx=>?_,fun x=>?_,fun x y hy=>?_,?_⟩
 · unfold addG
   rw [if_neg (fun c=>by have:=path_lt hm5 hi c.1;omega),if_neg (by omega)];exact h.out x (by omega)
 · rw [f0] at hx
   by_cases c : x = 2 * i
   · rw [if_pos c] at hx;cases hx
   · rw [if_neg c] at hx
     unfold addG;rw [if_neg (fun hh=>by rw [hx] at hh;cases hh.2),if_neg c];exact h.blank x hx
 · unfold addG
   rw [if_neg (fun hh=>by have:=path_odd hm5 hi hh.1;omega)]
   split
   · exact hL.2
   · exact h.leaf x hx
 · unfold addG
   by_cases c : x ∈ pathN i m'∧(g x).f0 = true
   · rw [if_pos c];exact h.par x hx
   · rw [if_neg c,if_neg (by omega)];exact h.par x hx
 · unfold addG
   by_cases c : x ∈ pathN i m'∧(g x).f0 = true
   · rw [if_pos c];exact insN_up (h.up x) (hni x)
   · rw [if_neg c]
     split
     · rw [hL.2];exact List.Pairwise.nil
     · exact h.up x
 · have old : y ∈ (g x).f5→∃ j : Nat,y = (j : Int)∧j < 2 ^ m'∧(addG g i m' leaf (2 * j)).f0 = true∧x ∈ pathN j m':=fun hy=>by
    obtain ⟨j,h1,h2,h3,h4⟩:=h.late x y hy;refine ⟨j,h1,by omega,?_,((path_pre hle hm5 h2).1 h4).1⟩;rw [f0]
    split
    · rfl
    · exact h3
   by_cases c : x ∈ pathN i m'∧(g x).f0 = true
   · have e : (addG g i m' leaf x).f5 = insN (g x).f5 i:=by unfold addG;rw [if_pos c];rfl
     rw [e] at hy
     rcases insN_mem.1 hy with e2 | e2
     · exact ⟨i,e2,hi,by rw [f0,if_pos rfl],c.1⟩
     · exact old e2
   · by_cases c2 : x = 2 * i
     · have e : addG g i m' leaf x = leaf:=by unfold addG;rw [if_neg c,if_pos c2]
       rw [e,hL.2] at hy;cases hy
     · have e : addG g i m' leaf x = g x:=by unfold addG;rw [if_neg c,if_neg c2]
       rw [e] at hy;exact old hy
 · rcases hm' with ⟨h1,rfl⟩ | ⟨h1,rfl,_⟩
   · obtain ⟨j,q1,q2,q3⟩:=h.top
     refine ⟨j,q1,q2,?_⟩;rw [f0]
     split
     · rfl
     · exact q3
   · exact ⟨i,by rw [h1,Nat.pow_succ];omega,hi,by rw [f0,if_pos rfl]⟩
def merG (g : Nat→S29) (i m : Nat) (leaf : S29) (F : Nat→S29) : Nat→S29:=fun x=>if x ∈ pathN i m then F x else if x = 2 * i then leaf else g x
def OkF (F : Nat→S29) : Prop:=∀ x,F x = z29∨∃ k h : Int,F x = ⟨true,k,0,0,h,[]⟩
theorem OkF.none : OkF (fun _=>z29):=fun _=>.inl rfl
theorem OkF.f5 {F : Nat→S29} (h : OkF F) (x : Nat) : (F x).f5 = []∧(F x).f2 = 0∧(F x).f3 = 0∧((F x).f0 = false→F x = z29):=by
 rcases h x with e | ⟨k,h,e⟩
 · rw [e];exact ⟨rfl,rfl,rfl,fun _=>rfl⟩
 · rw [e];exact ⟨rfl,rfl,rfl,fun c=>by cases c⟩
theorem RG.lay {g : Nat→S29} {m i : Nat} {leaf : S29} {F : Nat→S29} (h : RG g m) (hL : aLeaf leaf) (hF : OkF F) (hi : i < 2 ^ m) : RG (merG g i m leaf F) m:=by
 have hm:=h.hm
 have fe : ∀ j,(merG g i m leaf F (2 * j)).f0 = if j = i then true else (g (2 * j)).f0:=fun j=>by
  unfold merG;rw [if_neg (path_even hm hi)]
  by_cases c : j = i
  · rw [if_pos c,if_pos (by omega)];exact hL.1
  · rw [if_neg c,if_neg (by omega)]
 have hcase : ∀ x,(x ∈ pathN i m∧merG g i m leaf F x = F x)∨(x = 2 * i∧merG g i m leaf F x = leaf)∨(x ∉ pathN i m∧x≠2 * i∧merG g i m leaf F x = g x):=fun x=>by
  unfold merG
  by_cases c : x ∈ pathN i m
  · exact .inl ⟨c,by rw [if_pos c]⟩
  · by_cases c2 : x = 2 * i
    · exact .inr (.inl ⟨c2,by rw [if_neg c,if_pos c2]⟩)
    · exact .inr (.inr ⟨c,c2,by rw [if_neg c,if_neg c2]⟩)
 refine ⟨hm,fun x hx=>?_,fun x hx=>?_,fun x hx=>?_,fun x hx=>?_,fun x=>?_,fun x y hy=>?_,?_⟩
 · rcases hcase x with ⟨c,_⟩ | ⟨c,_⟩ | ⟨_,_,e⟩
   · have:=path_lt hm hi c;omega
   · omega
   · rw [e];exact h.out x hx
 · rcases hcase x with ⟨c,e⟩ | ⟨c,e⟩ | ⟨_,_,e⟩ <;> rw [e] at hx ⊢
   · exact (hF.f5 x).2.2.2 hx
   · rw [hL.1] at hx;cases hx
   · exact h.blank x hx
 · rcases hcase x with ⟨c,e⟩ | ⟨c,e⟩ | ⟨_,_,e⟩ <;> rw [e]
   · exact (hF.f5 x).1
   · exact hL.2
   · exact h.leaf x hx
 · rcases hcase x with ⟨c,e⟩ | ⟨c,e⟩ | ⟨_,_,e⟩
   · rw [e];exact ⟨(hF.f5 x).2.1,(hF.f5 x).2.2.1⟩
   · omega
   · rw [e];exact h.par x hx
 · rcases hcase x with ⟨c,e⟩ | ⟨c,e⟩ | ⟨_,_,e⟩ <;> rw [e]
   · rw [(hF.f5 x).1];exact List.Pairwise.nil
   · rw [hL.2];exact List.Pairwise.nil
   · exact h.up x
 · rcases hcase x with ⟨c,e⟩ | ⟨c,e⟩ | ⟨_,_,e⟩ <;> rw [e] at hy
   · rw [(hF.f5 x).1] at hy;cases hy
   · rw [hL.2] at hy;cases hy
   · obtain ⟨j,h1,h2,h3,h4⟩:=h.late x y hy
     refine ⟨j,h1,h2,?_,h4⟩;rw [fe]
     split
     · rfl
     · exact h3
 · obtain ⟨j,q1,q2,q3⟩:=h.top
   refine ⟨j,q1,q2,?_⟩;rw [fe]
   split
   · rfl
   · exact q3
def remG (g : Nat→S29) (i m m' : Nat) : Nat→S29:=fun x=>if x < 2 * 2 ^ m' - 1 then (if x ∈ pathN i m then z29 else if x = 2 * i then z29 else g x) else z29
theorem RG.rem {l : List S29} {m m' i : Nat} (h : RG (VX l) m) (hi : i < 2 ^ m) (ht : Tops (cutG l i m) m m') : RG (remG (VX l) i m m') m':=by
 have hm:=h.hm;have hle:=ht.le;have hpp : 2 ^ m'≤2 ^ m:=Nat.pow_le_pow_right (by decide) hle
 have hcase : ∀ x,remG (VX l) i m m' x = z29∨(x < 2 * 2 ^ m' - 1∧x ∉ pathN i m∧x≠2 * i∧remG (VX l) i m m' x = VX l x):=fun x=>by
  unfold remG
  by_cases c0 : x < 2 * 2 ^ m' - 1
  · rw [if_pos c0]
    by_cases c : x ∈ pathN i m
    · exact .inl (by rw [if_pos c])
    · by_cases c2 : x = 2 * i
      · exact .inl (by rw [if_neg c,if_pos c2])
      · exact .inr ⟨c0,c,c2,by rw [if_neg c,if_neg c2]⟩
  · exact .inl (by rw [if_neg c0])
 have hcut : ∀ x,x < 2 * 2 ^ m' - 1→remG (VX l) i m m' x = cutG l i m x:=fun x hx=>by
  unfold remG cutG;rw [if_pos hx]
 refine ⟨by omega,fun x hx=>?_,fun x hx=>?_,fun x hx=>?_,fun x hx=>?_,fun x=>?_,fun x y hy=>?_,?_⟩
 · unfold remG
   rw [if_neg (by omega)]
 · rcases hcase x with e | ⟨_,_,_,e⟩
   · exact e
   · rw [e] at hx ⊢;exact h.blank x hx
 · rcases hcase x with e | ⟨_,_,_,e⟩ <;> rw [e]
   · rfl
   · exact h.leaf x hx
 · rcases hcase x with e | ⟨_,_,_,e⟩ <;> rw [e]
   · exact ⟨rfl,rfl⟩
   · exact h.par x hx
 · rcases hcase x with e | ⟨_,_,_,e⟩ <;> rw [e]
   · exact List.Pairwise.nil
   · exact h.up x
 · rcases hcase x with e | ⟨c0,c1,c2,e⟩ <;> rw [e] at hy
   · cases hy
   · obtain ⟨j,h1,h2,h3,h4⟩:=h.late x y hy
     have hne : j≠i:=fun hh=>c1 (by rw [← hh];exact h4)
     have hc : cutG l i m (2 * j) = VX l (2 * j):=by
      unfold cutG;rw [if_neg (path_even hm hi),if_neg (by omega)]
     have hj : j < 2 ^ m':=by
      rcases Nat.lt_or_ge j (2 ^ m') with q | q
      · exact q
      · have:=ht.no j q h2
        rw [hc,h3] at this;cases this
     refine ⟨j,h1,hj,?_,(path_pre hle hm hj).2 ⟨h4,c0⟩⟩;rw [hcut _ (by omega),hc];exact h3
 · obtain ⟨j,q1,q2,q3⟩:=ht.yes
   exact ⟨j,q1,q2,by rw [hcut _ (by omega)];exact q3⟩
theorem rem_mk {l : List S29} {i m m' : Nat} : mkT (2 * 2 ^ m' - 1) (cutG l i m) = mkT (2 * 2 ^ m' - 1) (remG (VX l) i m m'):=mkT_congr fun x hx=>by
 unfold remG cutG;rw [if_pos hx]
theorem tops_any {g : Nat→S29} (hb : ∃ j,(g (2 * j)).f0 = true) : ∀ (q : Nat),(∀ j,(g (2 * j)).f0 = true→j < 2 ^ q)→∃ m',m'≤q∧(∀ j,(g (2 * j)).f0 = true→j < 2 ^ m')∧∃ j,2 ^ m' / 2≤j∧j < 2 ^ m'∧(g (2 * j)).f0 = true:=by
 intro q
 induction q with
 | zero=>
  intro h;obtain ⟨j,hj⟩:=hb;exact ⟨0,Nat.le_refl _,h,j,by have:=h j hj;simp at this;simp,h j hj,hj⟩
 | succ q ih=>
  intro h
  by_cases c : ∃ j,(g (2 * j)).f0 = true∧2 ^ (q + 1) / 2≤j
  · obtain ⟨j,h1,h2⟩:=c
    exact ⟨q + 1,Nat.le_refl _,h,j,h2,h j h1,h1⟩
  · obtain ⟨m',h1,h2,h3⟩:=ih (fun j hj=>by
     have : ¬ 2 ^ (q + 1) / 2≤j:=fun hh=>c ⟨j,hj,hh⟩
     rw [Nat.pow_succ] at this
     omega)
    exact ⟨m',by omega,h2,h3⟩
end Go.Proofs.YtbblomnhobodkaaDoor.Pure
set_option linter.unusedVariables false
set_option linter.unusedSimpArgs false
namespace Go.Proofs.YtbblomnhobodkaaDoor.Pure
open Go.RowKit Go.Proofs.YtbblomnhobodkaaDoor Go.Proofs.YtbblomnhobodkaaDoor.PTw Go.Proofs.YtbblomnhobodkaaDoorW.PW
theorem late_same {l : List S29} {n x : Nat} (h : l.length = 2 * n - 1) (hp : pow2s.contains n = true) (hx : x < 63) (f0 : Bool) (f1 f2 f3 f4 : Int) (late : List Int) (hl : late.length≤9223372036854775807) : ∀ (d i : Nat) (last : Int),d + i = late.length→(i = 0→last = -1)→(∀ j : Nat,i = j + 1→last = rd late (j : Int))→
 ∃ b,Evr (fun k=>tree_vertex.l0 k l (x : Int) late (late.length : Int) (i : Int) f0 f1 f2 f3 f4 late) b∧Evr (fun k=>r4vertex.l0 k l (x : Int) last (i : Int) f0 f1 f2 f3 f4 late) (b && (decide (f2 = 0) && decide (f3 = 0))):=by
 have hn:=pow2s_le hp;intro d
 induction d with
 | zero=>
  intro i last hd _ _;refine ⟨true,.succ (f:=fun _=>some true) (fun k=>by rw [tree_vertex.l0,if_neg (by omega)]) (.const fun _=>rfl),?_⟩;refine .succ (f:=fun _=>some (decide (f2 = 0) && decide (f3 = 0))) (fun k=>?_) (.const fun _=>by simp);rw [r4vertex.l0,if_neg (by omega)]
  by_cases h2 : f2 = 0
  · rw [if_pos h2,decide_eq_true h2,Bool.true_and];rfl
  · rw [if_neg h2,decide_eq_false h2,Bool.false_and]
 | succ d ih=>
  intro i last hd h0 h1
  have hi : i < late.length:=by omega
  have hT : ∀ k,tree_vertex.l0 (k + 1) l (x : Int) late (late.length : Int) (i : Int) f0 f1 f2 f3 f4 late = if fullB l n (rd late (i : Int)) = true then ((heap_Under.f k (wrap64 (2 * rd late (i : Int))) (x : Int) (n : Int)).bind fun t=>if t = true then (if (i : Int) > 0 then (if rd late ((i : Int) - 1)≥rd late (i : Int) then some false else tree_vertex.l0 k l (x : Int) late (late.length : Int) ((i + 1 : Nat) : Int) f0 f1 f2 f3 f4 late) else tree_vertex.l0 k l (x : Int) late (late.length : Int) ((i + 1 : Nat) : Int) f0 f1 f2 f3 f4 late) else some false) else some false:=by
   intro k;rw [tree_vertex.l0,if_pos (by omega),if_pos (by omega),if_pos (by omega),(full_same h (by omega) (by omega) _).2,Option.bind_some,(leaves_at h (by omega) (by omega)).2,Option.bind_some,wrap_id (a:=(i : Int) + 1) (by omega),show (i : Int) + 1 = ((i + 1 : Nat) : Int) by omega]
   by_cases c : (i : Int) > 0
   · rw [wrap_id (a:=(i : Int) - 1) (by omega)]
     simp only [if_pos c,if_pos (show 0≤(i : Int) - 1 by omega),if_pos (show (i : Int) - 1 < (late.length : Int) by omega)]
   · simp only [if_neg c]
  have hR : ∀ k,r4vertex.l0 (k + 1) l (x : Int) last (i : Int) f0 f1 f2 f3 f4 late = if rd late (i : Int)≤last then some false else if rd late (i : Int)≥64 then some false else if fullB l n (rd late (i : Int)) = true then ((r3Under.f k (wrap64 (2 * rd late (i : Int))) (x : Int) (n : Int)).bind fun t=>if t = true then r4vertex.l0 k l (x : Int) (rd late (i : Int)) ((i + 1 : Nat) : Int) f0 f1 f2 f3 f4 late else some false) else some false:=by
   intro k;rw [r4vertex.l0,if_pos (by omega),if_pos (by omega),(full_same h (by omega) (by omega) _).1,Option.bind_some,(leaves_at h (by omega) (by omega)).1,Option.bind_some,wrap_id (a:=(i : Int) + 1) (by omega),show (i : Int) + 1 = ((i + 1 : Nat) : Int) by omega]
  generalize hv : rd late (i : Int) = v at hT hR
  by_cases c : fullB l n v = true
  · have hvl:=fullB_lt c
    obtain ⟨y,rfl⟩ : ∃ y : Nat,v = (y : Int):=⟨v.toNat,by omega⟩
    obtain ⟨b1,u1,u2⟩:=under_same (y:=2 * y) hp hx (by omega)
    have eu : wrap64 (2 * (y : Int)) = ((2 * y : Nat) : Int):=by rw [wrap_id (by omega)];omega
    simp only [if_pos c,eu] at hT hR
    cases b1 with
    | false=>
     refine ⟨false,.succ hT (u1.bind (.const fun _=>rfl)),.succ hR ?_⟩
     by_cases c1 : (y : Int)≤last
     · exact .const fun k=>by rw [if_pos c1];rfl
     · simp only [if_neg c1,if_neg (show ¬ (y : Int)≥64 by omega)]
       exact u2.bind (.const fun _=>rfl)
    | true=>
     obtain ⟨b,t1,t2⟩:=ih (i + 1) (y : Int) (by omega) (by omega) (fun j hj=>(show rd late (i : Int) = rd late (j : Int) by rw [show i = j by omega]).symm.trans hv |>.symm)
     by_cases c0 : (i : Int) > 0
     · obtain ⟨j,rfl⟩ : ∃ j,i = j + 1:=⟨i - 1,by omega⟩
       have hlast:=h1 j rfl
       have ej : ((j + 1 : Nat) : Int) - 1 = (j : Int):=by omega
       rw [ej,← hlast] at hT
       by_cases c1 : (y : Int)≤last
       · exact ⟨false,.succ hT (u1.bind (.const fun k=>by simp only [if_true,if_pos c0,if_pos (show last≥(y : Int) from c1)])),.succ hR (.const fun k=>by rw [if_pos c1];rfl)⟩
       · refine ⟨b,.succ hT (u1.bind ?_),.succ hR ?_⟩
         · simp only [if_true,if_pos c0,if_neg (show ¬ last≥(y : Int) from c1)]
           exact t1
         · simp only [if_neg c1,if_neg (show ¬ (y : Int)≥64 by omega)]
           refine u2.bind ?_;simp only [if_true];exact t2
     · have hz : i = 0:=by omega
       have hlast:=h0 hz;refine ⟨b,.succ hT (u1.bind ?_),.succ hR ?_⟩
       · simp only [if_true,if_neg c0]
         exact t1
       · simp only [if_neg (show ¬ (y : Int)≤last by omega),if_neg (show ¬ (y : Int)≥64 by omega)]
         refine u2.bind ?_;simp only [if_true];exact t2
  · simp only [if_neg c] at hT hR
    refine ⟨false,.succ hT (.const fun _=>rfl),.succ hR (.const fun k=>?_)⟩
    by_cases c1 : v≤last
    · rw [if_pos c1];rfl
    · rw [if_neg c1]
      by_cases c2 : v≥64
      · rw [if_pos c2];rfl
      · rw [if_neg c2];rfl
theorem vertex_same {l : List S29} (hw : ∀ v ∈ l,v.f5.length≤9223372036854775807) {n x : Nat} (h : l.length = 2 * n - 1) (hp : pow2s.contains n = true) (hx : x < l.length) : ∃ b,Evr (fun k=>tree_vertex.f k l (x : Int)) b∧Evr (fun k=>r4vertex.f k l (x : Int)) b:=by
 have hn:=pow2s_le hp
 have hlate : (rd_T29 l (x : Int)).f5.length≤9223372036854775807:=by
  have e : rd_T29 l (x : Int) = l[x]:=VX_at hx;rw [e];exact hw _ (List.getElem_mem hx)
 unfold tree_vertex.f r4vertex.f;simp only [if_pos (show 0≤(x : Int) by omega),if_pos (show (x : Int) < (l.length : Int) by omega)]
 generalize rd_T29 l (x : Int) = v at *
 by_cases c0 : v.f0 = true
 · simp only [if_pos c0]
   by_cases c1 : Int.tmod (x : Int) 2 = 0
   · simp only [if_pos c1]
     exact ⟨_,.const fun _=>rfl,.const fun _=>rfl⟩
   · simp only [if_neg c1]
     obtain ⟨b,t1,t2⟩:=late_same (x:=x) h hp (by omega) v.f0 v.f1 v.f2 v.f3 v.f4 v.f5 hlate v.f5.length 0 (-1) (by omega) (fun _=>rfl) (fun j hj=>by omega)
     by_cases c2 : v.f2 = 0
     · by_cases c3 : v.f3 = 0
       · rw [decide_eq_true c2,decide_eq_true c3,Bool.true_and,Bool.and_true] at t2
         simp only [if_pos c2,if_pos c3];exact ⟨b,t1,t2⟩
       · rw [decide_eq_false c3,Bool.and_false,Bool.and_false] at t2
         simp only [if_pos c2,if_neg c3];exact ⟨false,.const fun _=>rfl,t2⟩
     · rw [decide_eq_false c2,Bool.false_and,Bool.and_false] at t2
       simp only [if_neg c2];exact ⟨false,.const fun _=>rfl,t2⟩
 · have cf : v.f0 = false:=by simpa using c0
   simp only [if_neg c0];unfold tree_blank.f;simp only [cf,Bool.false_eq_true,if_false]
   by_cases c1 : v.f1 = 0
   · simp only [if_pos c1]
     by_cases c2 : v.f2 = 0
     · simp only [if_pos c2]
       by_cases c3 : v.f3 = 0
       · simp only [if_pos c3]
         by_cases c4 : v.f4 = 0
         · simp only [if_pos c4,Option.bind_some]
           exact ⟨_,.const fun _=>rfl,.const fun _=>rfl⟩
         · simp only [if_neg c4,Option.bind_some]
           exact ⟨_,.const fun _=>rfl,.const fun _=>rfl⟩
       · simp only [if_neg c3,Option.bind_some]
         exact ⟨_,.const fun _=>rfl,.const fun _=>rfl⟩
     · simp only [if_neg c2,Option.bind_some]
       exact ⟨_,.const fun _=>rfl,.const fun _=>rfl⟩
   · simp only [if_neg c1,Option.bind_some]
     exact ⟨_,.const fun _=>rfl,.const fun _=>rfl⟩
theorem check_l0_same {l : List S29} (hw : ∀ v ∈ l,v.f5.length≤9223372036854775807) {n : Nat} (h : l.length = 2 * n - 1) (hp : pow2s.contains n = true) : ∀ (d i : Nat),d + i = l.length→∃ b,Evr (fun k=>tree_Check.l0 k l (l.length : Int) (i : Int)) b∧Evr (fun k=>r4Check.l0 k l (i : Int)) b:=by
 have hn:=pow2s_le hp;intro d
 induction d with
 | zero=>exact fun i hd=>⟨true,.succ (f:=fun _=>some true) (fun k=>by rw [tree_Check.l0,if_neg (by omega)]) (.const fun _=>rfl),.succ (f:=fun _=>some true) (fun k=>by rw [r4Check.l0,if_neg (by omega)]) (.const fun _=>rfl)⟩
 | succ d ih=>
  intro i hd;obtain ⟨b1,v1,v2⟩:=vertex_same hw h hp (x:=i) (by omega);obtain ⟨b,t1,t2⟩:=ih (i + 1) (by omega)
  have e1 : ∀ k,tree_Check.l0 (k + 1) l (l.length : Int) (i : Int) = (tree_vertex.f k l (i : Int)).bind fun t=>if t = true then tree_Check.l0 k l (l.length : Int) ((i + 1 : Nat) : Int) else some false:=fun k=>by
   rw [tree_Check.l0,if_pos (by omega),wrap_id (by omega),show (i : Int) + 1 = ((i + 1 : Nat) : Int) by omega]
  have e2 : ∀ k,r4Check.l0 (k + 1) l (i : Int) = (r4vertex.f k l (i : Int)).bind fun t=>if t = true then r4Check.l0 k l ((i + 1 : Nat) : Int) else some false:=fun k=>by
   rw [r4Check.l0,if_pos (by omega),wrap_id (by omega),show (i : Int) + 1 = ((i + 1 : Nat) : Int) by omega]
  cases b1 with
  | false=>exact ⟨false,.succ e1 (v1.bind (.const fun _=>rfl)),.succ e2 (v2.bind (.const fun _=>rfl))⟩
  | true=>exact ⟨b,.succ e1 (v1.bind (by simpa using t1)),.succ e2 (v2.bind (by simpa using t2))⟩
theorem tight_same {l : List S29} {n : Nat} (h : l.length = 2 * n - 1) (hn : 1≤n) (hn2 : n≤1000) : ∀ (d i : Nat),d + i = n→∃ b,Evr (fun k=>tree_tight.l0 k l (n : Int) (i : Int)) b∧Evr (fun k=>r4Tight.l0 k l (n : Int) (i : Int)) b:=by
 intro d
 induction d with
 | zero=>exact fun i hd=>⟨false,.succ (f:=fun _=>some false) (fun k=>by rw [tree_tight.l0,if_neg (by omega)]) (.const fun _=>rfl),.succ (f:=fun _=>some false) (fun k=>by rw [r4Tight.l0,if_neg (by omega)]) (.const fun _=>rfl)⟩
 | succ d ih=>
  intro i hd;obtain ⟨b,t1,t2⟩:=ih (i + 1) (by omega)
  have ef : fullB l n (i : Int) = (rd_T29 l (2 * (i : Int))).f0:=by
   unfold fullB;rw [decide_eq_true (by omega),decide_eq_true (by omega),Bool.true_and,Bool.true_and]
  have e1 : ∀ k,tree_tight.l0 (k + 1) l (n : Int) (i : Int) = if (rd_T29 l (2 * (i : Int))).f0 = true then some true else tree_tight.l0 k l (n : Int) ((i + 1 : Nat) : Int):=fun k=>by
   rw [tree_tight.l0,if_pos (by omega),wrap_id (a:=2 * (i : Int)) (by omega),if_pos (by omega),if_pos (by omega),wrap_id (by omega),show (i : Int) + 1 = ((i + 1 : Nat) : Int) by omega]
  have e2 : ∀ k,r4Tight.l0 (k + 1) l (n : Int) (i : Int) = if (rd_T29 l (2 * (i : Int))).f0 = true then some true else r4Tight.l0 k l (n : Int) ((i + 1 : Nat) : Int):=fun k=>by
   rw [r4Tight.l0,if_pos (by omega),(full_same h hn hn2 _).1,Option.bind_some,ef,wrap_id (by omega),show (i : Int) + 1 = ((i + 1 : Nat) : Int) by omega]
  by_cases c : (rd_T29 l (2 * (i : Int))).f0 = true
  · exact ⟨true,.succ e1 (.const fun k=>by rw [if_pos c]),.succ e2 (.const fun k=>by rw [if_pos c])⟩
  · exact ⟨b,.succ e1 (by simpa only [if_neg c] using t1),.succ e2 (by simpa only [if_neg c] using t2)⟩
theorem check_same {l : List S29} (hw : ∀ v ∈ l,v.f5.length≤9223372036854775807) (hl : l.length≤200) : ∃ b,Evr (fun k=>tree_Check.f k l) b∧Evr (fun k=>r4Check.f k l) b:=by
 unfold tree_Check.f r4Check.f
 have jf : ∀ k,tree_Check.j0 (k + 1) l true = some false:=fun k=>by rw [tree_Check.j0,if_pos rfl]
 have jg : ∀ k,r4Check.j0 (k + 1) l true = some false:=fun k=>by rw [r4Check.j0,if_pos rfl]
 by_cases c : (l.length : Int) % 2 = 0
 · simp only [if_pos c]
   exact ⟨false,.succ jf (.const fun _=>rfl),.succ jg (.const fun _=>rfl)⟩
 · simp only [if_neg c]
   obtain ⟨n,hn⟩ : ∃ n,l.length = 2 * n - 1∧1≤n∧n≤200:=⟨(l.length + 1) / 2,by omega,by omega,by omega⟩
   obtain ⟨h,h1,h2⟩:=hn;simp only [(leaves_at h h1 (by omega)).1,(leaves_at h h1 (by omega)).2,Option.bind_some,(right_same n h2).1,(right_same n h2).2]
   by_cases cr : pow2s.contains n = true
   · simp only [if_pos cr]
     obtain ⟨b1,t1,t2⟩:=tight_same h h1 (by omega) (n - n / 2) (n / 2) (by omega);obtain ⟨b,c1,c2⟩:=check_l0_same hw h cr l.length 0 (by omega)
     have e1 : Evr (fun k=>tree_tight.f k l) b1:=by
      unfold tree_tight.f;simp only [(leaves_at h h1 (by omega)).2,Option.bind_some];rw [Int.tdiv_eq_ediv_of_nonneg (by omega),wrap_id (by omega),show (n : Int) / 2 = ((n / 2 : Nat) : Int) by omega];exact t1
     have e2 : Evr (fun k=>r4Tight.f k l) b1:=by
      unfold r4Tight.f;simp only [(leaves_at h h1 (by omega)).1,Option.bind_some];rw [Int.tdiv_eq_ediv_of_nonneg (by omega),wrap_id (by omega),show (n : Int) / 2 = ((n / 2 : Nat) : Int) by omega];exact t2
     cases b1 with
     | false=>exact ⟨false,e1.bind (.succ jf (.const fun _=>rfl)),e2.bind (.succ jg (.const fun _=>rfl))⟩
     | true=>
      refine ⟨b,e1.bind (.succ (f:=fun k=>tree_Check.l0 k l (l.length : Int) 0) (fun k=>?_) c1),e2.bind (.succ (f:=fun k=>r4Check.l0 k l 0) (fun k=>?_) c2)⟩
      · simp only [Bool.not_true,tree_Check.j0,Bool.false_eq_true,if_false]
      · simp only [Bool.not_true,r4Check.j0,Bool.false_eq_true,if_false]
   · simp only [if_neg cr]
     exact ⟨false,.succ jf (.const fun _=>rfl),.succ jg (.const fun _=>rfl)⟩
end Go.Proofs.YtbblomnhobodkaaDoor.Pure
set_option linter.unusedVariables false
set_option linter.unusedSimpArgs false
namespace Go.Proofs.YtbblomnhobodkaaDoor.Pure
open Go.RowKit Go.Proofs.YtbblomnhobodkaaDoor Go.Proofs.YtbblomnhobodkaaDoor.PTw Go.Proofs.YtbblomnhobodkaaDoorW.PW
theorem rd_nth {l : List Int} {j : Nat} (h : j < l.length) : rd l (j : Int) = l[j]:=by simp [rd,List.getD_eq_getElem?_getD,List.getElem?_eq_getElem h]
theorem with_done (l : List Int) (i : Int) (hl : l.length≤1000) : ∀ (d j : Nat) (acc : List Int),d + j = l.length→acc.length≤j + 1→Evr (fun k=>r4with.l0 k l i acc true (j : Int)) (acc ++ l.drop j):=by
 intro d
 induction d with
 | zero=>
  intro j acc hd _;refine .succ (f:=fun _=>some acc) (fun k=>by rw [r4with.l0,if_neg (by omega),if_pos rfl]) (.const fun _=>?_);rw [List.drop_eq_nil_of_le (by omega),List.append_nil]
 | succ d ih=>
  intro j acc hd ha
  have hj : j < l.length:=by omega
  rw [List.drop_eq_getElem_cons hj,show acc ++ l[j] :: l.drop (j + 1) = acc ++ [l[j]] ++ l.drop (j + 1) by simp];refine .succ (fun k=>?_) (ih (j + 1) (acc ++ [l[j]]) (by omega) (by simp;omega));rw [r4with.l0,if_pos (by omega),if_pos rfl,if_pos (by omega),if_pos (by omega),rd_nth hj,wrap_id (by omega),show (j : Int) + 1 = ((j + 1 : Nat) : Int) by omega]
theorem with_open (l : List Int) (i : Int) (hl : l.length≤1000) (hp : l.Pairwise (· < ·)) (hi : i ∉ l) : ∀ (d j : Nat) (acc : List Int),d + j = l.length→acc.length≤j→Evr (fun k=>r4with.l0 k l i acc false (j : Int)) (acc ++ insN (l.drop j) i):=by
 intro d
 induction d with
 | zero=>
  intro j acc hd ha;refine .succ (f:=fun _=>some (acc ++ [i])) (fun k=>by rw [r4with.l0,if_neg (by omega),if_neg (by decide),if_pos (by omega)]) (.const fun _=>?_);rw [List.drop_eq_nil_of_le (by omega)]
  rfl
 | succ d ih=>
  intro j acc hd ha
  have hj : j < l.length:=by omega
  have hne : l[j]≠i:=fun e=>hi (by rw [← e];exact List.getElem_mem hj)
  have hp2 : (l.drop j).Pairwise (· < ·):=hp.sublist (List.drop_sublist _ _);rw [List.drop_eq_getElem_cons hj] at hp2 ⊢
  by_cases c : l[j] > i
  · rw [insN_ge hp2 (by omega),show acc ++ i :: l[j] :: l.drop (j + 1) = acc ++ [i] ++ [l[j]] ++ l.drop (j + 1) by simp]
    refine .succ (fun k=>?_) (with_done l i hl d (j + 1) (acc ++ [i] ++ [l[j]]) (by omega) (by simp;omega));rw [r4with.l0,if_pos (by omega),if_neg (by decide),if_pos (by omega),rd_nth hj,if_pos c,if_pos (by omega),Option.bind_some,if_pos (by simp;omega),wrap_id (by omega),show (j : Int) + 1 = ((j + 1 : Nat) : Int) by omega]
  · rw [insN_lt (by omega),show acc ++ l[j] :: insN (l.drop (j + 1)) i = acc ++ [l[j]] ++ insN (l.drop (j + 1)) i by simp]
    refine .succ (fun k=>?_) (ih (j + 1) (acc ++ [l[j]]) (by omega) (by simp;omega));rw [r4with.l0,if_pos (by omega),if_neg (by decide),if_pos (by omega),rd_nth hj,if_neg c,if_pos (by omega),wrap_id (by omega),show (j : Int) + 1 = ((j + 1 : Nat) : Int) by omega]
theorem with_ev {l : List Int} {i : Int} (hl : l.length≤1000) (hp : l.Pairwise (· < ·)) (hi : i ∉ l) : Evr (fun k=>r4with.f k l i) (insN l i):=by
 have:=with_open l i hl hp hi l.length 0 [] (by omega) (by simp)
 rw [List.drop_zero,List.nil_append] at this;exact this
theorem radd_l2 {m i : Nat} (hm : m≤5) (hi : i < 2 ^ m) : ∀ (d j : Nat) (g : Nat→S29),2 * d + j = 2 * 2 ^ m - 1→j % 2 = 1→(∀ x,j≤x→(g x).f5.Pairwise (· < ·)∧(g x).f5.length≤1000∧((g x).f0 = true→(i : Int) ∉ (g x).f5))→
 Evr (fun k=>r4Add.l2 k (mkT (2 * 2 ^ m - 1) g) (i : Int) ((2 ^ m : Nat) : Int) (j : Int)) (mkT (2 * 2 ^ m - 1) (fun x=>if j≤x∧x ∈ pathN i m∧(g x).f0 = true then lateIn (g x) i else g x),(i : Int),0):=by
 have hp:=pow_le32 hm;intro d
 induction d with
 | zero=>
  intro j g hd _ _;refine .succ (f:=fun _=>some (mkT (2 * 2 ^ m - 1) g,(i : Int),0)) (fun k=>by rw [r4Add.l2,mkT_len,if_neg (by omega)]) (.const fun _=>?_)
  congr 2
  refine mkT_congr fun x hx=>?_
  rw [if_neg (fun hh=>by omega)]
 | succ d ih=>
  intro j g hd ho hg
  have hjN : j < 2 * 2 ^ m - 1:=by omega
  have hstep : ∀ (g' : Nat→S29),(∀ x,x≠j→g' x = g x)→(g' j = if j ∈ pathN i m∧(g j).f0 = true then lateIn (g j) i else g j)→mkT (2 * 2 ^ m - 1) (fun x=>if j + 2≤x∧x ∈ pathN i m∧(g' x).f0 = true then lateIn (g' x) i else g' x) = mkT (2 * 2 ^ m - 1) (fun x=>if j≤x∧x ∈ pathN i m∧(g x).f0 = true then lateIn (g x) i else g x):=fun g' h1 h2=>mkT_congr fun x _=>by
   by_cases c : x = j
   · subst c
     rw [if_neg (fun hh=>by omega),h2]
     by_cases c2 : x ∈ pathN i m∧(g x).f0 = true
     · rw [if_pos c2,if_pos ⟨Nat.le_refl _,c2⟩]
     · rw [if_neg c2,if_neg (fun hh=>c2 hh.2)]
   · rw [h1 x c]
     by_cases c2 : j≤x∧x ∈ pathN i m∧(g x).f0 = true
     · have:=path_odd hm hi c2.2.1
       rw [if_pos c2,if_pos ⟨by omega,c2.2⟩]
     · rw [if_neg c2,if_neg (fun hh=>c2 ⟨by omega,hh.2⟩)]
  have erd : rd_T29 (mkT (2 * 2 ^ m - 1) g) (j : Int) = g j:=mkT_get hjN
  by_cases c0 : (g j).f0 = true
  · have hu:=und_at hm hi (x:=j) hjN
    have hne : j≠2 * i:=by omega
    rw [decide_eq_false hne,Bool.or_false] at hu
    by_cases c1 : j ∈ pathN i m
    · rw [decide_eq_true c1] at hu
      have hw:=with_ev (l:=(g j).f5) (i:=(i : Int)) (hg j (Nat.le_refl _)).2.1 (hg j (Nat.le_refl _)).1 ((hg j (Nat.le_refl _)).2.2 c0);rw [← hstep (fun x=>if x = j then lateIn (g j) i else g x) (fun x hx=>by rw [if_neg hx]) (by rw [if_pos rfl,if_pos ⟨c1,c0⟩])]
      have hi2:=ih (j + 2) (fun x=>if x = j then lateIn (g j) i else g x) (by omega) (by omega) (fun x hx=>by
       simp only [if_neg (show ¬ x = j by omega)]
       exact hg x (by omega))
      refine .succ (f:=fun k=>(r3Under.f k (2 * (i : Int)) (j : Int) ((2 ^ m : Nat) : Int)).bind fun t=>if t = true then ((r4with.f k (g j).f5 (i : Int)).bind fun t2=>r4Add.l2 k ((mkT (2 * 2 ^ m - 1) g).set j (⟨(g j).f0,(g j).f1,(g j).f2,(g j).f3,(g j).f4,t2⟩ : S29)) (i : Int) ((2 ^ m : Nat) : Int) ((j + 2 : Nat) : Int)) else r4Add.l2 k (mkT (2 * 2 ^ m - 1) g) (i : Int) ((2 ^ m : Nat) : Int) ((j + 2 : Nat) : Int)) (fun k=>?_) (hu.bind ?_)
      · rw [r4Add.l2,mkT_len,if_pos (by omega),if_pos (by omega),erd,if_pos c0,wrap_id (a:=2 * (i : Int)) (by omega),wrap_id (a:=(j : Int) + 2) (by omega),show (j : Int) + 2 = ((j + 2 : Nat) : Int) by omega,Int.toNat_natCast]
      · simp only [if_true]
        refine hw.bind ?_;rw [mkT_set];exact hi2
    · rw [decide_eq_false c1] at hu
      rw [← hstep g (fun _ _=>rfl) (by rw [if_neg (fun hh=>c1 hh.1)])];have hi2:=ih (j + 2) g (by omega) (by omega) (fun x hx=>hg x (by omega));refine .succ (f:=fun k=>(r3Under.f k (2 * (i : Int)) (j : Int) ((2 ^ m : Nat) : Int)).bind fun t=>if t = true then ((r4with.f k (g j).f5 (i : Int)).bind fun t2=>r4Add.l2 k ((mkT (2 * 2 ^ m - 1) g).set j (⟨(g j).f0,(g j).f1,(g j).f2,(g j).f3,(g j).f4,t2⟩ : S29)) (i : Int) ((2 ^ m : Nat) : Int) ((j + 2 : Nat) : Int)) else r4Add.l2 k (mkT (2 * 2 ^ m - 1) g) (i : Int) ((2 ^ m : Nat) : Int) ((j + 2 : Nat) : Int)) (fun k=>?_) (hu.bind ?_)
      · rw [r4Add.l2,mkT_len,if_pos (by omega),if_pos (by omega),erd,if_pos c0,wrap_id (a:=2 * (i : Int)) (by omega),wrap_id (a:=(j : Int) + 2) (by omega),show (j : Int) + 2 = ((j + 2 : Nat) : Int) by omega,Int.toNat_natCast]
      · simpa using hi2
  · rw [← hstep g (fun _ _=>rfl) (by rw [if_neg (fun hh=>c0 hh.2)])]
    refine .succ (fun k=>?_) (ih (j + 2) g (by omega) (by omega) (fun x hx=>hg x (by omega)));rw [r4Add.l2,mkT_len,if_pos (by omega),if_pos (by omega),erd,if_neg c0,wrap_id (a:=(j : Int) + 2) (by omega),show (j : Int) + 2 = ((j + 2 : Nat) : Int) by omega]
theorem radd_l1 {l : List S29} {n : Nat} (hn : 1≤n) (hn2 : n≤32) (f0 : Bool) (f1 f2 f3 f4 : Int) (l5 : List Int) {r : List S29 × Int × Int} (hr : Evr (fun k=>r4Add.j2 k (mkT (4 * n - 1) (VX l)) (n : Int) f0 f1 f2 f3 f4 l5) r) : ∀ (d N : Nat),d + N = 4 * n - 1→l.length≤N→Evr (fun k=>r4Add.l1 k (mkT N (VX l)) (n : Int) f0 f1 f2 f3 f4 l5) r:=by
 intro d
 induction d with
 | zero=>
  intro N hd hN
  have : N = 4 * n - 1:=by omega
  subst this;refine .succ (fun k=>?_) hr;rw [r4Add.l1,mkT_len,wrap_id (a:=4 * (n : Int)) (by omega),wrap_id (by omega),if_neg (by omega)]
 | succ d ih=>
  intro N hd hN;refine .succ (fun k=>?_) (ih (N + 1) (by omega) (by omega));have e : mkT N (VX l) ++ [z29] = mkT (N + 1) (VX l):=mkT_app (M:=1) (fun x hx=>VX_out (by omega));rw [r4Add.l1,mkT_len,wrap_id (a:=4 * (n : Int)) (by omega),wrap_id (by omega),if_pos (by omega),if_pos (by omega),← e]
  rfl
theorem radd_j2 {m i : Nat} (hm : m≤5) (hi : i < 2 ^ m) (g : Nat→S29) (hg : ∀ x,(g x).f5.Pairwise (· < ·)∧(g x).f5.length≤1000∧(i : Int) ∉ (g x).f5) (f0 : Bool) (f1 f2 f3 f4 : Int) (l5 : List Int) :
 Evr (fun k=>r4Add.j2 k (mkT (2 * 2 ^ m - 1) g) (i : Int) f0 f1 f2 f3 f4 l5) (mkT (2 * 2 ^ m - 1) (addG g i m ⟨true,f1,f2,f3,f4,[]⟩),(i : Int),0):=by
 have hp:=pow_le32 hm;have hlo : r4Leaf.f f0 f1 f2 f3 f4 l5 = some (true,f1,f2,f3,f4,[]):=rfl
 obtain ⟨g',hg'⟩ : ∃ g' : Nat→S29,g' = fun x=>if x = 2 * i then (⟨true,f1,f2,f3,f4,[]⟩ : S29) else g x:=⟨_,rfl⟩
 have h:=radd_l2 hm hi (2 ^ m - 1) 1 g' (by omega) (by decide) (fun x _=>by
  rw [hg']
  by_cases c : x = 2 * i
  · simp only [if_pos c]
    exact ⟨List.Pairwise.nil,by simp,fun _=>by simp⟩
  · simp only [if_neg c]
    exact ⟨(hg x).1,(hg x).2.1,fun _=>(hg x).2.2⟩)
 have e : mkT (2 * 2 ^ m - 1) (fun x=>if 1≤x∧x ∈ pathN i m∧(g' x).f0 = true then lateIn (g' x) i else g' x) = mkT (2 * 2 ^ m - 1) (addG g i m ⟨true,f1,f2,f3,f4,[]⟩):=mkT_congr fun x _=>by
  unfold addG;rw [hg']
  by_cases c : x = 2 * i
  · have hn : x ∉ pathN i m:=fun hh=>by have:=path_odd hm hi hh;omega
    rw [if_neg (fun hh=>hn hh.2.1),if_neg (fun hh=>hn hh.1),if_pos c];exact if_pos c
  · simp only [if_neg c]
    by_cases c2 : x ∈ pathN i m∧(g x).f0 = true
    · have:=path_odd hm hi c2.1
      rw [if_pos ⟨by omega,c2⟩,if_pos c2]
    · rw [if_neg (fun hh=>c2 hh.2),if_neg c2]
 rw [e] at h;refine .succ (fun k=>?_) h;rw [r4Add.j2,hlo,Option.bind_some,wrap_id (by omega),if_pos (by omega),mkT_len,if_pos (by omega),Option.bind_some,show (2 * (i : Int)).toNat = 2 * i by omega,mkT_set,← hg',(leaves_at (l:=mkT (2 * 2 ^ m - 1) g') (n:=2 ^ m) (mkT_len _ _) hp.1 (by omega)).1,Option.bind_some]
 rfl
theorem radd_l0 {l : List S29} {n : Nat} (h : l.length = 2 * n - 1) (hn : 1≤n) (hn2 : n≤32) (f0 : Bool) (f1 f2 f3 f4 : Int) (l5 : List Int) {i : Nat} (hi : i≤n) (hfull : ∀ j,j < i→(VX l (2 * j)).f0 = true) {r : List S29 × Int × Int} (hr : Evr (fun k=>r4Add.l0 k l (i : Int) f0 f1 f2 f3 f4 l5) r) : ∀ (d j : Nat),d + j = i→Evr (fun k=>r4Add.l0 k l (j : Int) f0 f1 f2 f3 f4 l5) r:=by
 intro d
 induction d with
 | zero=>
  intro j hd
  have : j = i:=by omega
  subst this;exact hr
 | succ d ih=>
  intro j hd;refine .succ (fun k=>?_) (ih (j + 1) (by omega))
  have e : fullB l n (j : Int) = true:=by
   unfold fullB;rw [decide_eq_true (by omega),decide_eq_true (by omega)];exact hfull j (by omega)
  rw [r4Add.l0,(full_same h hn (by omega) _).1,e,Option.bind_some,if_pos rfl,wrap_id (by omega),show (j : Int) + 1 = ((j + 1 : Nat) : Int) by omega]
theorem radd_ev {l : List S29} {m m' i : Nat} (hR : RT l m) (hi : i≤2 ^ m) (hfull : ∀ j,j < i→(VX l (2 * j)).f0 = true) (hfree : (VX l (2 * i)).f0 = false) (hm' : (i < 2 ^ m∧m' = m)∨(i = 2 ^ m∧m' = m + 1∧m'≤5)) (f0 : Bool) (f1 f2 f3 f4 : Int) (l5 : List Int) :
 Evr (fun k=>r4Add.f k l f0 f1 f2 f3 f4 l5) (addL l i m' ⟨true,f1,f2,f3,f4,[]⟩,(i : Int),0):=by
 have hm:=hR.hm;have h:=hR.len;have hp:=pow_le32 hm
 have h5 : ∀ v ∈ l,v.f5.length < 17592186044416:=fun v hv=>by have:=hR.l5 v hv;omega
 have hgs : ∀ x,(VX l x).f5.Pairwise (· < ·)∧(VX l x).f5.length≤1000∧(i : Int) ∉ (VX l x).f5:=fun x=>⟨hR.rg.up x,by have:=(hR.rg.lates x).2;omega,fun hx=>by
  obtain ⟨j,h1,h2,h3,_⟩:=hR.rg.late x _ hx;rw [show 2 * i = 2 * j by omega,h3] at hfree
  cases hfree⟩
 refine (copy_ev (by omega) h5).bind ?_;refine radd_l0 h hp.1 hp.2 f0 f1 f2 f3 f4 l5 hi hfull ?_ i 0 (by omega)
 have enf : fullB l (2 ^ m) (i : Int) = false:=by
  unfold fullB
  by_cases c : i < 2 ^ m
  · have e : (rd_T29 l (2 * (i : Int))).f0 = false:=hfree
    rw [e,Bool.and_false]
  · rw [decide_eq_false (show ¬ (i : Int) < ((2 ^ m : Nat) : Int) by omega),Bool.and_false,Bool.false_and]
 rcases hm' with ⟨hlt,rfl⟩ | ⟨he,rfl,hm5⟩
 · refine .succ (f:=fun k=>r4Add.j2 k l (i : Int) f0 f1 f2 f3 f4 l5) (fun k=>?_) ?_
   · rw [r4Add.l0,(full_same h hp.1 (by omega) _).1,enf,Option.bind_some,if_neg (by decide),(leaves_at h hp.1 (by omega)).1,Option.bind_some,if_neg (by omega)]
   · have:=radd_j2 hm hlt (VX l) hgs f0 f1 f2 f3 f4 l5
     rw [← h,← mkT_self l] at this;rw [h] at this;exact this
 · have hp2 : 2 ^ (m + 1) = 2 * 2 ^ m:=by rw [Nat.pow_succ];omega
   have h16 : 2 ^ m≤16:=Nat.le_trans (Nat.pow_le_pow_right (by decide) (show m≤4 by omega)) (by decide);refine .succ (f:=fun k=>r4Add.l1 k l (i : Int) f0 f1 f2 f3 f4 l5) (fun k=>?_) ?_
   · rw [r4Add.l0,(full_same h hp.1 (by omega) _).1,enf,Option.bind_some,if_neg (by decide),(leaves_at h hp.1 (by omega)).1,Option.bind_some,if_pos (by omega),if_neg (by omega)]
   · have hj:=radd_j2 hm5 (i:=i) (by omega) (VX l) hgs f0 f1 f2 f3 f4 l5
     rw [show 2 * 2 ^ (m + 1) - 1 = 4 * i - 1 by omega] at hj
     have:=radd_l1 (l:=l) (n:=i) (by omega) (by omega) f0 f1 f2 f3 f4 l5 hj (4 * i - 1 - l.length) l.length (by omega) (Nat.le_refl _)
     rw [← mkT_self l] at this
     have e : mkT (4 * i - 1) (addG (VX l) i (m + 1) ⟨true,f1,f2,f3,f4,[]⟩) = addL l i (m + 1) ⟨true,f1,f2,f3,f4,[]⟩:=by
      unfold addL;rw [show 2 * 2 ^ (m + 1) - 1 = 4 * i - 1 by omega]
      rfl
     rw [e] at this;exact this
theorem radd_none {l : List S29} (h : l.length = 63) (h5 : ∀ v ∈ l,v.f5.length≤1000) (hfull : ∀ j,j < 32→(VX l (2 * j)).f0 = true) (f0 : Bool) (f1 f2 f3 f4 : Int) (l5 : List Int) : Evr (fun k=>r4Add.f k l f0 f1 f2 f3 f4 l5) ([],0,41):=by
 refine (copy_ev (by omega) (fun v hv=>by have:=h5 v hv;omega)).bind ?_;refine radd_l0 (n:=32) (i:=32) (by omega) (by omega) (by omega) f0 f1 f2 f3 f4 l5 (by omega) hfull ?_ 32 0 (by omega);refine .succ (f:=fun _=>some (([] : List S29),0,41)) (fun k=>?_) (.const fun _=>rfl);have enf : fullB l 32 ((32 : Nat) : Int) = false:=rfl;rw [r4Add.l0,(full_same (n:=32) (by omega) (by omega) (by omega) _).1,enf,Option.bind_some,if_neg (by decide),(leaves_at (n:=32) (by omega) (by omega) (by omega)).1,Option.bind_some,if_pos rfl];exact if_pos (by decide)
theorem rmembers_ev {l : List S29} {n : Nat} (h : l.length = 2 * n - 1) (hn : 1≤n) (hn2 : n≤1000) : Evr (fun k=>r4Members.f k l) (ints (fullN l 0 n)):=by
 have hl0 : ∀ (d j : Nat) (acc : List Nat),d + j = n→acc.length≤j→Evr (fun k=>r4Members.l0 k l (ints acc) (j : Int)) (ints (acc ++ fullN l j d)):=by
  intro d
  induction d with
  | zero=>
   intro j acc hd ha;refine .succ (f:=fun _=>some (ints acc)) (fun k=>by rw [r4Members.l0,(leaves_at h hn hn2).1,Option.bind_some,if_neg (by omega)]) (.const fun _=>?_)
   simp [fullN]
  | succ d ih=>
   intro j acc hd ha
   have ef : fullB l n (j : Int) = (VX l (2 * j)).f0:=by
    unfold fullB;rw [decide_eq_true (by omega),decide_eq_true (by omega),Bool.true_and,Bool.true_and]
    rfl
   have e1 : fullN l j (d + 1) = if (VX l (2 * j)).f0 = true then j :: fullN l (j + 1) d else fullN l (j + 1) d:=by
    unfold fullN;rw [List.range'_succ,List.filter_cons]
   by_cases c : (VX l (2 * j)).f0 = true
   · rw [e1,if_pos c,show acc ++ j :: fullN l (j + 1) d = acc ++ [j] ++ fullN l (j + 1) d by simp]
     refine .succ (fun k=>?_) (ih (j + 1) (acc ++ [j]) (by omega) (by simp;omega));rw [r4Members.l0,(leaves_at h hn hn2).1,Option.bind_some,if_pos (by omega),(full_same h hn hn2 _).1,ef,Option.bind_some,if_pos c,ints_len,if_pos (by omega),wrap_id (by omega),show (j : Int) + 1 = ((j + 1 : Nat) : Int) by omega,ints_append]
     rfl
   · rw [e1,if_neg c]
     refine .succ (fun k=>?_) (ih (j + 1) acc (by omega) (by omega));rw [r4Members.l0,(leaves_at h hn hn2).1,Option.bind_some,if_pos (by omega),(full_same h hn hn2 _).1,ef,Option.bind_some,if_neg c,wrap_id (by omega),show (j : Int) + 1 = ((j + 1 : Nat) : Int) by omega]
 have:=hl0 n 0 [] (by omega) (by simp)
 rw [List.nil_append] at this;exact this
theorem tight_both {l : List S29} {n : Nat} (h : l.length = 2 * n - 1) (h1 : 1≤n) (h2 : n≤1000) : ∃ b,Evr (fun k=>tree_tight.f k l) b∧Evr (fun k=>r4Tight.f k l) b:=by
 obtain ⟨b1,t1,t2⟩:=tight_same h h1 (by omega) (n - n / 2) (n / 2) (by omega);refine ⟨b1,?_,?_⟩
 · unfold tree_tight.f
   simp only [(leaves_at h h1 (by omega)).2,Option.bind_some];rw [Int.tdiv_eq_ediv_of_nonneg (by omega),wrap_id (by omega),show (n : Int) / 2 = ((n / 2 : Nat) : Int) by omega];exact t1
 · unfold r4Tight.f
   simp only [(leaves_at h h1 (by omega)).1,Option.bind_some];rw [Int.tdiv_eq_ediv_of_nonneg (by omega),wrap_id (by omega),show (n : Int) / 2 = ((n / 2 : Nat) : Int) by omega];exact t2
theorem rtight_of {l : List S29} {n : Nat} (h : l.length = 2 * n - 1) (h1 : 1≤n) (h2 : n≤1000) {b : Bool} (ht : Evr (fun k=>tree_tight.f k l) b) : Evr (fun k=>r4Tight.f k l) b:=by
 obtain ⟨b',t1,t2⟩:=tight_both h h1 h2;rw [ht.uniq t1];exact t2
theorem rshrink {g : Nat→S29} {m' : Nat} : ∀ (m : Nat),m≤5→Tops g m m'→Evr (fun k=>r4Remove.l0 k (mkT (2 * 2 ^ m - 1) g)) (mkT (2 * 2 ^ m' - 1) g,0):=by
 intro m
 induction m with
 | zero=>
  intro hm ht
  have : m' = 0:=by have:=ht.le;omega
  subst this;exact .succ (f:=fun _=>some (mkT (2 * 2 ^ 0 - 1) g,0)) (fun k=>by rw [r4Remove.l0,mkT_len,if_neg (by decide)]) (.const fun _=>rfl)
 | succ m ih=>
  intro hm ht;have hp:=pow_le32 (m:=m + 1) hm
  have hps : 2 ^ (m + 1) = 2 * 2 ^ m:=by rw [Nat.pow_succ];omega
  have hp0:=Nat.one_le_two_pow (n:=m)
  have hop : ∀ k,r4Remove.l0 (k + 1) (mkT (2 * 2 ^ (m + 1) - 1) g) = (r4Tight.f k (mkT (2 * 2 ^ (m + 1) - 1) g)).bind fun t=>if t = true then some (mkT (2 * 2 ^ (m + 1) - 1) g,0) else r4Remove.l0 k (mkT (2 * 2 ^ m - 1) g):=fun k=>by
   rw [r4Remove.l0,mkT_len,if_pos (by omega),(leaves_at (l:=mkT (2 * 2 ^ (m + 1) - 1) g) (n:=2 ^ (m + 1)) (mkT_len _ _) hp.1 (by omega)).1,Option.bind_some,wrap_id (by omega),if_pos (by omega),if_pos (by omega),mkT_take (by omega),show (((2 ^ (m + 1) : Nat) : Int) - 1).toNat = 2 * 2 ^ m - 1 by omega]
  by_cases c : m' = m + 1
  · subst c
    obtain ⟨i,h1,h2,h3⟩:=ht.yes
    have:=rtight_of (l:=mkT (2 * 2 ^ (m + 1) - 1) g) (n:=2 ^ (m + 1)) (mkT_len _ _) hp.1 (by omega) (tight_yes (l:=mkT (2 * 2 ^ (m + 1) - 1) g) (n:=2 ^ (m + 1)) (mkT_len _ _) hp.1 (by omega) h1 h2 (by rw [mkT_get (by omega)];exact h3))
    exact .succ hop (this.bind (.const fun _=>by rw [if_pos rfl]))
  · have hle : m'≤m:=by have:=ht.le;omega
    have hpm : 2 ^ m'≤2 ^ m:=Nat.pow_le_pow_right (by decide) hle
    have:=rtight_of (l:=mkT (2 * 2 ^ (m + 1) - 1) g) (n:=2 ^ (m + 1)) (mkT_len _ _) hp.1 (by omega) (tight_no (l:=mkT (2 * 2 ^ (m + 1) - 1) g) (n:=2 ^ (m + 1)) (mkT_len _ _) hp.1 (by omega) (fun i h1 h2=>by rw [mkT_get (by omega)];exact ht.no i (by omega) h2))
    have hi:=ih (by omega) ⟨hle,fun i h1 h2=>ht.no i h1 (by omega),ht.yes⟩;exact .succ hop (this.bind (.congr (fun k=>by rw [if_neg (by decide)]) hi))
theorem rremove_ev {l : List S29} {m m' i : Nat} (hm : m≤5) (h : l.length = 2 * 2 ^ m - 1) (hl : LateOk l) (hi : i < 2 ^ m) (hf : (VX l (2 * i)).f0 = true) (hc : (fullN l 0 (2 ^ m)).length≠1) (ht : Tops (cutG l i m) m m') : Evr (fun k=>r4Remove.f k l (i : Int)) (mkT (2 * 2 ^ m' - 1) (cutG l i m),0):=by
 have hp:=pow_le32 hm
 have h5 : ∀ v ∈ l,v.f5.length < 17592186044416:=fun v hv=>by have:=hl.len v hv;omega
 have hfb : r4Full.f l (i : Int) = some true:=by
  rw [(full_same h hp.1 (by omega) _).1,full_at hm h hi,hf]
 have hms:=rmembers_ev h hp.1 (by omega)
 have hne : 1≤(fullN l 0 (2 ^ m)).length:=by
  have : i ∈ fullN l 0 (2 ^ m):=List.mem_filter.2 ⟨List.mem_range'_1.2 ⟨by omega,by omega⟩,hf⟩
  exact List.length_pos_of_mem this
 have hab:=above_ev hm h hi h5
 have e : (mkT (2 * 2 ^ m - 1) (abvG l i m)).set (2 * i) z29 = mkT (2 * 2 ^ m - 1) (cutG l i m):=by
  rw [mkT_set]
  refine mkT_congr fun x _=>?_
  unfold abvG cutG
  by_cases c : x = 2 * i
  · rw [if_pos c,if_pos c,ite_self]
  · rw [if_neg c,if_neg c]
 refine .congr (f:=fun k=>(r4Members.f k l).bind fun ms=>r4Remove.j0 k l (i : Int) (decide ((ms.length : Int) < 2))) (fun k=>?_) (hms.bind ?_)
 · unfold r4Remove.f
   rw [hfb,Option.bind_some,if_pos rfl]
 · rw [ints_len,decide_eq_false (by omega)]
   refine .succ (f:=fun k=>(r4above.f k l (i : Int)).bind fun t=>if 2 * (i : Int) < (t.length : Int) then r4Remove.l0 k (t.set (2 * i) z29) else none) (fun k=>?_) (hab.bind ?_)
   · rw [r4Remove.j0,if_neg (by decide),wrap_id (by omega),show (2 * (i : Int)).toNat = 2 * i by omega]
     simp only [if_pos (show 0≤2 * (i : Int) by omega)]
     rfl
   · rw [mkT_len,e]
     exact .congr (fun k=>by rw [if_pos (by omega)]) (rshrink m hm ht)
theorem rremove_one {l : List S29} {m : Nat} {i : Int} (hm : m≤5) (h : l.length = 2 * 2 ^ m - 1) (hc : fullB l (2 ^ m) i = true→(fullN l 0 (2 ^ m)).length = 1) : Evr (fun k=>r4Remove.f k l i) ([],40):=by
 have hp:=pow_le32 hm;have hms:=rmembers_ev h hp.1 (by omega);have hj : Evr (fun k=>r4Remove.j0 k l i true) ([],40):=.succ (f:=fun _=>some (([] : List S29),40)) (fun k=>by rw [r4Remove.j0,if_pos rfl]) (.const fun _=>rfl)
 by_cases c : fullB l (2 ^ m) i = true
 · refine .congr (f:=fun k=>(r4Members.f k l).bind fun ms=>r4Remove.j0 k l i (decide ((ms.length : Int) < 2))) (fun k=>?_) (hms.bind ?_)
   · unfold r4Remove.f
     rw [(full_same h hp.1 (by omega) _).1,c,Option.bind_some,if_pos rfl]
   · rw [ints_len,hc c]
     exact hj
 · refine .congr (f:=fun k=>r4Remove.j0 k l i true) (fun k=>?_) hj
   unfold r4Remove.f;rw [(full_same h hp.1 (by omega) _).1,Option.bind_some,if_neg c]
end Go.Proofs.YtbblomnhobodkaaDoor.Pure
set_option linter.unusedVariables false
set_option linter.unusedSimpArgs false
namespace Go.Proofs.YtbblomnhobodkaaDoor.Pure
open Go.RowKit Go.Proofs.YtbblomnhobodkaaDoor Go.Proofs.YtbblomnhobodkaaDoor.PTw Go.Proofs.YtbblomnhobodkaaDoorW.PW
theorem RG.lateSm {g : Nat→S29} {m : Nat} (h : RG g m) (x : Nat) : (g x).f5.length≤100∧∀ y ∈ (g x).f5,0≤y∧y≤100:=by
 have:=h.lates x
 exact ⟨by omega,fun y hy=>by have:=this.1 y hy;omega⟩
theorem RT.lateSm {l : List S29} {m : Nat} (h : RT l m) : LateSm l:=⟨fun x=>(h.rg.lateSm x).1,fun x=>(h.rg.lateSm x).2⟩
set_option maxRecDepth 100000 in
theorem copN_fin : ∀ m : Fin 6,∀ i : Fin 32,i.val < 2 ^ m.val→∀ x ∈ copN i.val m.val,x < 2 * 2 ^ m.val - 1:=by decide +kernel
theorem copN_lt {m i x : Nat} (hm : m≤5) (hi : i < 2 ^ m) (h : x ∈ copN i m) : x < 2 * 2 ^ m - 1:=by
 have hp:=pow_le32 hm;exact copN_fin ⟨m,by omega⟩ ⟨i,by omega⟩ hi x h
def filtL (l : List S29) : List Nat→List Nat→List (Nat × Nat)
 | p :: P,c :: C=>if 0 < (resN l (lvN c) c).length then (p,c) :: filtL l P C else filtL l P C
 | _,_=>[]
theorem filtL_sub {l : List S29} : ∀ (P C : List Nat),((filtL l P C).map Prod.fst).Sublist P
 | [],C=>by unfold filtL;simp
 | p :: P,[]=>by unfold filtL;simp
 | p :: P,c :: C=>by
  unfold filtL
  split
  · exact (filtL_sub P C).cons_cons p
  · exact (filtL_sub P C).cons p
theorem filtL_sub2 {l : List S29} : ∀ (P C : List Nat),((filtL l P C).map Prod.snd).Sublist C
 | [],C=>by unfold filtL;simp
 | p :: P,[]=>by unfold filtL;simp
 | p :: P,c :: C=>by
  unfold filtL
  split
  · exact (filtL_sub2 P C).cons_cons c
  · exact (filtL_sub2 P C).cons c
theorem tfilt_l0 {l : List S29} {m : Nat} (hR : RT l m) (P C : List Nat) (he : P.length = C.length) (hl : C.length≤1000) (hC : ∀ c ∈ C,c < 2 * 2 ^ m - 1) : ∀ (d j : Nat) (a b : List Nat),d + j = C.length→a.length≤j→b.length≤j→
 Evr (fun k=>tree_Filtered.l0 k l (ints a) (ints b) (ints P) (ints C) ((ints C).length : Int) (j : Int)) (ints (a ++ (filtL l (P.drop j) (C.drop j)).map Prod.fst),ints (b ++ (filtL l (P.drop j) (C.drop j)).map Prod.snd))∧
 Evr (fun k=>r4Filtered.l0 k l (ints a) (ints b) (ints P) (ints C) (j : Int)) (ints (a ++ (filtL l (P.drop j) (C.drop j)).map Prod.fst),ints (b ++ (filtL l (P.drop j) (C.drop j)).map Prod.snd)):=by
 intro d
 induction d with
 | zero=>
  intro j a b hd _ _;rw [List.drop_eq_nil_of_le (by omega),List.drop_eq_nil_of_le (by omega)];refine ⟨.succ (f:=fun _=>some (ints a,ints b)) (fun k=>by rw [tree_Filtered.l0,if_neg (by rw [ints_len];omega)]) (.const fun _=>?_),.succ (f:=fun _=>some (ints a,ints b)) (fun k=>by rw [r4Filtered.l0,ints_len,if_neg (by omega)]) (.const fun _=>?_)⟩
  · simp [filtL]
  · simp [filtL]
 | succ d ih=>
  intro j a b hd ha hb
  have hj : j < C.length:=by omega
  have hjP : j < P.length:=by omega
  have hc:=hC _ (List.getElem_mem hj);have h1:=tres_ev hR.hm hR.len hR.lateSm (lvN C[j]) C[j] rfl (by rw [hR.len];exact hc);have h2:=rres_ev hR.hm hR.len hR.lateSm (x:=C[j]) (by rw [hR.len];exact hc)
  have et : ∀ k,tree_Filtered.l0 (k + 1) l (ints a) (ints b) (ints P) (ints C) ((ints C).length : Int) (j : Int) = (tree_Resolution.f k l (C[j] : Int)).bind fun t=>if (t.length : Int) > 0 then tree_Filtered.l0 k l (ints (a ++ [P[j]])) (ints (b ++ [C[j]])) (ints P) (ints C) ((ints C).length : Int) ((j + 1 : Nat) : Int) else tree_Filtered.l0 k l (ints a) (ints b) (ints P) (ints C) ((ints C).length : Int) ((j + 1 : Nat) : Int):=fun k=>by
   rw [tree_Filtered.l0,ints_len,if_pos (by omega),if_pos (by omega),if_pos (by omega),ints_at hj,ints_at hjP,wrap_id (by omega),show (j : Int) + 1 = ((j + 1 : Nat) : Int) by omega,ints_len,ints_len,ints_len,if_pos (show (j : Int) < (P.length : Int) by omega),if_pos (show a.length < 17592186044416 by omega),if_pos (show b.length < 17592186044416 by omega),ints_append,ints_append]
   rfl
  have er : ∀ k,r4Filtered.l0 (k + 1) l (ints a) (ints b) (ints P) (ints C) (j : Int) = (r4Resolution.f k l (C[j] : Int)).bind fun t=>if (t.length : Int) > 0 then r4Filtered.l0 k l (ints (a ++ [P[j]])) (ints (b ++ [C[j]])) (ints P) (ints C) ((j + 1 : Nat) : Int) else r4Filtered.l0 k l (ints a) (ints b) (ints P) (ints C) ((j + 1 : Nat) : Int):=fun k=>by
   rw [r4Filtered.l0,ints_len,if_pos (by omega),if_pos (by omega),ints_len,if_pos (by omega),ints_at hj,ints_at hjP,wrap_id (by omega),show (j : Int) + 1 = ((j + 1 : Nat) : Int) by omega,ints_len,ints_len,if_pos (show a.length < 17592186044416 by omega),if_pos (show b.length < 17592186044416 by omega),ints_append,ints_append]
   rfl
  rw [List.drop_eq_getElem_cons hj,List.drop_eq_getElem_cons hjP];unfold filtL
  by_cases c : 0 < (resN l (lvN C[j]) C[j]).length
  · rw [if_pos c,List.map_cons,List.map_cons]
    obtain ⟨i1,i2⟩:=ih (j + 1) (a ++ [P[j]]) (b ++ [C[j]]) (by omega) (by simp;omega) (by simp;omega);rw [List.append_assoc,List.append_assoc] at i1 i2;refine ⟨.succ et (h1.bind (.congr (fun k=>by rw [if_pos (by omega)]) i1)),.succ er (h2.bind (.congr (fun k=>by rw [if_pos (by omega)]) i2))⟩
  · rw [if_neg c]
    obtain ⟨i1,i2⟩:=ih (j + 1) a b (by omega) (by omega) (by omega);refine ⟨.succ et (h1.bind (.congr (fun k=>by rw [if_neg (by omega)]) i1)),.succ er (h2.bind (.congr (fun k=>by rw [if_neg (by omega)]) i2))⟩
def fP (l : List S29) (i m : Nat) : List Nat:=(filtL l (pathN i m) (copN i m)).map Prod.fst
def fC (l : List S29) (i m : Nat) : List Nat:=(filtL l (pathN i m) (copN i m)).map Prod.snd
theorem fP_sub (l : List S29) (i m : Nat) : (fP l i m).Sublist (pathN i m):=filtL_sub _ _
theorem fC_sub (l : List S29) (i m : Nat) : (fC l i m).Sublist (copN i m):=filtL_sub2 _ _
theorem fP_len (l : List S29) (i m : Nat) : (fP l i m).length≤m:=by
 have:=(fP_sub l i m).length_le
 simpa [pathN] using this
def filtR (l : List S29) (m : Nat) (i : Int) : List Nat × List Nat:=if 0≤i∧i < ((2 ^ m : Nat) : Int) then (fP l i.toNat m,fC l i.toNat m) else ([],[])
theorem cop_at {m i : Nat} (hm : m≤5) (hi : i < 2 ^ m) : heap_Copath.f (2 * (i : Int)) ((2 ^ m : Nat) : Int) = some (ints (copN i m),0)∧Evr (fun k=>r3Path.f k (2 * (i : Int)) ((2 ^ m : Nat) : Int)) (ints (pathN i m))∧Evr (fun k=>r3Copath.f k (2 * (i : Int)) ((2 ^ m : Nat) : Int)) (ints (copN i m)):=by
 have hp:=pow_le32 hm;obtain ⟨h1,h2,h3⟩:=cop_fin ⟨m,by omega⟩ ⟨i,by omega⟩ hi;exact ⟨h1,.of_mono (K:=100) (fun k a h=>r3Path.mono _ _ k _ h) h2,.of_mono (K:=100) (fun k a h=>r3Copath.mono _ _ k _ h) h3⟩
theorem filt_ev {l : List S29} {m : Nat} (hR : RT l m) (i : Int) : Evr (fun k=>tree_Filtered.f k l i) (ints (filtR l m i).1,ints (filtR l m i).2)∧Evr (fun k=>r4Filtered.f k l i) (ints (filtR l m i).1,ints (filtR l m i).2):=by
 have hm:=hR.hm;have hp:=pow_le32 hm;have h:=hR.len;unfold filtR tree_Filtered.f r4Filtered.f;simp only [(leaves_at h hp.1 (by omega)).1,(leaves_at h hp.1 (by omega)).2,Option.bind_some];have tj : Evr (fun k=>tree_Filtered.j0 k l i [] [] ((2 ^ m : Nat) : Int) true) (ints [],ints []):=.succ (f:=fun _=>some (([] : List Int),([] : List Int))) (fun k=>by rw [tree_Filtered.j0,if_pos rfl]) (.const fun _=>rfl);have rj : Evr (fun k=>r4Filtered.j0 k l i [] [] true) (ints [],ints []):=.succ (f:=fun _=>some (([] : List Int),([] : List Int))) (fun k=>by rw [r4Filtered.j0,if_pos rfl]) (.const fun _=>rfl)
 by_cases c1 : i < 0
 · simp only [if_pos c1,if_neg (show ¬ (0≤i∧i < ((2 ^ m : Nat) : Int)) by omega)]
   exact ⟨tj,rj⟩
 · by_cases c2 : i < ((2 ^ m : Nat) : Int)
   · obtain ⟨n,rfl⟩ : ∃ n : Nat,i = (n : Int):=⟨i.toNat,by omega⟩
     have hn : n < 2 ^ m:=by omega
     simp only [if_neg c1,if_pos (show 0≤(n : Int)∧(n : Int) < ((2 ^ m : Nat) : Int) by omega),Int.toNat_natCast];obtain ⟨hc,hp3,hc3⟩:=cop_at hm hn;have hpa:=path_at hm hn
     have hlen : (pathN n m).length = (copN n m).length:=by simp [pathN,copN]
     obtain ⟨f1,f2⟩:=tfilt_l0 hR (pathN n m) (copN n m) hlen (by simp [copN];omega) (fun c hc=>copN_lt hm hn hc) (copN n m).length 0 [] [] (by omega) (by simp) (by simp);rw [List.drop_zero,List.drop_zero,List.nil_append,List.nil_append] at f1 f2;rw [decide_eq_false (show ¬ (n : Int)≥((2 ^ m : Nat) : Int) by omega)];refine ⟨.succ (f:=fun k=>tree_Filtered.l0 k l [] [] (ints (pathN n m)) (ints (copN n m)) ((ints (copN n m)).length : Int) 0) (fun k=>?_) f1,.succ (f:=fun k=>(r3Path.f k (2 * (n : Int)) ((2 ^ m : Nat) : Int)).bind fun t=>(r3Copath.f k (2 * (n : Int)) ((2 ^ m : Nat) : Int)).bind fun u=>r4Filtered.l0 k l [] [] t u 0) (fun k=>?_) (hp3.bind (hc3.bind f2))⟩
     · rw [tree_Filtered.j0,if_neg (by decide),wrap_id (by omega),hpa,Option.bind_some,hc,Option.bind_some]
     · rw [r4Filtered.j0,if_neg (by decide),(leaves_at h hp.1 (by omega)).1,Option.bind_some,wrap_id (by omega)]
   · simp only [if_neg c1,if_neg (show ¬ (0≤i∧i < ((2 ^ m : Nat) : Int)) by omega),decide_eq_true (show i≥((2 ^ m : Nat) : Int) by omega)]
     exact ⟨tj,rj⟩
theorem keys_ev {l : List S29} {m : Nat} (hR : RT l m) (o : Int) (i : Int) (b : Bool) (key c s h : Int) (late : List Int) (more : Int) : Evr (fun k=>w4keys.f k l o i b key c s h late more) (List.replicate ((((filtR l m i).1.length : Nat) : Int) + (if -40≤more∧more≤40 then more else 0)).toNat key):=by
 have hm:=hR.hm
 have hlen : (filtR l m i).1.length≤5:=by
  unfold filtR
  split
  · have:=fP_len l i.toNat m;show (fP l i.toNat m).length≤5;omega
  · simp
 have hl0 : ∀ (q : Int),q≤1000→∀ (d j : Nat),(d : Int) + j = q∨(d = 0∧q < (j : Int))→Evr (fun k=>w4keys.l0 k q (List.replicate j key) (j : Int) o i b key c s h late more) (List.replicate (j + d) key):=by
  intro q hq d
  induction d with
  | zero=>
   intro j hd;exact .succ (f:=fun _=>some (List.replicate j key)) (fun k=>by rw [w4keys.l0,if_neg (by omega)]) (.const fun _=>rfl)
  | succ d ih=>
   intro j hd
   have:=ih (j + 1) (by omega)
   rw [show j + (d + 1) = j + 1 + d by omega];refine .succ (fun k=>?_) this;rw [w4keys.l0,if_pos (by omega),List.length_replicate,if_pos (by omega),wrap_id (by omega),← List.replicate_succ',show (j : Int) + 1 = ((j + 1 : Nat) : Int) by omega]
 have hj1 : ∀ (q : Int),q≤1000→Evr (fun k=>w4keys.j1 k q o i b key c s h late more) (List.replicate q.toNat key):=fun q hq=>by
  have:=hl0 q hq q.toNat 0 (by omega)
  rw [Nat.zero_add] at this;exact .succ (f:=fun k=>w4keys.l0 k q [] 0 o i b key c s h late more) (fun k=>by rw [w4keys.j1]) this
 refine .congr (f:=fun k=>(r4Filtered.f k l i).bind fun p=>w4keys.j0 k (p.1.length : Int) (decide (-40≤more∧more≤40)) o i b key c s h late more) (fun k=>?_) ((filt_ev hR i).2.bind ?_)
 · unfold w4keys.f
   congr 1
   funext p
   by_cases c1 : more≥-40
   · rw [if_pos c1]
     congr 1
     by_cases c2 : more≤40
     · rw [decide_eq_true c2,decide_eq_true ⟨c1,c2⟩]
     · rw [decide_eq_false c2,decide_eq_false (fun hh=>c2 hh.2)]
   · rw [if_neg c1,decide_eq_false (fun hh=>c1 hh.1)]
 · rw [ints_len]
   by_cases c1 : -40≤more∧more≤40
   · rw [decide_eq_true c1,if_pos c1]
     exact .succ (fun k=>by rw [w4keys.j0,if_pos rfl,wrap_id (by omega)]) (hj1 _ (by omega))
   · rw [decide_eq_false c1,if_neg c1,Int.add_zero]
     exact .succ (fun k=>by rw [w4keys.j0,if_neg (by decide)]) (hj1 _ (by omega))
def AllKey (F : Nat→S29) : Prop:=∀ x,∃ k h : Int,F x = ⟨true,k,0,0,h,[]⟩
theorem mer_same : ∀ k p ks hs x j,r4Merge.l0 k p ks hs x j = tree_Merge.l0 k p ks hs x j:=by
 intro k
 induction k with
 | zero=>intros;rfl
 | succ k ih=>
  intro p ks hs x j;rw [r4Merge.l0,tree_Merge.l0,ih]
theorem mer_l0 (P : List Nat) (N : Nat) (hP : ∀ x ∈ P,x < N) (hN : P.Nodup) (ks hs : List Int) (hk : ks.length = P.length) (hh : hs.length = P.length) (hl : P.length≤1000) : ∀ (d j : Nat),d + j = P.length→∃ F : Nat→S29,AllKey F∧∀ g,Evr (fun k=>tree_Merge.l0 k (ints P) ks hs (mkT N g) (j : Int)) (mkT N (fun x=>if x ∈ P.drop j then F x else g x),0):=by
 intro d
 induction d with
 | zero=>
  intro j hd;refine ⟨fun _=>⟨true,0,0,0,0,[]⟩,fun _=>⟨0,0,rfl⟩,fun g=>?_⟩;refine .succ (f:=fun _=>some (mkT N g,0)) (fun k=>by rw [tree_Merge.l0,ints_len,if_neg (by omega)]) (.const fun _=>?_);rw [List.drop_eq_nil_of_le (by omega)];simp only [List.not_mem_nil,if_false]
 | succ d ih=>
  intro j hd
  have hj : j < P.length:=by omega
  have hx:=hP _ (List.getElem_mem hj)
  have mem:=fun x=>mem_cut hj (x:=x)
  have hnot : P[j] ∉ P.drop (j + 1):=by
   have:=hN
   rw [← List.take_append_drop j P,List.drop_eq_getElem_cons hj] at this
   have:=(List.nodup_append.1 this).2.1
   exact (List.nodup_cons.1 this).1
  obtain ⟨F,hF,he⟩:=ih (j + 1) (by omega);refine ⟨fun x=>if x = P[j] then ⟨true,rd ks (j : Int),0,0,rd hs (j : Int),[]⟩ else F x,fun x=>?_,fun g=>?_⟩
  · by_cases c : x = P[j]
    · exact ⟨_,_,if_pos c⟩
    · obtain ⟨a,b,h⟩:=hF x
      exact ⟨a,b,(if_neg c).trans h⟩
  · have h1:=he (fun x=>if x = P[j] then ⟨true,rd ks (j : Int),0,0,rd hs (j : Int),[]⟩ else g x)
    have e : mkT N (fun x=>if x ∈ P.drop (j + 1) then F x else if x = P[j] then (⟨true,rd ks (j : Int),0,0,rd hs (j : Int),[]⟩ : S29) else g x) = mkT N (fun x=>if x ∈ P.drop j then (if x = P[j] then (⟨true,rd ks (j : Int),0,0,rd hs (j : Int),[]⟩ : S29) else F x) else g x):=mkT_congr fun x _=>by
     by_cases c1 : x = P[j]
     · rw [if_neg (by rw [c1];exact hnot),if_pos c1,if_pos ((mem x).2 (.inl c1)),if_pos c1]
     · by_cases c2 : x ∈ P.drop (j + 1)
       · rw [if_pos c2,if_pos ((mem x).2 (.inr c2)),if_neg c1]
       · rw [if_neg c2,if_neg c1,if_neg (fun hh=>((mem x).1 hh).elim c1 c2)]
    rw [e] at h1;refine .succ (fun k=>?_) h1;rw [tree_Merge.l0,ints_len,if_pos (by omega),if_pos (by omega),if_pos (by omega),if_pos (by omega),ints_at hj,if_pos (by omega),mkT_len,if_pos (by omega),Int.toNat_natCast,mkT_set,wrap_id (by omega),show (j : Int) + 1 = ((j + 1 : Nat) : Int) by omega]
theorem merge_ev {l : List S29} {m i : Nat} (hR : RT l m) (hi : i < 2 ^ m) (hf : (VX l (2 * i)).f0 = true) (f0 : Bool) (f1 f2 f3 f4 : Int) (l5 ks hs : List Int) (hk : ks.length = (fP l i m).length) (hh : hs.length = (fP l i m).length) : ∃ F : Nat→S29,AllKey F∧
 Evr (fun k=>tree_Merge.f k l (i : Int) f0 f1 f2 f3 f4 l5 ks hs) (mkT (2 * 2 ^ m - 1) (merG (VX l) i m ⟨true,f1,f2,f3,f4,[]⟩ (fun x=>if x ∈ fP l i m then F x else z29)),0)∧
 Evr (fun k=>r4Merge.f k l (i : Int) f0 f1 f2 f3 f4 l5 ks hs) (mkT (2 * 2 ^ m - 1) (merG (VX l) i m ⟨true,f1,f2,f3,f4,[]⟩ (fun x=>if x ∈ fP l i m then F x else z29)),0):=by
 have hm:=hR.hm;have h:=hR.len;have hp:=pow_le32 hm;have hok:=pathN_ok hm hi
 have h5 : ∀ v ∈ l,v.f5.length < 17592186044416:=fun v hv=>by have:=hR.l5 v hv;omega
 have hfl:=filt_ev hR (i : Int)
 have hfr : filtR l m (i : Int) = (fP l i m,fC l i m):=by unfold filtR;rw [if_pos (by omega),Int.toNat_natCast]
 rw [hfr] at hfl
 have hPsub : ∀ x ∈ fP l i m,x ∈ pathN i m:=fun x hx=>(fP_sub l i m).subset hx
 obtain ⟨F,hF,he⟩:=mer_l0 (fP l i m) (2 * 2 ^ m - 1) (fun x hx=>(hok.2 x (hPsub x hx)).2) ((fP_sub l i m).nodup hok.1) ks hs hk hh (by have:=fP_len l i m;omega) (fP l i m).length 0 (by omega);refine ⟨F,hF,?_⟩;have h1:=he (fun x=>if x ∈ pathN i m then z29 else if x = 2 * i then (⟨true,f1,f2,f3,f4,[]⟩ : S29) else VX l x);rw [List.drop_zero] at h1
 have e : mkT (2 * 2 ^ m - 1) (fun x=>if x ∈ fP l i m then F x else if x ∈ pathN i m then z29 else if x = 2 * i then (⟨true,f1,f2,f3,f4,[]⟩ : S29) else VX l x) = mkT (2 * 2 ^ m - 1) (merG (VX l) i m ⟨true,f1,f2,f3,f4,[]⟩ (fun x=>if x ∈ fP l i m then F x else z29)):=mkT_congr fun x _=>by
  unfold merG
  by_cases c1 : x ∈ fP l i m
  · rw [if_pos c1,if_pos (hPsub x c1)]
    exact (if_pos c1).symm
  · rw [if_neg c1]
    by_cases c2 : x ∈ pathN i m
    · rw [if_pos c2,if_pos c2]
      exact (if_neg c1).symm
    · rw [if_neg c2,if_neg c2]
 rw [e] at h1
 constructor
 · have hcl:=clean_ev hm hi (fun x=>if x = 2 * i then (⟨true,f1,f2,f3,f4,[]⟩ : S29) else VX l x)
   have e2 : l.set (2 * i) (⟨true,f1,f2,f3,f4,[]⟩ : S29) = mkT (2 * 2 ^ m - 1) (fun x=>if x = 2 * i then (⟨true,f1,f2,f3,f4,[]⟩ : S29) else VX l x):=by
    conv=>lhs;rw [mkT_self l]
    rw [mkT_set,h]
   rw [← e2] at hcl;refine .congr (fun k=>?_) (hfl.1.bind (f:=fun k p=>if ks.length = p.1.length∧hs.length = p.1.length then ((tree_copied.f k l).bind fun t2=>if 0≤(wrap64 (2 * (i : Int))) then (if (wrap64 (2 * (i : Int))) < (t2.length : Int) then ((tree_clean.f k (t2.set ((wrap64 (2 * (i : Int))) : Int).toNat (⟨true,f1,f2,f3,f4,([] : List Int)⟩ : S29)) (i : Int)).bind fun t3=>tree_Merge.l0 k p.1 ks hs t3 0) else none) else none) else some (([] : List S29),30)) (.congr (fun k=>?_) (hcl.bind (f:=fun k t3=>tree_Merge.l0 k (ints (fP l i m)) ks hs t3 0) h1)))
   · unfold tree_Merge.f
     rw [(full_same h hp.1 (by omega) _).2,full_at hm h hi,hf,Option.bind_some,if_pos rfl]
   · rw [ints_len,if_pos (And.intro hk hh),copied_at k (by omega) h5,Option.bind_some,wrap_id (by omega),if_pos (by omega),if_pos (by omega),show (2 * (i : Int)).toNat = 2 * i by omega]
 · have hab:=above_ev hm h hi h5
   have e2 : (mkT (2 * 2 ^ m - 1) (abvG l i m)).set (2 * i) (⟨true,f1,f2,f3,f4,[]⟩ : S29) = mkT (2 * 2 ^ m - 1) (fun x=>if x ∈ pathN i m then z29 else if x = 2 * i then (⟨true,f1,f2,f3,f4,[]⟩ : S29) else VX l x):=by
    rw [mkT_set]
    refine mkT_congr fun x _=>?_
    unfold abvG
    by_cases c : x = 2 * i
    · have hn : x ∉ pathN i m:=fun hh=>by have:=path_odd hm hi hh;omega
      rw [if_pos c,if_neg hn,if_pos c]
    · rw [if_neg c,if_neg c]
   refine .congr (fun k=>?_) (hfl.2.bind (f:=fun k p=>if ks.length = p.1.length∧hs.length = p.1.length then ((r4above.f k l (i : Int)).bind fun t2=>if 0≤(wrap64 (2 * (i : Int))) then (if (wrap64 (2 * (i : Int))) < (t2.length : Int) then r4Merge.l0 k p.1 ks hs (t2.set ((wrap64 (2 * (i : Int))) : Int).toNat (⟨true,f1,f2,f3,f4,([] : List Int)⟩ : S29)) 0 else none) else none) else some (([] : List S29),30)) (.congr (fun k=>?_) (hab.bind (f:=fun k t2=>if 0≤(wrap64 (2 * (i : Int))) then (if (wrap64 (2 * (i : Int))) < (t2.length : Int) then r4Merge.l0 k (ints (fP l i m)) ks hs (t2.set ((wrap64 (2 * (i : Int))) : Int).toNat (⟨true,f1,f2,f3,f4,([] : List Int)⟩ : S29)) 0 else none) else none) (.congr (fun k=>?_) h1))))
   · unfold r4Merge.f
     rw [(full_same h hp.1 (by omega) _).1,full_at hm h hi,hf,Option.bind_some,if_pos rfl]
   · rw [ints_len,if_pos (And.intro hk hh)]
   · rw [wrap_id (by omega),if_pos (by omega),mkT_len,if_pos (by omega),show (2 * (i : Int)).toNat = 2 * i by omega,e2,mer_same]
     rfl
theorem merge_bad {l : List S29} {m i : Nat} (hR : RT l m) (hi : i < 2 ^ m) (hf : (VX l (2 * i)).f0 = true) (f0 : Bool) (f1 f2 f3 f4 : Int) (l5 ks hs : List Int) (hk : ¬ (ks.length = (fP l i m).length∧hs.length = (fP l i m).length)) :
 Evr (fun k=>tree_Merge.f k l (i : Int) f0 f1 f2 f3 f4 l5 ks hs) ([],30)∧Evr (fun k=>r4Merge.f k l (i : Int) f0 f1 f2 f3 f4 l5 ks hs) ([],30):=by
 have hm:=hR.hm;have h:=hR.len;have hp:=pow_le32 hm;have hfl:=filt_ev hR (i : Int)
 have hfr : filtR l m (i : Int) = (fP l i m,fC l i m):=by unfold filtR;rw [if_pos (by omega),Int.toNat_natCast]
 rw [hfr] at hfl
 constructor
 · refine .congr (fun k=>?_) (hfl.1.bind (f:=fun k p=>if ks.length = p.1.length∧hs.length = p.1.length then ((tree_copied.f k l).bind fun t2=>if 0≤(wrap64 (2 * (i : Int))) then (if (wrap64 (2 * (i : Int))) < (t2.length : Int) then ((tree_clean.f k (t2.set ((wrap64 (2 * (i : Int))) : Int).toNat (⟨true,f1,f2,f3,f4,([] : List Int)⟩ : S29)) (i : Int)).bind fun t3=>tree_Merge.l0 k p.1 ks hs t3 0) else none) else none) else some (([] : List S29),30)) (r:=([],30)) (.const fun k=>by rw [ints_len];simp only [if_neg hk]))
   unfold tree_Merge.f;rw [(full_same h hp.1 (by omega) _).2,full_at hm h hi,hf,Option.bind_some,if_pos rfl]
 · refine .congr (fun k=>?_) (hfl.2.bind (f:=fun k p=>if ks.length = p.1.length∧hs.length = p.1.length then ((r4above.f k l (i : Int)).bind fun t2=>if 0≤(wrap64 (2 * (i : Int))) then (if (wrap64 (2 * (i : Int))) < (t2.length : Int) then r4Merge.l0 k p.1 ks hs (t2.set ((wrap64 (2 * (i : Int))) : Int).toNat (⟨true,f1,f2,f3,f4,([] : List Int)⟩ : S29)) 0 else none) else none) else some (([] : List S29),30)) (r:=([],30)) (.const fun k=>by rw [ints_len];simp only [if_neg hk]))
   unfold r4Merge.f;rw [(full_same h hp.1 (by omega) _).1,full_at hm h hi,hf,Option.bind_some,if_pos rfl]
theorem merge_none {l : List S29} {m : Nat} {i : Int} (hR : RT l m) (hf : fullB l (2 ^ m) i = false) (f0 : Bool) (f1 f2 f3 f4 : Int) (l5 ks hs : List Int) : Evr (fun k=>tree_Merge.f k l i f0 f1 f2 f3 f4 l5 ks hs) ([],40)∧Evr (fun k=>r4Merge.f k l i f0 f1 f2 f3 f4 l5 ks hs) ([],40):=by
 have hm:=hR.hm;have h:=hR.len;have hp:=pow_le32 hm;refine ⟨.const fun k=>?_,.const fun k=>?_⟩
 · unfold tree_Merge.f
   rw [(full_same h hp.1 (by omega) _).2,hf,Option.bind_some,if_neg (by decide)]
 · unfold r4Merge.f
   rw [(full_same h hp.1 (by omega) _).1,hf,Option.bind_some,if_neg (by decide)]
end Go.Proofs.YtbblomnhobodkaaDoor.Pure
set_option linter.unusedVariables false
set_option linter.unusedSimpArgs false
namespace Go.Proofs.YtbblomnhobodkaaDoor.Pure
open Go.RowKit Go.Proofs.YtbblomnhobodkaaDoor Go.Proofs.YtbblomnhobodkaaDoor.PTw Go.Proofs.YtbblomnhobodkaaDoorW.PW
theorem first_free {bs : Nat→Bool} {n : Nat} (h : bs n = false) : ∃ w,w≤n∧(∀ j,j < w→bs j = true)∧bs w = false:=by
 have h2 : ∀ q,(∀ j,j < q→bs j = true)∨∃ w,w < q∧(∀ j,j < w→bs j = true)∧bs w = false:=by
  intro q
  induction q with
  | zero=>exact .inl fun j hj=>by omega
  | succ q ih=>
   rcases ih with h1 | ⟨w,h1,h2⟩
   · cases hq : bs q with
     | false=>exact .inr ⟨q,by omega,h1,hq⟩
     | true=>
      refine .inl fun j hj=>?_
      rcases Nat.lt_or_ge j q with h | h
      · exact h1 j h
      · rw [show j = q by omega];exact hq
   · exact .inr ⟨w,by omega,h2⟩
 rcases h2 (n + 1) with h1 | ⟨w,h1,h2⟩
 · rw [h1 n (by omega)] at h;cases h
 · exact ⟨w,by omega,h2⟩
section
variable {l : List S29} {m : Nat}
theorem add_cases (hR : RT l m) : (∃ i m',((i < 2 ^ m∧m' = m)∨(i = 2 ^ m∧m' = m + 1∧m'≤5))∧i≤2 ^ m∧i < 2 ^ m'∧m'≤5∧(∀ j,j < i→(VX l (2 * j)).f0 = true)∧(VX l (2 * i)).f0 = false∧(∀ leaf,aLeaf leaf→RT (addL l i m' leaf) m')∧
      ∀ (f0 : Bool) (f1 f2 f3 f4 : Int) (l5 : List Int),Evr (fun k=>tree_Add.f k l f0 f1 f2 f3 f4 l5) (addL l i m' ⟨true,f1,f2,f3,f4,[]⟩,(i : Int),0)∧Evr (fun k=>r4Add.f k l f0 f1 f2 f3 f4 l5) (addL l i m' ⟨true,f1,f2,f3,f4,[]⟩,(i : Int),0))∨
 (m = 5∧(∀ j,j < 32→(VX l (2 * j)).f0 = true)∧∀ (f0 : Bool) (f1 f2 f3 f4 : Int) (l5 : List Int),Evr (fun k=>tree_Add.f k l f0 f1 f2 f3 f4 l5) ([],0,41)∧Evr (fun k=>r4Add.f k l f0 f1 f2 f3 f4 l5) ([],0,41)):=by
 have hm:=hR.hm;have hp:=pow_le32 hm;obtain ⟨i,hi,hfull,hfree⟩:=first_free (bs:=fun j=>(VX l (2 * j)).f0) (n:=2 ^ m) (by show (VX l (2 * 2 ^ m)).f0 = false;rw [hR.rg.out _ (by omega)];rfl)
 have go : ∀ m',((i < 2 ^ m∧m' = m)∨(i = 2 ^ m∧m' = m + 1∧m'≤5))→i < 2 ^ m'→m'≤5→(∃ i m',((i < 2 ^ m∧m' = m)∨(i = 2 ^ m∧m' = m + 1∧m'≤5))∧i≤2 ^ m∧i < 2 ^ m'∧m'≤5∧(∀ j,j < i→(VX l (2 * j)).f0 = true)∧(VX l (2 * i)).f0 = false∧(∀ leaf,aLeaf leaf→RT (addL l i m' leaf) m')∧
  ∀ (f0 : Bool) (f1 f2 f3 f4 : Int) (l5 : List Int),Evr (fun k=>tree_Add.f k l f0 f1 f2 f3 f4 l5) (addL l i m' ⟨true,f1,f2,f3,f4,[]⟩,(i : Int),0)∧Evr (fun k=>r4Add.f k l f0 f1 f2 f3 f4 l5) (addL l i m' ⟨true,f1,f2,f3,f4,[]⟩,(i : Int),0)):=fun m' hc h1 h2=>
  ⟨i,m',hc,hi,h1,h2,hfull,hfree,fun leaf hL=>RT.of (hR.rg.add hL hfree hc),fun f0 f1 f2 f3 f4 l5=>⟨add_ev hm hR.len hR.lateOk hi hfull (fun _=>hfree) hc f0 f1 f2 f3 f4 l5,radd_ev hR hi hfull hfree hc f0 f1 f2 f3 f4 l5⟩⟩
 by_cases c : i < 2 ^ m
 · exact .inl (go m (.inl ⟨c,rfl⟩) c hm)
 · have e : i = 2 ^ m:=by omega
   by_cases c5 : m = 5
   · subst c5
     have h32 : i = 32:=e;subst h32;exact .inr ⟨rfl,hfull,fun f0 f1 f2 f3 f4 l5=>⟨add_none hR.len hfull f0 f1 f2 f3 f4 l5,radd_none hR.len hR.l5 hfull f0 f1 f2 f3 f4 l5⟩⟩
   · exact .inl (go (m + 1) (.inr ⟨e,rfl,by omega⟩) (by rw [Nat.pow_succ];omega) (by omega))
theorem upd_rt (hR : RT l m) {i : Nat} (hi : i < 2 ^ m) {leaf : S29} (hL : aLeaf leaf) : RT (updL l i m leaf) m:=RT.of (hR.rg.lay hL OkF.none hi)
theorem other_one {L : List Nat} {i : Nat} (hn : L.Nodup) (hi : i ∈ L) (hc : L.length≠1) : ∃ j ∈ L,j≠i:=by
 rcases Classical.em (∃ j ∈ L,j≠i) with h | h
 · exact h
 · exfalso
   have e:=List.eq_replicate_of_mem (a:=i) (l:=L) (fun b hb=>Classical.byContradiction fun hne=>h ⟨b,hb,hne⟩);rw [e] at hn
   have:=List.nodup_replicate.1 hn
   have:=List.length_pos_of_mem hi
   omega
theorem fullN_mem {j n : Nat} : j ∈ fullN l 0 n↔j < n∧(VX l (2 * j)).f0 = true:=by
 unfold fullN;rw [List.mem_filter,List.mem_range'_1];exact ⟨fun h=>⟨by omega,h.2⟩,fun h=>⟨by omega,h.2⟩⟩
theorem fullN_nodup {n : Nat} : (fullN l 0 n).Nodup:=(List.nodup_range' (step:=1)).filter _
theorem cut_full (hR : RT l m) {i : Nat} (hi : i < 2 ^ m) (j : Nat) : (cutG l i m (2 * j)).f0 = if j = i then false else (VX l (2 * j)).f0:=by
 unfold cutG;rw [if_neg (path_even hR.hm hi)]
 by_cases c : j = i
 · rw [if_pos c,if_pos (by omega)];rfl
 · rw [if_neg c,if_neg (by omega)]
theorem rem_cases (hR : RT l m) {i : Nat} (hi : i < 2 ^ m) (hf : (VX l (2 * i)).f0 = true) (hc : (fullN l 0 (2 ^ m)).length≠1) : ∃ m',Tops (cutG l i m) m m'∧RT (mkT (2 * 2 ^ m' - 1) (cutG l i m)) m'∧Evr (fun k=>tree_Remove.f k l (i : Int)) (mkT (2 * 2 ^ m' - 1) (cutG l i m),0)∧Evr (fun k=>r4Remove.f k l (i : Int)) (mkT (2 * 2 ^ m' - 1) (cutG l i m),0):=by
 have hm:=hR.hm;obtain ⟨j,hj,hne⟩:=other_one fullN_nodup (fullN_mem.2 ⟨hi,hf⟩) hc;obtain ⟨hj1,hj2⟩:=fullN_mem.1 hj
 obtain ⟨m',h1,h2,h3⟩:=tops_any (g:=cutG l i m) ⟨j,by rw [cut_full hR hi,if_neg hne];exact hj2⟩ m (fun q hq=>by
  rw [cut_full hR hi] at hq
  by_cases c : q = i
  · rw [if_pos c] at hq;cases hq
  · rw [if_neg c] at hq
    rcases Nat.lt_or_ge q (2 ^ m) with h | h
    · exact h
    · rw [hR.rg.out _ (by omega)] at hq;cases hq)
 have ht : Tops (cutG l i m) m m':=⟨h1,fun q hq1 hq2=>by
  cases hh : (cutG l i m (2 * q)).f0 with
  | false=>rfl
  | true=>have:=h2 q hh;omega,h3⟩
 refine ⟨m',ht,?_,remove_ev hm hR.len hR.lateOk hi hf hc ht,rremove_ev hm hR.len hR.lateOk hi hf hc ht⟩;rw [rem_mk];exact RT.of (hR.rg.rem hi ht)
theorem rem_no (hR : RT l m) {i : Int} (hc : fullB l (2 ^ m) i = true→(fullN l 0 (2 ^ m)).length = 1) : Evr (fun k=>tree_Remove.f k l i) ([],40)∧Evr (fun k=>r4Remove.f k l i) ([],40):=⟨remove_one hR.hm hR.len hc,rremove_one hR.hm hR.len hc⟩
theorem okF_of {F : Nat→S29} {P : List Nat} (h : AllKey F) : OkF (fun x=>if x ∈ P then F x else z29):=fun x=>by
 by_cases c : x ∈ P
 · exact .inr ⟨_,_,(if_pos c).trans (h x).choose_spec.choose_spec⟩
 · exact .inl (if_neg c)
theorem mer_rt (hR : RT l m) {i : Nat} (hi : i < 2 ^ m) {leaf : S29} (hL : aLeaf leaf) {F : Nat→S29} (hF : OkF F) : RT (mkT (2 * 2 ^ m - 1) (merG (VX l) i m leaf F)) m:=RT.of (hR.rg.lay hL hF hi)
theorem mer_both (hR : RT l m) (i : Int) (f0 : Bool) (f1 f2 f3 f4 : Int) (l5 ks : List Int) : ∃ r e,(e = 0→RT r m)∧(e≠0→r = [])∧Evr (fun k=>tree_Merge.f k l i f0 f1 f2 f3 f4 l5 ks ks) (r,e)∧Evr (fun k=>r4Merge.f k l i f0 f1 f2 f3 f4 l5 ks ks) (r,e):=by
 have hp:=pow_le32 hR.hm
 cases hf : fullB l (2 ^ m) i with
 | false=>
  obtain ⟨h1,h2⟩:=merge_none hR hf f0 f1 f2 f3 f4 l5 ks ks;exact ⟨[],40,(fun h=>by cases h),fun _=>rfl,h1,h2⟩
 | true=>
  have hb:=fullB_lt hf
  obtain ⟨n,rfl⟩ : ∃ n : Nat,i = (n : Int):=⟨i.toNat,by omega⟩
  have hn : n < 2 ^ m:=by omega
  rw [full_at hR.hm hR.len hn] at hf
  by_cases hk : ks.length = (fP l n m).length
  · obtain ⟨F,hF,h1,h2⟩:=merge_ev hR hn hf f0 f1 f2 f3 f4 l5 ks ks hk hk
    exact ⟨_,0,fun _=>mer_rt hR hn ⟨rfl,rfl⟩ (okF_of hF),fun h=>absurd rfl h,h1,h2⟩
  · obtain ⟨h1,h2⟩:=merge_bad hR hn hf f0 f1 f2 f3 f4 l5 ks ks (fun hh=>hk hh.1)
    exact ⟨[],30,(fun h=>by cases h),fun _=>rfl,h1,h2⟩
theorem upd_both (hR : RT l m) (i : Int) (f0 : Bool) (f1 f2 f3 f4 : Int) (l5 : List Int) : ∃ r e,(e = 0→RT r m)∧(e≠0→r = [])∧Evr (fun k=>tree_Update.f k l i f0 f1 f2 f3 f4 l5) (r,e)∧Evr (fun k=>r4Update.f k l i f0 f1 f2 f3 f4 l5) (r,e):=by
 have hp:=pow_le32 hR.hm
 cases hf : fullB l (2 ^ m) i with
 | false=>
  obtain ⟨h1,h2⟩:=update_none hR.hm hR.len hf f0 f1 f2 f3 f4 l5;exact ⟨[],40,(fun h=>by cases h),fun _=>rfl,h1,h2⟩
 | true=>
  have hb:=fullB_lt hf
  obtain ⟨n,rfl⟩ : ∃ n : Nat,i = (n : Int):=⟨i.toNat,by omega⟩
  have hn : n < 2 ^ m:=by omega
  rw [full_at hR.hm hR.len hn] at hf;exact ⟨_,0,fun _=>upd_rt hR hn ⟨rfl,rfl⟩,fun h=>absurd rfl h,tupdate_ev hR.hm hR.len hR.lateOk hn hf f0 f1 f2 f3 f4 l5,rupdate_ev hR.hm hR.len hR.lateOk hn hf f0 f1 f2 f3 f4 l5⟩
theorem rem_both (hR : RT l m) (i : Int) : ∃ r e m',(e = 0→RT r m')∧(e≠0→r = [])∧Evr (fun k=>tree_Remove.f k l i) (r,e)∧Evr (fun k=>r4Remove.f k l i) (r,e):=by
 have hp:=pow_le32 hR.hm
 by_cases hc : fullB l (2 ^ m) i = true→(fullN l 0 (2 ^ m)).length = 1
 · obtain ⟨h1,h2⟩:=rem_no hR hc
   exact ⟨[],40,0,(fun h=>by cases h),fun _=>rfl,h1,h2⟩
 · have hf : fullB l (2 ^ m) i = true:=Classical.byContradiction fun h=>hc fun h'=>absurd h' h
   have hc1 : (fullN l 0 (2 ^ m)).length≠1:=fun h=>hc fun _=>h
   have hb:=fullB_lt hf
   obtain ⟨n,rfl⟩ : ∃ n : Nat,i = (n : Int):=⟨i.toNat,by omega⟩
   have hn : n < 2 ^ m:=by omega
   rw [full_at hR.hm hR.len hn] at hf;obtain ⟨m',ht,h1,h2,h3⟩:=rem_cases hR hn hf hc1;exact ⟨_,0,m',fun _=>h1,fun h=>absurd rfl h,h2,h3⟩
theorem add_both (hR : RT l m) (f0 : Bool) (f1 f2 f3 f4 : Int) (l5 : List Int) : ∃ r i e m',(e = 0→RT r m')∧(e≠0→r = [])∧Evr (fun k=>tree_Add.f k l f0 f1 f2 f3 f4 l5) (r,i,e)∧Evr (fun k=>r4Add.f k l f0 f1 f2 f3 f4 l5) (r,i,e):=by
 rcases add_cases hR with ⟨i,m',_,_,_,_,_,_,hrt,h⟩ | ⟨_,_,h⟩
 · obtain ⟨h1,h2⟩:=h f0 f1 f2 f3 f4 l5
   exact ⟨_,_,0,m',fun _=>hrt _ ⟨rfl,rfl⟩,fun h=>absurd rfl h,h1,h2⟩
 · obtain ⟨h1,h2⟩:=h f0 f1 f2 f3 f4 l5
   exact ⟨[],0,41,0,(fun h=>by cases h),fun _=>rfl,h1,h2⟩
end
theorem one_rt (f1 f2 f3 f4 : Int) : RT [(⟨true,f1,f2,f3,f4,[]⟩ : S29)] 0:=by
 have h0 : ∀ x,x≠0→VX [(⟨true,f1,f2,f3,f4,[]⟩ : S29)] x = z29:=fun x hx=>VX_out (by simp;omega)
 refine ⟨rfl,⟨by decide,fun x hx=>h0 x (by simp at hx;omega),fun x hx=>?_,fun x hx=>?_,fun x hx=>?_,fun x=>?_,fun x y hy=>?_,⟨0,by simp,by simp,rfl⟩⟩⟩
 · by_cases c : x = 0
   · subst c;cases hx
   · exact h0 x c
 · by_cases c : x = 0
   · subst c;rfl
   · rw [h0 x c];rfl
 · rw [h0 x (by omega)];exact ⟨rfl,rfl⟩
 · by_cases c : x = 0
   · subst c;exact List.Pairwise.nil
   · rw [h0 x c];exact List.Pairwise.nil
 · by_cases c : x = 0
   · subst c;cases hy
   · rw [h0 x c] at hy;cases hy
theorem RT.pos {l : List S29} {m : Nat} (h : RT l m) : 0 < l.length:=by
 have:=pow_le32 h.hm
 rw [h.len];omega
end Go.Proofs.YtbblomnhobodkaaDoor.Pure
