/- What this claim reaches of a longer text of this session. -/
import Derived.OrdersHeld
import Derived.Orders
import Derived.Tactics
set_option linter.unusedVariables false
set_option linter.unusedSimpArgs false
namespace Go.Mix
def QF : Exit → Act → World → Prop := fun _ _ _ => False
section
variable {P : Program} {ops : Array Oper} {S : World → Prop} {Q : Exit → Act → World → Prop}
def step (P : Program) (ops : Array Oper) (S : World → Prop) (f : Nat) (o : Oper) (K : Act → World → Prop) (a : Act) (w : World) : Prop :=
  match f with
  | 0 => if Region.wanted o (yielded ops a.tmps) then o.wp P a w (fun a' w' => S w' ∧ K a' w') QF else K (a.put o.dst undef) w
  | 1 => ∃ v, YieldsIf P ops S o v a ∧ K (a.put o.dst v) w
  | 2 => ∃ v, YieldsIf P ops (fun w' => w' = w) o v a ∧ K (a.put o.dst v) w
  | _ => if Region.wanted o (yielded ops a.tmps) then o.wp P a w K QF else K (a.put o.dst undef) w
abbrev It := Nat × Nat × Oper   -- flag, place, operation
def walk (P : Program) (ops : Array Oper) (S : World → Prop) (Q : Exit → Act → World → Prop) : List It → Act → World → Prop
  | [], a, w => Q .normal a w
  | (f, _, o) :: rest, a, w => step P ops S f o (walk P ops S Q rest) a w
theorem wp_some {o : Oper} {a : Act} {w : World} {K : Act → World → Prop} (h : o.wp P a w K QF) : ∃ a' w', K a' w' := by
  unfold Oper.wp at h
  generalize (execOp a.eval o).run P w = r at h
  cases r with
  | ok n w' =>
    cases n <;> simp only [Oper.upon] at h
    case value u => exact ⟨_, _, h⟩
    case skip => exact ⟨_, _, h⟩
    case defer d => exact ⟨_, _, h⟩
    case enter f args =>
      obtain ⟨e, w'', fr, hR, _⟩ := h []
      cases e with
      | returned v => exact ⟨_, _, hR⟩
      | panicked c => exact hR.elim
      | outgrown => obtain ⟨_, _, h⟩ := hR; exact h.elim
    case row row args =>
      obtain ⟨v, w'', hR, _⟩ := h default []
      exact ⟨_, _, hR⟩
  | halt x w' =>
    cases x <;> simp only [Oper.upon] at h
    case panic u => exact h.elim
theorem yields_one {o : Oper} {v u : Value} {a : Act} {w : World} {S' : World → Prop} (hS : S w) (hS' : S' w) (h : YieldsIf P ops S o v a) (k : YieldsIf P ops S' o u a) : v = u := by
  rcases h with ⟨hw, hv⟩ | ⟨hw, rfl⟩ <;> rcases k with ⟨kw, kv⟩ | ⟨kw, rfl⟩
  · have h1 := hv w hS; have h2 := kv w hS'
    rw [h1] at h2; cases h2; rfl
  · rw [hw] at kw; cases kw
  · rw [hw] at kw; cases kw
  · rfl
theorem yields_put {o : Oper} {v : Value} {a : Act} {d : Option Tmp} {u : Value} (hs : ∀ cs b, o.op ≠ .select cs b) (h : ∀ t, d = some t → t ∉ o.looksAt ops) :
    YieldsIf P ops S o v (a.put d u) ↔ YieldsIf P ops S o v a := by
  unfold YieldsIf
  rw [execOp_put o hs a d u h, wanted_put o a d u h]
theorem wp_put {x : Oper} {a : Act} {w : World} {d : Option Tmp} {v : Value} {K K' : Act → World → Prop} (hs : ∀ cs b, x.op ≠ .select cs b)
    (h1 : ∀ t, d = some t → t ∉ x.looksAt ops) (h2 : ∀ t, d = some t → x.dst ≠ some t)
    (hK : ∀ (u : Value) (ds : List Deferred) w', K (({ a with defers := ds } : Act).put x.dst u |>.put d v) w' → K' (({ a with defers := ds } : Act).put x.dst u) w')
    (h : x.wp P (a.put d v) w K QF) : x.wp P a w K' QF := by
  unfold Oper.wp at *
  rw [execOp_put x hs a d v h1] at h
  have e0 : ∀ u, (a.put d v).put x.dst u = (a.put x.dst u).put d v := fun u => Act.put_comm a v u h2
  generalize (execOp a.eval x).run P w = r at *
  cases r with
  | ok n w' =>
    cases n <;> simp only [Oper.upon] at h ⊢
    case value u => rw [e0] at h; exact hK u a.defers w' h
    case skip => rw [e0] at h; exact hK undef a.defers w' h
    case defer q =>
      have e1 : ({ a.put d v with defers := q :: (a.put d v).defers } : Act).put x.dst undef = (({ a with defers := q :: a.defers } : Act).put x.dst undef).put d v := by
        rw [Act.put_defers, Act.put_comm _ v undef h2]
      rw [e1] at h
      exact hK undef (q :: a.defers) w' h
    case enter f args =>
      refine Calls.mono h fun e w'' he => ?_
      cases e with
      | returned u => simp only [e0] at he; exact hK u a.defers w'' he
      | panicked c => exact he
      | outgrown => exact he
    case row row args => exact Rows.mono h fun u w'' he => by rw [e0] at he; exact hK u a.defers w'' he
  | halt x w' =>
    cases x <;> simp only [Oper.upon] at h ⊢
    case panic u => exact h
theorem wp_unput {x : Oper} {a : Act} {w : World} {d : Option Tmp} {v : Value} {K K' : Act → World → Prop} (hs : ∀ cs b, x.op ≠ .select cs b)
    (h1 : ∀ t, d = some t → t ∉ x.looksAt ops) (h2 : ∀ t, d = some t → x.dst ≠ some t)
    (hK : ∀ (u : Value) (ds : List Deferred) w', K (({ a with defers := ds } : Act).put x.dst u) w' → K' ((({ a with defers := ds } : Act).put x.dst u).put d v) w')
    (h : x.wp P a w K QF) : x.wp P (a.put d v) w K' QF := by
  unfold Oper.wp at *
  rw [execOp_put x hs a d v h1]
  have e0 : ∀ u, (a.put d v).put x.dst u = (a.put x.dst u).put d v := fun u => Act.put_comm a v u h2
  generalize (execOp a.eval x).run P w = r at *
  cases r with
  | ok n w' =>
    cases n <;> simp only [Oper.upon] at h ⊢
    case value u => rw [e0]; exact hK u a.defers w' h
    case skip => rw [e0]; exact hK undef a.defers w' h
    case defer q =>
      have e1 : ({ a.put d v with defers := q :: (a.put d v).defers } : Act).put x.dst undef = (({ a with defers := q :: a.defers } : Act).put x.dst undef).put d v := by
        rw [Act.put_defers, Act.put_comm _ v undef h2]
      rw [e1]
      exact hK undef (q :: a.defers) w' h
    case enter f args =>
      refine Calls.mono h fun e w'' he => ?_
      cases e with
      | returned u => simp only [e0]; exact hK u a.defers w'' he
      | panicked c => exact he
      | outgrown => exact he
    case row row args => exact Rows.mono h fun u w'' he => by rw [e0]; exact hK u a.defers w'' he
  | halt x w' =>
    cases x <;> simp only [Oper.upon] at h ⊢
    case panic u => exact h
theorem wp_mono' {o : Oper} {a : Act} {w : World} {K K' : Act → World → Prop} (h : ∀ a w, K a w → K' a w) (hh : o.wp P a w K QF) : o.wp P a w K' QF :=
  Oper.wp_mono h hh
def good (f g : Nat) : Bool := (f == 1 && g ≤ 2) || (g == 1 && f ≤ 2) || (f == 2 && g == 2)
theorem step_swap {f g : Nat} {y x : Oper} {K : Act → World → Prop} {a : Act} {w : World} (hg : good f g = true) (hap : y.apart ops x = true)
    (hsy : ∀ cs b, y.op ≠ .select cs b) (hsx : ∀ cs b, x.op ≠ .select cs b) (hS : S w ∨ (f = 2 ∧ g = 2))
    (h : step P ops S f y (step P ops S g x K) a w) : step P ops S g x (step P ops S f y K) a w := by
  obtain ⟨p1, p2, p3⟩ := Oper.apart_spec hap
  have p2' : ∀ t, x.dst = some t → y.dst ≠ some t := fun t ht hy => p2 t hy ht
  have two : ∀ {S1 S2 : World → Prop}, (∃ v, YieldsIf P ops S1 y v a ∧ ∃ u, YieldsIf P ops S2 x u (a.put y.dst v) ∧ K ((a.put y.dst v).put x.dst u) w) →
      ∃ u, YieldsIf P ops S2 x u a ∧ ∃ v, YieldsIf P ops S1 y v (a.put x.dst u) ∧ K ((a.put x.dst u).put y.dst v) w := by
    rintro S1 S2 ⟨v, hv, u, hu, hK⟩
    exact ⟨u, (yields_put hsx p1).1 hu, v, (yields_put hsy p3).2 hv, by rw [Act.put_comm a v u p2] at hK; exact hK⟩
  have cases3 : (f = 1 ∧ g = 0) ∨ (f = 0 ∧ g = 1) ∨ ((f = 1 ∨ f = 2) ∧ (g = 1 ∨ g = 2)) := by
    simp only [good, Bool.or_eq_true, Bool.and_eq_true, beq_iff_eq, decide_eq_true_eq] at hg
    omega
  rcases cases3 with ⟨rfl, rfl⟩ | ⟨rfl, rfl⟩ | ⟨hf, hg'⟩
  · have hSw : S w := by rcases hS with h | ⟨h, _⟩; exact h; cases h
    simp only [step] at h ⊢
    obtain ⟨v, hv, h⟩ := h
    rw [wanted_put x a y.dst v p1] at h
    split
    · rename_i hw
      simp only [hw, if_true] at h
      refine wp_put (ops := ops) hsx p1 p2 (fun u ds w' hK => ?_) h
      obtain ⟨hS', hK⟩ := hK
      exact ⟨hS', v, (yields_put hsy p3).2 hv, hK⟩
    · rename_i hw
      simp only [hw] at h
      refine ⟨v, (yields_put hsy p3).2 hv, ?_⟩
      rw [Act.put_comm a v undef p2] at h
      simpa using h
  · have hSw : S w := by rcases hS with h | ⟨h, _⟩; exact h; cases h
    simp only [step] at h ⊢
    by_cases hw : Region.wanted y (yielded ops a.tmps) = true
    · simp only [hw, if_true] at h
      -- what x yields is the same at any outcome
      have hx : ∃ u, YieldsIf P ops S x u a := by
        have h' : y.wp P a w (fun a' w' => ∃ u, YieldsIf P ops S x u a) QF := by
          have hd : y.wp P (a.put none undef) w (fun a' w' => S w' ∧ ∃ v, YieldsIf P ops S x v a' ∧ K (a'.put x.dst v) w') QF := h
          refine wp_put (ops := ops) (d := none) (v := undef) hsy (by simp) (by simp) (fun u ds w' hK => ?_) hd
          obtain ⟨_, v, hv, _⟩ := hK
          exact ⟨v, (yields_put (a := { a with defers := ds }) hsx p1).1 hv⟩
        obtain ⟨_, _, h⟩ := wp_some h'
        exact h
      obtain ⟨u, hu⟩ := hx
      refine ⟨u, hu, ?_⟩
      rw [wanted_put y a x.dst u p3]
      simp only [hw, if_true]
      refine wp_unput (ops := ops) hsy p3 p2' (fun v ds w' hK => ?_) h
      obtain ⟨hS', u', hu', hK⟩ := hK
      have hu0 : YieldsIf P ops S x u' a := (yields_put (a := { a with defers := ds }) hsx p1).1 hu'
      obtain rfl := yields_one hSw hSw hu hu0
      exact ⟨hS', hK⟩
    · simp only [hw] at h
      obtain ⟨u, hu, hK⟩ := h
      refine ⟨u, (yields_put hsx p1).1 hu, ?_⟩
      rw [wanted_put y a x.dst u p3]
      simp only [hw]
      rw [Act.put_comm a undef u p2] at hK
      simpa using hK
  · rcases hf with rfl | rfl <;> rcases hg' with rfl | rfl <;> simp only [step] at h ⊢ <;> exact two h
theorem step_mono {f : Nat} {o : Oper} {K K' : Act → World → Prop} {a : Act} {w : World} (h : ∀ a' w', (f = 0 → S w' ∨ w' = w) → (f = 1 ∨ f = 2 → w' = w) → K a' w' → K' a' w')
    (hh : step P ops S f o K a w) : step P ops S f o K' a w := by
  match f with
  | 0 =>
    simp only [step] at hh ⊢
    split
    · rename_i hw; simp only [hw, if_true] at hh; exact wp_mono' (fun a' w' ⟨h1, h2⟩ => ⟨h1, h a' w' (fun _ => .inl h1) (by simp) h2⟩) hh
    · rename_i hw; simp only [hw] at hh; exact h _ _ (fun _ => .inr rfl) (by simp) hh
  | 1 => obtain ⟨v, hv, hK⟩ := hh; exact ⟨v, hv, h _ _ (by simp) (fun _ => rfl) hK⟩
  | 2 => obtain ⟨v, hv, hK⟩ := hh; exact ⟨v, hv, h _ _ (by simp) (fun _ => rfl) hK⟩
  | n + 3 =>
    simp only [step] at hh ⊢
    split
    · rename_i hw; simp only [hw, if_true] at hh; exact wp_mono' (fun a' w' h2 => h a' w' (by simp) (by simp) h2) hh
    · rename_i hw; simp only [hw] at hh; exact h _ _ (by simp) (by simp) hh
theorem walk_front {x : It} {B : List It} (hsx : ∀ cs b, x.2.2.op ≠ .select cs b) : ∀ (A : List It) (a : Act) (w : World),
    (∀ y ∈ A, good y.1 x.1 = true ∧ y.2.2.apart ops x.2.2 = true ∧ ∀ cs b, y.2.2.op ≠ .select cs b) → (S w ∨ ∀ y ∈ A, x.1 = 2 ∧ y.1 = 2) →
    walk P ops S Q (A ++ x :: B) a w → step P ops S x.1 x.2.2 (walk P ops S Q (A ++ B)) a w := by
  intro A
  induction A with
  | nil => intro a w _ _ h; exact h
  | cons y A ih =>
    intro a w hA hS h
    obtain ⟨hg, hap, hsy⟩ := hA y (by simp)
    have hA' : ∀ z ∈ A, good z.1 x.1 = true ∧ z.2.2.apart ops x.2.2 = true ∧ ∀ cs b, z.2.2.op ≠ .select cs b := fun z hz => hA z (by simp [hz])
    have hf : y.1 = 0 ∨ y.1 = 1 ∨ y.1 = 2 := by
      simp only [good, Bool.or_eq_true, Bool.and_eq_true, beq_iff_eq, decide_eq_true_eq] at hg
      omega
    have h1 : step P ops S y.1 y.2.2 (step P ops S x.1 x.2.2 (walk P ops S Q (A ++ B))) a w := by
      refine step_mono (fun a' w' h0 h12 hK => ih a' w' hA' ?_ hK) (show step P ops S y.1 y.2.2 (walk P ops S Q (A ++ x :: B)) a w from h)
      rcases hS with hS | hy
      · rcases hf with hf | hf | hf
        · rcases h0 hf with h | h
          · exact .inl h
          · rw [h]; exact .inl hS
        · rw [h12 (.inl hf)]; exact .inl hS
        · rw [h12 (.inr hf)]; exact .inl hS
      · exact .inr fun z hz => hy z (by simp [hz])
    exact step_swap hg hap hsy hsx (hS.imp id fun hy => ⟨(hy y (by simp)).2, (hy y (by simp)).1⟩) h1
def closed (ops : Array Oper) (bs : Nat → Nat) : Bool :=
  (List.range ops.size).all fun j => (List.range j).all fun i => !(bs j).testBit i ||
    ((ops[j]?).map fun o => o.after.any fun e => Region.binds .any e && decide (e.on < j) && (e.on == i || (decide (i < e.on) && (bs e.on).testBit i))).getD false
def pairs (ops : Array Oper) (bs : Nat → Nat) (fl : Nat → Nat) : Bool :=
  (List.range ops.size).all fun j => (List.range j).all fun i => (bs j).testBit i ||
    (good (fl i) (fl j) && ((ops[i]?).bind fun x => (ops[j]?).map fun y => x.apart ops y).getD false)
def lastOk (n : Nat) (fl : Nat → Nat) : Bool :=
  (List.range n).all fun j => (List.range j).all fun i => fl i ≤ 2 || (2 ≤ fl j)
def backOnly (ops : Array Oper) : Bool :=
  (List.range ops.size).all fun j => ((ops[j]?).map fun o => o.after.all fun e => !Region.binds .any e || decide (e.on < j)).getD true
structure Ok (ops : Array Oper) (bs fl : Nat → Nat) : Prop where
  sel : Region.noSelect ops = true
  closed : closed ops bs = true
  pairs : pairs ops bs fl = true
  last : lastOk ops.size fl = true
  back : backOnly ops = true
variable {bs fl : Nat → Nat}
theorem Ok.listed_of_waits (hok : Ok ops bs fl) {listed : Array Bool} (hcl : ∀ j oj, ops[j]? = some oj → listed.getD j false = true → ∀ e ∈ oj.after, Region.binds .any e = true → listed.getD e.on false = true) :
    ∀ (j i : Nat), i < j → (bs j).testBit i = true → (∀ oj, ops[j]? = some oj → ∀ e ∈ oj.after, Region.binds .any e = true → listed.getD e.on false = true) → j < ops.size → listed.getD i false = true := by
  intro j
  induction j using Nat.strongRecOn with
  | _ j ih =>
    intro i hij hb hall hj
    have h1 := List.all_eq_true.1 hok.closed j (List.mem_range.2 hj)
    have h2 := List.all_eq_true.1 h1 i (List.mem_range.2 hij)
    simp only [hb, Bool.not_true, Bool.false_or] at h2
    have hoj : ops[j]? = some ops[j] := Array.getElem?_eq_getElem hj
    simp only [hoj, Option.map_some, Option.getD_some] at h2
    obtain ⟨e, he, h3⟩ := Array.any_eq_true'.1 h2
    simp only [Bool.and_eq_true, Bool.or_eq_true, beq_iff_eq, decide_eq_true_eq] at h3
    obtain ⟨⟨hbind, hlt⟩, h3⟩ := h3
    have hl := hall _ hoj e he hbind
    rcases h3 with h3 | ⟨hi, h3⟩
    · rw [← h3]; exact hl
    · exact ih e.on hlt i hi h3 (fun o ho e' he' hb' => hcl e.on o ho hl e' he' hb') (by omega)
def items (fl : Nat → Nat) (ops : Array Oper) (listed : Array Bool) : List It :=
  ((List.range ops.size).filter fun i => !listed.getD i true).filterMap fun i => (ops[i]?).map fun o => (fl i, i, o)
theorem filter_range_split {n : Nat} {p : Nat → Bool} {i : Nat} (hi : i < n) (hp : p i = true) :
    (List.range n).filter p = (List.range i).filter p ++ i :: ((List.range' (i + 1) (n - i - 1)).filter p) := by
  have e : List.range n = List.range i ++ i :: List.range' (i + 1) (n - i - 1) := by
    rw [List.range_eq_range', List.range_eq_range', show i :: List.range' (i + 1) (n - i - 1) = List.range' i (n - i) by
      rw [show n - i = (n - i - 1) + 1 by omega, List.range'_succ]; simp]
    rw [show List.range' i (n - i) = List.range' (0 + 1 * i) (n - i) by simp, List.range'_append]
    congr 1; omega
  rw [e, List.filter_append, List.filter_cons]
  simp [hp]
theorem listed_set {listed : Array Bool} {i j : Nat} (hi : i < listed.size) : (listed.setIfInBounds i true).getD j true = if j = i then true else listed.getD j true := by
  by_cases h : j = i
  · subst h; simp [hi]
  · simp [h, Array.getElem?_setIfInBounds_ne (Ne.symm h)]
theorem wp_weaken {o : Oper} {a : Act} {w : World} {K K' : Act → World → Prop} (h : ∀ a w, K a w → K' a w) (hh : o.wp P a w K QF) : o.wp P a w K' Q := by
  unfold Oper.wp at *
  generalize (execOp a.eval o).run P w = r at *
  cases r with
  | ok n w' =>
    cases n <;> simp only [Oper.upon] at hh ⊢
    case value u => exact h _ _ hh
    case skip => exact h _ _ hh
    case defer d => exact h _ _ hh
    case enter f args =>
      refine Calls.mono hh fun e w'' he => ?_
      cases e with
      | returned v => exact h _ _ he
      | panicked c => exact he.elim
      | outgrown => obtain ⟨_, _, h⟩ := he; exact h.elim
    case row row args => exact Rows.mono hh fun v w'' he => h _ _ he
  | halt x w' =>
    cases x <;> simp only [Oper.upon] at hh ⊢
    case panic u => exact hh.elim
theorem mem_items {listed : Array Bool} {y : It} (h : y ∈ items fl ops listed) : y.2.1 < ops.size ∧ listed.getD y.2.1 true = false ∧ y.1 = fl y.2.1 ∧ ops[y.2.1]? = some y.2.2 := by
  unfold items at h
  obtain ⟨i, hi, ho⟩ := List.mem_filterMap.1 h
  obtain ⟨hr, hl⟩ := List.mem_filter.1 hi
  have hlt := List.mem_range.1 hr
  simp only [Bool.not_eq_true'] at hl
  rw [Array.getElem?_eq_getElem hlt] at ho
  simp only [Option.map_some, Option.some.injEq] at ho
  subst ho
  exact ⟨hlt, hl, rfl, Array.getElem?_eq_getElem hlt⟩
theorem items_split {listed : Array Bool} {i : Nat} {o : Oper} (hsz : listed.size = ops.size) (ho : ops[i]? = some o) (hl : listed.getD i true = false) :
    ∃ A B, items fl ops listed = A ++ (fl i, i, o) :: B ∧ items fl ops (listed.setIfInBounds i true) = A ++ B ∧ (∀ y ∈ A, y.2.1 < i) ∧ (∀ y ∈ B, i < y.2.1) := by
  have hlt : i < ops.size := (Array.getElem?_eq_some_iff.1 ho).1
  have hli : i < listed.size := by omega
  refine ⟨((List.range i).filter fun i => !listed.getD i true).filterMap fun i => (ops[i]?).map fun o => (fl i, i, o),
    ((List.range' (i + 1) (ops.size - i - 1)).filter fun i => !listed.getD i true).filterMap fun i => (ops[i]?).map fun o => (fl i, i, o), ?_, ?_, ?_, ?_⟩
  · unfold items
    rw [filter_range_split hlt (by simp [hl]), List.filterMap_append, List.filterMap_cons]
    simp [ho]
  · unfold items
    have e : List.range ops.size = List.range i ++ i :: List.range' (i + 1) (ops.size - i - 1) := by
      have h := filter_range_split (n := ops.size) (p := fun _ => true) hlt rfl
      rw [List.filter_eq_self.2 (fun _ _ => rfl), List.filter_eq_self.2 (fun _ _ => rfl), List.filter_eq_self.2 (fun _ _ => rfl)] at h
      exact h
    rw [e, List.filter_append, List.filter_cons]
    have hs : listed.setIfInBounds i true = listed.set i true hli := by simp [Array.setIfInBounds, hli]
    rw [listed_set hli]
    simp only [if_true, Bool.not_true, Bool.false_eq_true, if_false, List.filterMap_append]
    have f1 : (List.range i).filter (fun j => !(listed.setIfInBounds i true).getD j true) = (List.range i).filter (fun j => !listed.getD j true) :=
      List.filter_congr fun j hj => by
        have := List.mem_range.1 hj
        rw [listed_set hli, if_neg (by omega)]
    have f2 : (List.range' (i + 1) (ops.size - i - 1)).filter (fun j => !(listed.setIfInBounds i true).getD j true) = (List.range' (i + 1) (ops.size - i - 1)).filter (fun j => !listed.getD j true) :=
      List.filter_congr fun j hj => by
        have := (List.mem_range'_1.1 hj).1
        rw [listed_set hli, if_neg (by omega)]
    rw [f1, f2]
  · intro y hy
    obtain ⟨k, hk, ho⟩ := List.mem_filterMap.1 hy
    have hk' := List.mem_range.1 (List.mem_filter.1 hk).1
    cases hok : ops[k]? with
    | none => simp [hok] at ho
    | some ok => simp [hok] at ho; subst ho; exact hk'
  · intro y hy
    obtain ⟨k, hk, ho⟩ := List.mem_filterMap.1 hy
    have hk' := (List.mem_range'_1.1 (List.mem_filter.1 hk).1).1
    cases hok : ops[k]? with
    | none => simp [hok] at ho
    | some ok => simp [hok] at ho; subst ho; dsimp only; omega
theorem any_of_walk (hok : Ok ops bs fl) : ∀ (n : Nat) (listed : Array Bool) (a : Act) (w : World), listed.size = ops.size →
    (items fl ops listed).length ≤ n →
    (∀ j oj, ops[j]? = some oj → listed.getD j false = true → ∀ e ∈ oj.after, Region.binds .any e = true → listed.getD e.on false = true) →
    (S w ∨ ∀ y ∈ items fl ops listed, 2 ≤ y.1) → walk P ops S Q (items fl ops listed) a w → wpAny P .any ops Q n listed a w := by
  have hsel := Region.noSelect_spec hok.sel
  -- nothing is ready only where nothing is left
  have hnil : ∀ (listed : Array Bool), listed.size = ops.size → Region.ready .any ops listed = [] → items fl ops listed = [] := by
    intro listed hsz hr
    have key : ∀ i, i < ops.size → listed.getD i true = true := by
      intro i
      induction i using Nat.strongRecOn with
      | _ i ih =>
        intro hi
        cases hl : listed.getD i true with
        | true => rfl
        | false =>
          exfalso
          have : i ∈ Region.ready .any ops listed := by
            refine mem_ready.2 ⟨hl, ops[i], Array.getElem?_eq_getElem hi, fun e he hb => ?_⟩
            have h1 := List.all_eq_true.1 hok.back i (List.mem_range.2 hi)
            rw [Array.getElem?_eq_getElem hi] at h1
            simp only [Option.map_some, Option.getD_some] at h1
            have h2 := Array.all_eq_true'.1 h1 e he
            simp only [hb, Bool.not_true, Bool.false_or, decide_eq_true_eq] at h2
            have h3 := ih e.on h2 (by omega)
            have : e.on < listed.size := by omega
            simp [this] at h3 ⊢; exact h3
          rw [hr] at this; cases this
    unfold items
    rw [List.filter_eq_nil_iff.2]
    · rfl
    · intro i hi
      simp [key i (List.mem_range.1 hi)]
  intro n
  induction n with
  | zero =>
    intro listed a w hsz hlen hcl hS h
    have h0 : items fl ops listed = [] := List.length_eq_zero_iff.1 (by omega)
    rw [h0] at h
    refine ⟨?_, h⟩
    cases hr : Region.ready .any ops listed with
    | nil => rfl
    | cons i rs =>
      exfalso
      have hi : i ∈ Region.ready .any ops listed := by rw [hr]; simp
      obtain ⟨hl, o, ho, _⟩ := mem_ready.1 hi
      obtain ⟨A, B, e, _⟩ := items_split (fl := fl) hsz ho hl
      rw [h0] at e
      simp at e
  | succ n ih =>
    intro listed a w hsz hlen hcl hS h
    refine ⟨fun hr => by rw [hnil listed hsz hr] at h; exact h, fun i hi => ?_⟩
    obtain ⟨hl, o, ho, hall⟩ := mem_ready.1 hi
    have hlt : i < ops.size := (Array.getElem?_eq_some_iff.1 ho).1
    obtain ⟨A, B, e1, e2, hA, hB⟩ := items_split (fl := fl) hsz ho hl
    have hso := hsel i o
    have hgood : ∀ y ∈ A, good y.1 (fl i) = true ∧ y.2.2.apart ops o = true ∧ ∀ cs b, y.2.2.op ≠ .select cs b := by
      intro y hy
      obtain ⟨hy1, hy2, hy3, hy4⟩ := mem_items (fl := fl) (ops := ops) (listed := listed) (y := y) (by rw [e1]; simp [hy])
      have hlt' := hA y hy
      have h1 := List.all_eq_true.1 hok.pairs i (List.mem_range.2 hlt)
      have h2 := List.all_eq_true.1 h1 y.2.1 (List.mem_range.2 hlt')
      simp only [Bool.or_eq_true, Bool.and_eq_true] at h2
      rcases h2 with h2 | ⟨h2, h3⟩
      · exfalso
        have h4 := hok.listed_of_waits hcl i y.2.1 hlt' h2 (fun oj hoj e he hb => by
          have : oj = o := Option.some.inj (hoj.symm.trans ho)
          subst this; exact hall e he hb) hlt
        have : y.2.1 < listed.size := by omega
        simp [this] at h4 hy2
        rw [h4] at hy2; cases hy2
      · rw [hy4, ho] at h3
        exact ⟨by rw [hy3]; exact h2, by simpa using h3, fun cs b => hsel y.2.1 y.2.2 cs b hy4⟩
    rw [e1] at h hS hlen
    have hfront := walk_front (x := (fl i, i, o)) (B := B) (fun cs b => hso cs b ho) A a w hgood
      (hS.imp id fun hy y hyA => by
        have h1 := hy y (by simp [hyA])
        have h2 := hy (fl i, i, o) (by simp)
        have h3 := (hgood y hyA).1
        simp only [good, Bool.or_eq_true, Bool.and_eq_true, beq_iff_eq, decide_eq_true_eq] at h3
        dsimp only at h2 ⊢
        omega) h
    -- what is asked behind it
    have hsz' : (listed.setIfInBounds i true).size = ops.size := by simp [hsz]
    have hli : i < listed.size := by omega
    have hcl' : ∀ j oj, ops[j]? = some oj → (listed.setIfInBounds i true).getD j false = true → ∀ e ∈ oj.after, Region.binds .any e = true → (listed.setIfInBounds i true).getD e.on false = true := by
      intro j oj hj hlj e he hb
      by_cases hij : i = j
      · subst hij
        have : oj = o := Option.some.inj (hj.symm.trans ho)
        subst this
        exact getD_set_true (hall e he hb)
      · rw [getD_set_ne false hij] at hlj
        exact getD_set_true (hcl j oj hj hlj e he hb)
    have next : ∀ a' w', (S w' ∨ ∀ y ∈ A ++ B, 2 ≤ y.1) → walk P ops S Q (A ++ B) a' w' → wpAny P .any ops Q n (listed.setIfInBounds i true) a' w' := by
      intro a' w' hS' h'
      refine ih _ a' w' hsz' ?_ hcl' (by rw [e2]; exact hS') (by rw [e2]; exact h')
      rw [e2]
      simp only [List.length_append, List.length_cons] at hlen ⊢
      omega
    have keep : (S w ∨ ∀ y ∈ A ++ B, 2 ≤ y.1) := hS.imp id fun hy y hyA => hy y (by
      rcases List.mem_append.1 hyA with h | h <;> simp [h])
    have lastB : 3 ≤ fl i → ∀ y ∈ A ++ B, 2 ≤ y.1 := by
      intro h3 y hy
      rcases List.mem_append.1 hy with hyA | hyB
      · have h4 := (hgood y hyA).1
        simp only [good, Bool.or_eq_true, Bool.and_eq_true, beq_iff_eq, decide_eq_true_eq] at h4
        omega
      · obtain ⟨hy1, hy2, hy3, hy4⟩ := mem_items (fl := fl) (ops := ops) (listed := listed) (y := y) (by rw [e1]; simp [hyB])
        have h5 := List.all_eq_true.1 hok.last y.2.1 (List.mem_range.2 hy1)
        have h6 := List.all_eq_true.1 h5 i (List.mem_range.2 (hB y hyB))
        simp only [Bool.or_eq_true, decide_eq_true_eq] at h6
        rw [hy3]; omega
    dsimp only at hfront
    generalize hfi : fl i = f at hfront lastB
    match f, hfront, lastB with
    | 0, hfront, _ =>
      simp only [step] at hfront
      unfold wpOp
      simp only [ho]
      split
      · rename_i hw
        simp only [hw, if_true] at hfront
        exact .inl (wp_weaken (fun a' w' ⟨h1, h2⟩ => next a' w' (.inl h1) h2) hfront)
      · rename_i hw
        simp only [hw] at hfront
        exact next _ _ keep (by simpa using hfront)
    | 1, hfront, _ =>
      obtain ⟨v, hv, hK⟩ := hfront
      have hSw : S w := by
        rcases hS with h | h
        · exact h
        · have := h (fl i, i, o) (by simp)
          dsimp only at this; omega
      exact hv.wpOp ho hSw (next _ _ keep hK)
    | 2, hfront, _ =>
      obtain ⟨v, hv, hK⟩ := hfront
      exact hv.wpOp ho rfl (next _ _ keep hK)
    | m + 3, hfront, lastB =>
      simp only [step] at hfront
      unfold wpOp
      simp only [ho]
      have hb := lastB (by omega)
      split
      · rename_i hw
        simp only [hw, if_true] at hfront
        exact .inl (wp_weaken (fun a' w' h2 => next a' w' (.inr hb) h2) hfront)
      · rename_i hw
        simp only [hw] at hfront
        exact next _ _ (.inr hb) (by simpa using hfront)
def whole (fl : Nat → Nat) (k : Nat) : List Oper → List It
  | [] => []
  | o :: l => (fl k, k, o) :: whole fl (k + 1) l
theorem items_whole : ∀ (l : List Oper) (k : Nat), (∀ j, l[j]? = ops[k + j]?) →
    ((List.range' k l.length).filterMap fun i => (ops[i]?).map fun o => (fl i, i, o)) = whole fl k l := by
  intro l
  induction l with
  | nil => intro k _; rfl
  | cons o l ih =>
    intro k h
    have h0 : ops[k]? = some o := by simpa using (h 0).symm
    have ih' := ih (k + 1) (fun j => by have := h (j + 1); simpa [Nat.add_assoc, Nat.add_comm 1 j] using this)
    simp only [List.length_cons, List.range'_succ, List.filterMap_cons, h0, Option.map_some, whole, ih']
theorem wp_region_mix {id : Nat} {a : Act} {w : World} {l : List Oper} (S : World → Prop) (bs fl : Nat → Nat) (hm : P.follows .mixedOrders = true) (hok : Ok l.toArray bs fl)
    (hS : S w.drew) (h : walk P l.toArray S Q (whole fl 0 l) a w.drew) : (Code.region id l.toArray true).wp P Q a w := by
  refine wp_region_any hm (any_of_walk (S := S) hok _ _ a _ (by simp) ?_ ?_ (.inl hS) ?_)
  · unfold items
    refine Nat.le_trans (List.length_filterMap_le _ _) (Nat.le_trans (List.length_filter_le _ _) ?_)
    simp
  · intro j oj _ hl
    rw [show (Array.replicate l.toArray.size false).getD j false = false by
      rcases Nat.lt_or_ge j l.length with h | h <;> simp [h]] at hl
    cases hl
  · have e : items fl l.toArray (Array.replicate l.toArray.size false) = whole fl 0 l := by
      rw [← items_whole (ops := l.toArray) l 0 (by simp)]
      unfold items
      rw [List.filter_eq_self.2]
      · simp [List.range_eq_range']
      · intro i hi
        have := List.mem_range.1 hi
        simp at this
        simp [this]
    rw [e]; exact h
def ValOnly : Sem Next → Prop
  | .pure (.value _) => True
  | .pure _ => False
  | .load _ _ k => ∀ v, ValOnly (k v)
  | .store _ _ _ k => ValOnly k
  | .new _ k => ∀ r, ValOnly (k r)
  | .shape _ k => ∀ s, ValOnly (k s)
  | .freeze _ _ k => ValOnly k
  | .frozen _ k => ∀ b, ValOnly (k b)
  | .getObj _ k => ∀ o, ValOnly (k o)
  | .setObj _ _ k => ValOnly k
  | .choose _ k => ∀ n, ValOnly (k n)
  | .sys _ k => ∀ r, ValOnly (k r)
  | .program k => ∀ p, ValOnly (k p)
  | .mark _ k => ValOnly k
  | .halt _ => True
theorem valOnly_bind {α : Type} (s : Sem α) (f : α → Sem Next) (h : ∀ x, ValOnly (f x)) : ValOnly (s.bind f) := by
  induction s <;> simp_all [Sem.bind, ValOnly]
theorem valOnly_run {s : Sem Next} (h : ValOnly s) : ∀ {w w' : World} {n : Next}, s.run P w = .ok n w' → ∃ v, n = .value v := by
  induction s with
  | pure a =>
    intro w w' n hr
    cases a <;> first | (simp [ValOnly] at h; done) | (simp only [Sem.run, Result.ok.injEq] at hr; exact ⟨_, hr.1.symm⟩)
  | load m a k ih =>
    intro w w' n hr; simp only [Sem.run] at hr
    split at hr
    · exact ih _ (h _) hr
    · split at hr
      · exact ih _ (h _) hr
      · cases hr
  | store m a v k ih =>
    intro w w' n hr
    have h' : ValOnly k := h
    unfold Sem.run at hr
    split at hr <;> simp_all
    split at hr
    · split at hr
      · cases hr
      · exact ih hr
    · split at hr
      · exact ih hr
      · cases hr
  | new o k ih => intro w w' n hr; simp only [Sem.run] at hr; exact ih _ (h _) hr
  | shape r k ih => intro w w' n hr; simp only [Sem.run] at hr; exact ih _ (h _) hr
  | freeze a m k ih => intro w w' n hr; simp only [Sem.run] at hr; exact ih h hr
  | frozen a k ih => intro w w' n hr; simp only [Sem.run] at hr; exact ih _ (h _) hr
  | getObj r k ih =>
    intro w w' n hr; simp only [Sem.run] at hr
    split at hr
    · cases hr
    · exact ih _ (h _) hr
    · cases hr
  | setObj r o k ih =>
    intro w w' n hr; simp only [Sem.run] at hr
    split at hr
    · cases hr
    · exact ih h hr
    · cases hr
  | choose q k ih =>
    intro w w' n hr; simp only [Sem.run] at hr
    split at hr
    · exact ih _ (h _) hr
    · exact ih _ (h _) hr
  | sys c k ih => intro w w' n hr; simp only [Sem.run] at hr; exact ih _ (h _) hr
  | program k ih => intro w w' n hr; simp only [Sem.run] at hr; exact ih _ (h _) hr
  | mark m k ih => intro w w' n hr; simp only [Sem.run] at hr; exact ih h hr
  | halt x => intro w w' n hr; simp [Sem.run] at hr
def plain : Op → Bool
  | .move _ | .assign _ | .pick .. | .load .. | .fieldAddr .. | .field .. | .unOp .. | .binOp .. | .extract .. | .indexAddr .. | .index .. | .lookup ..
  | .makeInterface .. | .makeFunc .. | .convert .. | .slice .. | .build .. => true
  | .nilCheck _ => true
  | .call { callee := .builtin .len, .. } | .call { callee := .builtin .cap, .. } | .call { callee := .builtin .max, .. } | .call { callee := .builtin .min, .. } => true
  | _ => false
theorem valOnly_value (s : Sem Value) : ValOnly (do pure (.value (← s))) := valOnly_bind s _ fun _ => trivial
theorem valOnly_plain {o : Oper} (h : plain o.op = true) (ρ : Operand → Value) : ValOnly (execOp ρ o) := by
  obtain ⟨dst, op, type, pos, after, guard⟩ := o
  cases op <;> simp only [plain] at h <;> first | cases h | skip
  case nilCheck x =>
    simp only [execOp]
    split
    · exact valOnly_bind _ _ fun _ => trivial
    · exact valOnly_bind _ _ fun _ => trivial
    · exact valOnly_bind _ _ fun _ => trivial
    · split
      · exact valOnly_bind _ _ fun _ => trivial
      · refine valOnly_bind _ _ fun _ => valOnly_bind _ _ fun _ => ?_
        split
        · exact valOnly_bind _ _ fun _ => trivial
        · trivial
      · trivial
    · trivial
  case call c =>
    obtain ⟨callee, args, argTypes⟩ := c
    cases callee with
    | value f => simp at h
    | invoke r m => simp at h
    | builtin b => cases b <;> first | (simp at h; done) | exact valOnly_value _
  all_goals first | trivial | exact valOnly_value _ | (simp only [execOp]; exact valOnly_bind _ _ fun _ => trivial)
theorem walk_cons {f k : Nat} {o : Oper} {rest : List It} {a : Act} {w : World} (h : ∀ K : Act → World → Prop, (∀ a w, walk P ops S Q rest a w → K a w) → step P ops S f o K a w) :
    walk P ops S Q ((f, k, o) :: rest) a w := h _ fun _ _ h => h
theorem walk_nil {a : Act} {w : World} (h : Q .normal a w) : walk P ops S Q [] a w := h
theorem walk_pin {k : Nat} {o : Oper} {rest : List It} {a : Act} {w : World} (hp : plain o.op = true) (hw : Region.wanted o (yielded ops a.tmps) = true)
    (h : ∀ K : Act → World → Prop, (∀ a', walk P ops S Q rest a' w → K a' w) → o.wp P a w K QF) : walk P ops S Q ((2, k, o) :: rest) a w := by
  refine walk_cons fun K hK => ?_
  have h1 := h (fun a' w' => w' = w ∧ K a' w) (fun a' h => ⟨rfl, hK a' w h⟩)
  simp only [step]
  have hv := valOnly_plain hp a.eval
  unfold Oper.wp at h1
  cases hr : (execOp a.eval o).run P w with
  | ok n w' =>
    obtain ⟨v, rfl⟩ := valOnly_run hv hr
    rw [hr] at h1
    simp only [Oper.upon] at h1
    obtain ⟨rfl, h1⟩ := h1
    exact ⟨v, .inl ⟨hw, fun w'' hw'' => by rw [hw'']; exact hr⟩, h1⟩
  | halt x w' =>
    rw [hr] at h1
    cases x <;> simp only [Oper.upon] at h1
    exact h1.elim
theorem walk_pass2 {k : Nat} {o : Oper} {rest : List It} {a : Act} {w : World} (hw : Region.wanted o (yielded ops a.tmps) = false)
    (h : walk P ops S Q rest (a.put o.dst undef) w) : walk P ops S Q ((2, k, o) :: rest) a w := ⟨undef, .inr ⟨hw, rfl⟩, h⟩
theorem walk_last {k : Nat} {o : Oper} {rest : List It} {a : Act} {w : World} (hw : Region.wanted o (yielded ops a.tmps) = true)
    (h : ∀ K : Act → World → Prop, (∀ a' w', walk P ops S Q rest a' w' → K a' w') → o.wp P a w K QF) : walk P ops S Q ((3, k, o) :: rest) a w := by
  refine walk_cons fun K hK => ?_
  simp only [step]
  rw [if_pos hw]
  exact h _ hK
theorem wanted_none {o : Oper} {f : Nat → Option Bool} (h : o.guard = none) : Region.wanted o f = true := by simp [Region.wanted, h]
theorem wanted_yes {o : Oper} {tmps : Array Value} {j d : Nat} {b : Bool} (h : o.guard = some (j, b)) (hd : (ops[j]?).bind (·.dst) = some d) (hb : tmps[d]? = some (.bool b)) :
    Region.wanted o (yielded ops tmps) = true := by
  cases ho : ops[j]? with
  | none => rw [ho] at hd; cases hd
  | some oj =>
    rw [ho] at hd
    simp only [Option.bind_some] at hd
    simp [Region.wanted, h, yielded, ho, hd, hb]
theorem wanted_not {o : Oper} {tmps : Array Value} {j d : Nat} {b : Bool} (h : o.guard = some (j, b)) (hd : (ops[j]?).bind (·.dst) = some d) (hb : tmps[d]? = some (.bool (!b))) :
    Region.wanted o (yielded ops tmps) = false := by
  cases ho : ops[j]? with
  | none => rw [ho] at hd; cases hd
  | some oj =>
    rw [ho] at hd
    simp only [Option.bind_some] at hd
    simp [Region.wanted, h, yielded, ho, hd, hb]
theorem pin_no {k : Nat} {o : Oper} {rest : List It} {a : Act} {w : World} (hg : o.guard = none) (hp : plain o.op = true)
    (h : ∀ K : Act → World → Prop, (∀ a', walk P ops S Q rest a' w → K a' w) → o.wp P a w K QF) : walk P ops S Q ((2, k, o) :: rest) a w := walk_pin hp (wanted_none hg) h
theorem pin_yes {k : Nat} {o : Oper} {rest : List It} {a : Act} {w : World} {j d : Nat} {b : Bool} (hg : o.guard = some (j, b)) (hd : (ops[j]?).bind (·.dst) = some d) (hb : a.tmps[d]? = some (.bool b)) (hp : plain o.op = true)
    (h : ∀ K : Act → World → Prop, (∀ a', walk P ops S Q rest a' w → K a' w) → o.wp P a w K QF) : walk P ops S Q ((2, k, o) :: rest) a w := walk_pin hp (wanted_yes hg hd hb) h
theorem pin_not {k : Nat} {o : Oper} {rest : List It} {a : Act} {w : World} {j d t : Nat} {b : Bool} (hg : o.guard = some (j, b)) (hd : (ops[j]?).bind (·.dst) = some d) (hb : a.tmps[d]? = some (.bool (!b))) (ht : o.dst = some t)
    (h : ∀ K : Act → World → Prop, (∀ a', walk P ops S Q rest a' w → K a' w) → K { tmps := a.tmps.setIfInBounds t undef, defers := a.defers } w) : walk P ops S Q ((2, k, o) :: rest) a w :=
  walk_pass2 (wanted_not hg hd hb) (by rw [ht]; exact h (fun a' _ => walk P ops S Q rest a' w) (fun a' h => h))
theorem last_no {k : Nat} {o : Oper} {rest : List It} {a : Act} {w : World} (hg : o.guard = none)
    (h : ∀ K : Act → World → Prop, (∀ a' w', walk P ops S Q rest a' w' → K a' w') → o.wp P a w K QF) : walk P ops S Q ((3, k, o) :: rest) a w :=
  walk_last (wanted_none hg) h
end
end Go.Mix
