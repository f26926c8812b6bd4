/- The program's store of terms in memory. -/
import Derived.Test.YtlppagjnnlmnmaaBase
import Derived.Test.YtlppagjnnlmnmaaPure
import Derived.Laws.StructEq
import Derived.MapKept
set_option linter.unusedVariables false
set_option linter.unusedSimpArgs false
namespace Go.Proofs.Ytlppagjnnlmnmaa
open Go.RowKit

def Nd.cells (n : Nd) : List Value := [.int .i64 n.kind, .string n.label, .int .i64 n.a, .int .i64 n.b]
def Nd.v (n : Nd) : Value := .agg #[.int .i64 n.kind, .string n.label, .int .i64 n.a, .int .i64 n.b]
theorem Nd.v_eq (n : Nd) : n.v = .agg n.cells.toArray := rfl

def flat (l : List Nd) : List Value := l.flatMap Nd.cells

theorem flat_nil : flat [] = [] := rfl
theorem flat_append (a b : List Nd) : flat (a ++ b) = flat a ++ flat b := by simp [flat]
theorem flat_one (n : Nd) : flat [n] = n.cells := by simp [flat]
theorem flat_length (l : List Nd) : (flat l).length = 4 * l.length := by
  induction l with
  | nil => rfl
  | cons x l ih => rw [show x :: l = [x] ++ l from rfl, flat_append, List.length_append, ih, flat_one]; simp [Nd.cells]; omega

theorem flat_get (l : List Nd) (i : Nat) (h : i < l.length) (j : Nat) (hj : j < 4) : (flat l)[4 * i + j]? = (l[i]).cells[j]? := by
  induction l generalizing i with
  | nil => simp at h
  | cons x l ih =>
    have hx : flat (x :: l) = x.cells ++ flat l := by rw [show x :: l = [x] ++ l from rfl, flat_append, flat_one]
    rw [hx]
    cases i with
    | zero => rw [List.getElem?_append_left (by simp [Nd.cells]; omega)]; simp
    | succ i =>
      rw [List.getElem?_append_right (by simp [Nd.cells]; omega)]
      have := ih i (by simpa using h)
      simpa [Nd.cells, show 4 * (i + 1) + j - 4 = 4 * i + j by omega] using this

def ent (n : Nd) (i : Nat) : MapEntry := { key := n.v, val := .int .i64 (i + 1), born := i }

def entsFrom : List Nd → Nat → List MapEntry
  | [], _ => []
  | n :: l, i => ent n i :: entsFrom l (i + 1)

theorem entsFrom_append (a b : List Nd) (i : Nat) : entsFrom (a ++ b) i = entsFrom a i ++ entsFrom b (i + a.length) := by
  induction a generalizing i with
  | nil => simp [entsFrom]
  | cons x a ih => simp [entsFrom, ih, Nat.add_assoc, Nat.add_comm 1]

theorem entsFrom_length (a : List Nd) (i : Nat) : (entsFrom a i).length = a.length := by
  induction a generalizing i with
  | nil => rfl
  | cons x a ih => simp [entsFrom, ih]

structure St where
  p : Nat
  m : Nat
  sl : Value
  nodes : List Nd
  drawn : Int

def St.own (s : St) (k : Nat) : Prop := k = s.p ∨ k = s.m ∨ s.sl.ownBlock = some k

structure StoreAt (w : World) (s : St) : Prop where
  obj : w.heap[s.p]? = some (.cells #[s.sl, .map (some s.m), .int .i64 s.drawn] 53 (0, 0))
  map : w.heap[s.m]? = some (.map (entsFrom s.nodes 0).toArray s.nodes.length)
  arr : w.ownsRow 0 27 4 s.sl s.nodes.length (flat s.nodes)
  nodup : s.nodes.Nodup
  len : s.nodes.length ≤ 262144
  drawn0 : 0 ≤ s.drawn
  drawn1 : s.drawn ≤ 1099511627776
  wf : WF s.nodes

theorem own_block_lt {w : World} {base : Nat} {e : TypeId} {size n : Nat} {v : Value} {xs : List Value} (h : w.ownsRow base e size v n xs) {b : Nat} (hb : v.ownBlock = some b) : b < w.heap.size := (h.lt b hb).2

theorem StoreAt.p_lt {w : World} {s : St} (h : StoreAt w s) : s.p < w.heap.size := lt_of_heap h.obj
theorem StoreAt.m_lt {w : World} {s : St} (h : StoreAt w s) : s.m < w.heap.size := lt_of_heap h.map
theorem StoreAt.arr_lt {w : World} {s : St} (h : StoreAt w s) {b : Nat} (hb : s.sl.ownBlock = some b) : b < w.heap.size := own_block_lt h.arr hb
theorem StoreAt.own_lt {w : World} {s : St} (h : StoreAt w s) {k : Nat} (hk : s.own k) : k < w.heap.size := by
  rcases hk with rfl | rfl | hk
  · exact h.p_lt
  · exact h.m_lt
  · exact h.arr_lt hk
theorem StoreAt.p_ne_m {w : World} {s : St} (h : StoreAt w s) : s.p ≠ s.m := by
  intro e; have h1 := h.obj; rw [e, h.map] at h1; cases h1
theorem own_row {w : World} {base : Nat} {e : TypeId} {size n : Nat} {v : Value} {xs : List Value} (h : w.ownsRow base e size v n xs) {b : Nat} (hb : v.ownBlock = some b) :
    ∃ cap cur, v = .slice (some ⟨b, 0, none⟩) n cap ∧ w.heap[b]? = some (.cells cur e (0, 0)) ∧ n ≤ cap ∧ cap ≤ maxLen ∧ cur.size = cap * size ∧ cur.toList.take (n * size) = xs := by
  rcases h.2 with ⟨rfl, _⟩ | ⟨g, cap, cur, rfl, _, h1, h2, h3, h4, h5⟩
  · simp [Value.ownBlock] at hb
  · simp [Value.ownBlock] at hb; subst hb; exact ⟨cap, cur, rfl, h1, h2, h3, h4, h5⟩
theorem StoreAt.arr_ne_m {w : World} {s : St} (h : StoreAt w s) {b : Nat} (hb : s.sl.ownBlock = some b) : b ≠ s.m := by
  rintro rfl; obtain ⟨cap, cur, _, h1, _⟩ := own_row h.arr hb; rw [h.map] at h1; cases h1
theorem StoreAt.arr_ne_p {w : World} {s : St} (h : StoreAt w s) {b : Nat} (hb : s.sl.ownBlock = some b) : b ≠ s.p := by
  rintro rfl; obtain ⟨cap, cur, _, h1, _⟩ := own_row h.arr hb; rw [h.obj] at h1
  simp only [Option.some.injEq, Obj.cells.injEq] at h1
  exact absurd h1.2.1 (by decide)

theorem row_keep {w w' : World} {base : Nat} {e : TypeId} {size n : Nat} {v : Value} {xs : List Value} (h : w.ownsRow base e size v n xs) (hb : ∀ b, v.ownBlock = some b → w'.heap[b]? = w.heap[b]?) : w'.ownsRow base e size v n xs := by
  refine ⟨h.1, ?_⟩
  rcases h.2 with hn | ⟨g, cap, cur, rfl, h0, h1, h2⟩
  · exact .inl hn
  · exact .inr ⟨g, cap, cur, rfl, h0, by rw [hb g (by simp [Value.ownBlock])]; exact h1, h2⟩

/-- The store stays what it is while its blocks do. -/
theorem StoreAt.keep {w w' : World} {s : St} (h : StoreAt w s) (hb : ∀ k, s.own k → w'.heap[k]? = w.heap[k]?) : StoreAt w' s :=
  ⟨(hb _ (.inl rfl)).trans h.obj, (hb _ (.inr (.inl rfl))).trans h.map, row_keep h.arr fun b hbb => hb b (.inr (.inr hbb)), h.nodup, h.len, h.drawn0, h.drawn1, h.wf⟩

theorem StoreAt.chg {w w' : World} {s : St} {M : Nat → Prop} (h : StoreAt w s) (hc : Chg M w w') (hM : ∀ k, s.own k → ¬ M k) : StoreAt w' s :=
  h.keep fun k hk => hc.block k (h.own_lt hk) (hM k hk)

theorem StoreAt.alloc {w : World} {s : St} (h : StoreAt w s) (o : Obj) : StoreAt (w.alloc o) s := h.keep fun k hk => heap_alloc_lt (h.own_lt hk)
theorem StoreAt.drew {w : World} {s : St} (h : StoreAt w s) : StoreAt w.drew s := h.keep fun _ _ => rfl

/-- The cells of the store's struct, for the walk. -/
theorem StoreAt.cell0 {w : World} {s : St} (h : StoreAt w s) : w.cell? ⟨s.p, 0, none⟩ = some s.sl := by rw [cell_of h.obj]; rfl
theorem StoreAt.cell1 {w : World} {s : St} (h : StoreAt w s) : w.cell? ⟨s.p, 1, none⟩ = some (.map (some s.m)) := by rw [cell_of h.obj]; rfl
theorem StoreAt.cell2 {w : World} {s : St} (h : StoreAt w s) : w.cell? ⟨s.p, 2, none⟩ = some (.int .i64 s.drawn) := by rw [cell_of h.obj]; rfl
theorem StoreAt.free {w : World} {s : St} (h : StoreAt w s) (i : Nat) : w.frozen? ⟨s.p, i, none⟩ = false := free_of h.obj i

/-- The slice of nodes, written out. -/
theorem StoreAt.slice {w : World} {s : St} (h : StoreAt w s) : ∃ (a : Option Addr) (c : Nat), s.sl = .slice a s.nodes.length c := by
  rcases h.arr.2 with ⟨hv, hn⟩ | ⟨g, cap, cur, hv, _⟩
  · exact ⟨none, 0, by rw [hv, hn]⟩
  · exact ⟨_, cap, hv⟩

/-- A node's cells in the array. -/
theorem StoreAt.node {w : World} {s : St} (h : StoreAt w s) {i : Nat} (hi : i < s.nodes.length) : ∃ b c, s.sl = .slice (some ⟨b, 0, none⟩) s.nodes.length c ∧ ∀ j, j < 4 → w.cell? ⟨b, i * 4 + j, none⟩ = (s.nodes[i]).cells[j]? := by
  rcases h.arr.2 with ⟨hv, hn⟩ | ⟨g, cap, cur, hv, _, h1, h2, h3, h4, h5⟩
  · omega
  · refine ⟨g, cap, hv, fun j hj => ?_⟩
    rw [cell_of h1, ← flat_get _ i hi j hj, ← h5, List.getElem?_take, if_pos (by omega), Array.getElem?_toList, Nat.mul_comm]

/-! ### the map -/
theorem bytes_beq (a b : ByteArray) : (a.toList == b.toList) = decide (a = b) := by
  rw [Bool.eq_iff_iff, decide_eq_true_iff, beq_iff_eq, ByteArray.toList_eq, ByteArray.toList_eq]
  constructor
  · intro h
    obtain ⟨⟨x⟩⟩ := a
    obtain ⟨⟨y⟩⟩ := b
    simp at h
    subst h; rfl
  · rintro rfl; rfl

theorem nodeFields : Try.prog.underlying 27 = some (.struct (Try.prog.fieldsOf 27)) := by kernel_rfl
theorem nodeStood : Try.prog.stoodInHeld 27 = false := by kernel_rfl

set_option maxRecDepth 10000 in
theorem run_equal_node (x y : Nd) (w : World) : (Op.equal 27 x.v y.v).run Try.prog w = .ok (decide (x = y)) w := by
  unfold Op.equal
  rw [show Op.maxDepth = 9998 + 1 + 1 from rfl]
  unfold Nd.v
  generalize 9998 = d
  rw [run_equalIn_struct w (d + 1) 27 _ _ nodeFields nodeStood]
  obtain ⟨k, l, a, b⟩ := x
  obtain ⟨k', l', a', b'⟩ := y
  have e : decide ((⟨k, l, a, b⟩ : Nd) = ⟨k', l', a', b'⟩) = (k == k' && (l.toList == l'.toList && (a == a' && b == b'))) := by
    rw [Bool.eq_iff_iff, bytes_beq]; simp
  rw [e]
  go_simp
  clear e
  by_cases h1 : k = k' <;> by_cases h2 : l.toList = l'.toList <;> by_cases h3 : a = a' <;> by_cases h4 : b = b' <;> simp [h1, h2, h3, h4]

theorem findNow_ents (l : List Nd) (i j : Nat) (n : Nd) (fs : Array Field) : Instr.findNow (.struct fs) n.v (entsFrom l i) j = if l = [] then some none else none := by
  cases l with
  | nil => rfl
  | cons x l => simp [entsFrom, Instr.findNow, Instr.sameNow, ent, Nd.v]

theorem run_findAsking_ents (n : Nd) (w : World) : ∀ (l : List Nd) (i j : Nat),
    (Instr.findAsking 27 n.v (entsFrom l i) j).run Try.prog w = .ok ((idx l n).map fun k => (j + k, .int .i64 (((i + k : Nat) : Int) + 1))) w := by
  intro l
  induction l with
  | nil => intro i j; simp [entsFrom, Instr.findAsking, idx]
  | cons x l ih =>
    intro i j
    simp only [entsFrom, Instr.findAsking, Sem.run_bind]
    rw [show (ent x i).key = x.v from rfl, run_equal_node]
    simp only [Result.andThen_ok, decide_eq_true_eq]
    by_cases h : n = x
    · subst h
      simp [idx, List.findIdx?_cons, ent]
    · have h' : ¬ x = n := fun e => h e.symm
      simp only [h, if_false, ih, idx, List.findIdx?_cons, h', decide_false, Bool.false_eq_true, Option.map_map]
      congr 2
      funext k
      simp; omega

theorem run_findKey_ents (n : Nd) (w : World) (l : List Nd) :
    (Instr.findKey 27 n.v (entsFrom l 0)).run Try.prog w = .ok ((idx l n).map fun k => (k, .int .i64 ((k : Int) + 1))) w := by
  unfold Instr.findKey
  simp only [Sem.run_bind, run_underlying nodeFields, Result.andThen_ok, findNow_ents]
  by_cases h : l = []
  · subst h; simp [idx]
  · simp only [h, if_false]
    rw [run_findAsking_ents]
    simp

theorem run_checkKey_node (n : Nd) (e : Bool) (w : World) : (Instr.checkKey e 10000 27 n.v).run Try.prog w = .ok () w := by
  rw [show (10000 : Nat) = 9998 + 1 + 1 from rfl]
  generalize 9998 = d
  obtain ⟨k, l, a, b⟩ := n
  unfold Nd.v
  rw [Instr.checkKey]
  simp only [Sem.run_bind, run_underlying nodeFields, Result.andThen_ok]
  go_simp
  simp [Instr.checkKey]

theorem run_getObj_map {P : Program} {w : World} {m : Nat} {es : Array MapEntry} {c : Nat} (h : w.heap[m]? = some (.map es c)) : (getObj m).run P w = .ok (.map es c) w := by
  simp [getObj, Sem.run, h]
theorem run_setObj_map {P : Program} {w : World} {m : Nat} {es : Array MapEntry} {c : Nat} (h : w.heap[m]? = some (.map es c)) (o : Obj) : (setObj m o).run P w = .ok () { w with heap := w.heap.setIfInBounds m o } := by
  simp [setObj, Sem.run, h]

theorem mapType : Try.prog.underlying 51 = some (.map 27 3) := by kernel_rfl
theorem zeroInt (w : World) : (zeroValue 3).run Try.prog w = .ok (.int .i64 0) w := by kernel_rfl

theorem StoreAt.lookup {w : World} {s : St} (h : StoreAt w s) (n : Nd) :
    (Instr.lookup 51 (.map (some s.m)) n.v true).run Try.prog w =
      .ok (match idx s.nodes n with | some k => .tuple #[.int .i64 ((k : Int) + 1), .bool true] | none => .tuple #[.int .i64 0, .bool false]) w := by
  unfold Instr.lookup
  simp only [Sem.run_bind, run_underlying mapType, Result.andThen_ok, run_getObj_map h.map, Sem.run_pure, run_checkKey_node]
  simp only [run_findKey_ents, Result.andThen_ok]
  cases idx s.nodes n with
  | none => simp [zeroInt]
  | some k => simp

theorem StoreAt.lookup_yes {w : World} {s : St} (h : StoreAt w s) (n : Nd) {k : Nat} (hk : idx s.nodes n = some k) :
    (Instr.lookup 51 (.map (some s.m)) (.agg #[.int .i64 n.kind, .string n.label, .int .i64 n.a, .int .i64 n.b]) true).run Try.prog w =
      .ok (.tuple #[.int .i64 ((k : Int) + 1), .bool true]) w := by
  have := h.lookup n; rw [hk] at this; exact this

theorem StoreAt.lookup_no {w : World} {s : St} (h : StoreAt w s) (n : Nd) (hk : idx s.nodes n = none) :
    (Instr.lookup 51 (.map (some s.m)) (.agg #[.int .i64 n.kind, .string n.label, .int .i64 n.a, .int .i64 n.b]) true).run Try.prog w =
      .ok (.tuple #[.int .i64 0, .bool false]) w := by
  have := h.lookup n; rw [hk] at this; exact this

theorem run_update_new {w : World} {m : Nat} {l : List Nd} {c : Nat} (h : w.heap[m]? = some (.map (entsFrom l 0).toArray c)) (n : Nd) (hk : idx l n = none) (v : Value) :
    (Instr.mapUpdate 51 (.map (some m)) (.agg #[.int .i64 n.kind, .string n.label, .int .i64 n.a, .int .i64 n.b]) v).run Try.prog w =
      .ok () { w with heap := w.heap.setIfInBounds m (.map ((entsFrom l 0).toArray.push { key := n.v, val := v, born := c }) (c + 1)) } := by
  show (Instr.mapUpdate 51 (.map (some m)) n.v v).run Try.prog w = _
  unfold Instr.mapUpdate
  simp only [Sem.run_bind, run_underlying mapType, Result.andThen_ok, run_getObj_map h, run_checkKey_node]
  simp only [run_findKey_ents, Result.andThen_ok, hk, Option.map_none, run_setObj_map h]

/-- The map's block written anew. -/
def putObj (w : World) (m : Nat) (o : Obj) : World := { w with heap := w.heap.setIfInBounds m o }
theorem heap_putObj_ne {w : World} {m k : Nat} {o : Obj} (h : k ≠ m) : (putObj w m o).heap[k]? = w.heap[k]? := by simp [putObj, Array.getElem?_setIfInBounds_ne (Ne.symm h)]
theorem heap_putObj_at {w : World} {m : Nat} {o : Obj} (h : m < w.heap.size) : (putObj w m o).heap[m]? = some o := by simp [putObj, h]
theorem size_putObj {w : World} {m : Nat} {o : Obj} : (putObj w m o).heap.size = w.heap.size := by simp [putObj]
theorem Chg.putObj {M : Nat → Prop} {a w : World} (h : Chg M a w) {m : Nat} (hp : M m ∨ a.heap.size ≤ m) (o : Obj) : Chg M a (putObj w m o) :=
  ⟨h.os, h.tape, h.output, by rw [size_putObj]; exact h.size, fun i hi hn => by
    rw [heap_putObj_ne (by rintro rfl; rcases hp with hp | hp; exact hn hp; omega)]; exact h.block i hi hn⟩

end Go.Proofs.Ytlppagjnnlmnmaa
