/- What an argument that came in reads as: integers, strings, slices of integers and of nodes. -/
import Derived.Test.YtlppagjnnlmnmaaStore
import Derived.ProofKit
import Derived.OpenShut
import Derived.ShutString
import Derived.ChangeOld
import Derived.Deep.Slices
import Derived.Lib.SmallJoins
set_option linter.unusedVariables false
set_option linter.unusedSimpArgs false
namespace Go.Proofs.Ytlppagjnnlmnmaa
open Go.RowKit Go.ChangeShapes Go.WideShapes Go.ChangeAt

/-- A slice of nodes that came in. -/
def InNodes (w : World) (a : Option Addr) (l : List Nd) : Prop :=
  l = [] ∨ ∃ b off, a = some ⟨b, off, none⟩ ∧ b < w.heap.size ∧ ∀ i (h : i < l.length), w.cell? ⟨b, off + i * 4, none⟩ = some (.int .i64 (l[i]).kind) ∧ w.cell? ⟨b, off + i * 4 + 1, none⟩ = some (.string (l[i]).label) ∧
    w.cell? ⟨b, off + i * 4 + 2, none⟩ = some (.int .i64 (l[i]).a) ∧ w.cell? ⟨b, off + i * 4 + 3, none⟩ = some (.int .i64 (l[i]).b)


/-- A slice of integers that came in. -/
def InInts (w : World) (a : Option Addr) (l : List Int) : Prop :=
  l = [] ∨ ∃ b off, a = some ⟨b, off, none⟩ ∧ b < w.heap.size ∧ (∀ i (h : i < l.length), w.cell? ⟨b, off + i, none⟩ = some (.int .i64 l[i])) ∧ ∀ n ∈ l, (Lit.int .i64 n).wf = true

theorem cells_of {w : World} {base : Nat} {a : Addr} {n : Nat} {cs : List Value} (h : w.cells? base a n = some cs) : cs.length = n ∧ ∀ i, i < n → w.cell? (a.add i) = cs[i]? := by
  unfold World.cells? at h
  split at h
  · have h1 := mapM_some_length h
    simp only [List.length_range] at h1
    refine ⟨h1.symm ▸ rfl, fun i hi => ?_⟩
    have h2 := mapM_some_get h i i (by simp [hi])
    exact h2
  · cases h

theorem addr_plain {w : World} {a : Addr} {v : Value} (h : w.cell? a = some v) : a = ⟨a.block, a.off, none⟩ := by
  obtain ⟨b, o, s⟩ := a
  cases s with
  | none => rfl
  | some s =>
    unfold World.cell? at h
    split at h <;> simp at h

theorem add_plain (b o n : Nat) : (⟨b, o, none⟩ : Addr).add n = ⟨b, o + n, none⟩ := by
  unfold Addr.add; split <;> simp_all

theorem exists_list {α : Type} {Q : Nat → α → Prop} : ∀ n, (∀ i, i < n → ∃ a, Q i a) → ∃ l : List α, l.length = n ∧ ∀ i (h : i < l.length), Q i l[i]
  | 0, _ => ⟨[], rfl, fun i h => by simp at h⟩
  | n + 1, h => by
    obtain ⟨l, hl, hq⟩ := exists_list n fun i hi => h i (by omega)
    obtain ⟨a, ha⟩ := h n (by omega)
    refine ⟨l ++ [a], by simp [hl], fun i hi => ?_⟩
    rcases Nat.lt_or_ge i l.length with h1 | h1
    · rw [List.getElem_append_left h1]; exact hq i h1
    · have e : i = l.length := by simp at hi; omega
      subst e
      simp [hl]; exact ha

section
variable {H : Type} {enc : TypeId × Value → H} {w : World} {base : Nat} {spare : Nat → Bool} {held : Bool} {fuel : Nat}

theorem trod_node {cs : List Value} {x : DataW H × List MemPlace} (h : DataW.trod enc Try.prog w base spare held fuel 27 cs = some x) : ∃ n : Nd, cs = n.cells := by
  obtain ⟨y0, y1, y2, y3, n, rfl, hl, h0, h1, h2, h3⟩ := Joins.trod_struct4 Try.underlying27 h
  rw [show Try.prog.cellsOf 27 = 4 by kernel_rfl] at hl
  match cs, hl with
  | [c0, c1, c2, c3], _ =>
    obtain ⟨k, e0, _, _⟩ := DataW.trod_int Try.underlying3 h0
    obtain ⟨s, e1, _, _⟩ := DataW.trod_string Try.underlying9 h1
    obtain ⟨a, e2, _, _⟩ := DataW.trod_int Try.underlying3 h2
    obtain ⟨b, e3, _, _⟩ := DataW.trod_int Try.underlying3 h3
    rw [show Try.prog.cellsOf 3 = 1 by kernel_rfl] at e0 e2 e3
    rw [show Try.prog.cellsOf 9 = 1 by kernel_rfl] at e1
    simp at e0 e1 e2 e3
    subst e0 e1 e2 e3
    exact ⟨⟨k, s, a, b⟩, rfl⟩

theorem opened_nodes {v : Value} {d : DataW H} {p : List MemPlace} (hv : ∃ a len cap, v = .slice a len cap) (h : DataW.Trod enc Try.prog w 0 (fun _ => true) true 22 v d p) :
    ∃ a cap l, v = .slice a l.length cap ∧ InNodes w a l := by
  obtain ⟨a, len, cap, rfl⟩ := hv
  obtain ⟨fuel, hf⟩ := h
  rcases Deep.open_slice Try.underlying22 hf with ⟨hcs, _⟩ | ⟨x, l, c, m, n, D, Pl, hcs, hb, hl, hm, hmm, _, hx⟩
  · simp [Value.cells] at hcs
    obtain ⟨rfl, rfl, rfl⟩ := hcs
    exact ⟨none, 0, [], rfl, .inl rfl⟩
  · simp [Value.cells] at hcs
    obtain ⟨rfl, rfl, rfl⟩ := hcs
    rw [show Try.prog.cellsOf 27 = 4 by kernel_rfl] at hx
    have hlen : len ≤ m := by rw [hmm]; simp; exact hl
    have each : ∀ i, i < len → ∃ n : Nd, ∀ j, j < 4 → w.cell? ((x.add (i * 4)).add j) = n.cells[j]? := fun i hi => by
      obtain ⟨cs', h1, h2⟩ := hx i (by omega)
      obtain ⟨n, rfl⟩ := trod_node h2
      exact ⟨n, (cells_of h1).2⟩
    obtain ⟨L, hL, hc⟩ := exists_list len each
    subst hL
    refine ⟨some x, cap, L, rfl, ?_⟩
    by_cases h0 : L.length = 0
    · exact .inl (List.length_eq_zero_iff.1 h0)
    · right
      have h1 := hc 0 (by omega) 0 (by omega)
      simp only [Nat.zero_mul, Addr.add, if_true] at h1
      have h1' : w.cell? x = some (.int .i64 (L[0]).kind) := h1
      have hbl := World.block_lt_of_cell? w x h1'
      have hp := addr_plain h1'
      obtain ⟨b, o, rfl⟩ : ∃ b o, x = ⟨b, o, none⟩ := ⟨_, _, hp⟩
      simp only [add_plain] at hc
      exact ⟨b, o, rfl, hbl, fun i hi => ⟨hc i hi 0 (by omega), hc i hi 1 (by omega), hc i hi 2 (by omega), hc i hi 3 (by omega)⟩⟩
theorem opened_nodes_len {v : Value} {d : DataW H} {p : List MemPlace} (hv : ∃ a len cap, v = .slice a len cap) (h : DataW.Trod enc Try.prog w 0 (fun _ => true) true 22 v d p) :
    ∃ a cap l, v = .slice a l.length cap ∧ InNodes w a l ∧ l.length ≤ maxLen := by
  obtain ⟨a, len, cap, rfl⟩ := hv
  obtain ⟨fuel, hf⟩ := h
  rcases Deep.open_slice Try.underlying22 hf with ⟨hcs, _⟩ | ⟨x, l, c, m, n, D, Pl, hcs, hb, hl, hm, hmm, _, hx⟩
  · simp [Value.cells] at hcs
    obtain ⟨rfl, rfl, rfl⟩ := hcs
    exact ⟨none, 0, [], rfl, .inl rfl, Nat.zero_le _⟩
  · simp [Value.cells] at hcs
    obtain ⟨rfl, rfl, rfl⟩ := hcs
    rw [show Try.prog.cellsOf 27 = 4 by kernel_rfl] at hx
    have hlen : len ≤ m := by rw [hmm]; simp; exact hl
    have each : ∀ i, i < len → ∃ n : Nd, ∀ j, j < 4 → w.cell? ((x.add (i * 4)).add j) = n.cells[j]? := fun i hi => by
      obtain ⟨cs', h1, h2⟩ := hx i (by omega)
      obtain ⟨n, rfl⟩ := trod_node h2
      exact ⟨n, (cells_of h1).2⟩
    obtain ⟨L, hL, hc⟩ := exists_list len each
    subst hL
    refine ⟨some x, cap, L, rfl, ?_, by omega⟩
    by_cases h0 : L.length = 0
    · exact .inl (List.length_eq_zero_iff.1 h0)
    · right
      have h1 := hc 0 (by omega) 0 (by omega)
      simp only [Nat.zero_mul, Addr.add, if_true] at h1
      have h1' : w.cell? x = some (.int .i64 (L[0]).kind) := h1
      have hbl := World.block_lt_of_cell? w x h1'
      have hp := addr_plain h1'
      obtain ⟨b, o, rfl⟩ : ∃ b o, x = ⟨b, o, none⟩ := ⟨_, _, hp⟩
      simp only [add_plain] at hc
      exact ⟨b, o, rfl, hbl, fun i hi => ⟨hc i hi 0 (by omega), hc i hi 1 (by omega), hc i hi 2 (by omega), hc i hi 3 (by omega)⟩⟩
theorem opened_ints {v : Value} {d : DataW H} {p : List MemPlace} (hv : ∃ a len cap, v = .slice a len cap) (h : DataW.Trod enc Try.prog w 0 (fun _ => true) true 35 v d p) :
    ∃ a cap l, v = .slice a l.length cap ∧ InInts w a l ∧ l.length ≤ maxLen := by
  obtain ⟨a, len, cap, rfl⟩ := hv
  obtain ⟨fuel, hf⟩ := h
  rcases open_ints Try.underlying35 Try.underlying3 (by kernel_rfl) hf with ⟨hcs, _⟩ | ⟨x, l, c, zs, hcs, _, hl, hm, hz, _, hcell, hwz⟩
  · simp [Value.cells] at hcs
    obtain ⟨rfl, rfl, rfl⟩ := hcs
    exact ⟨none, 0, [], rfl, .inl rfl, Nat.zero_le _⟩
  · simp [Value.cells] at hcs
    obtain ⟨rfl, rfl, rfl⟩ := hcs
    have hz' : zs.length = cap := by simpa using hz
    have hl' : (zs.take len).length = len := by rw [List.length_take]; omega
    refine ⟨some x, cap, zs.take len, by rw [hl'], ?_, by omega⟩
    by_cases h0 : len = 0
    · exact .inl (by rw [h0]; simp)
    · right
      have h1 := hcell 0 (by omega)
      simp only [Addr.add, if_true] at h1
      have hbl := World.block_lt_of_cell? w x h1
      have hp := addr_plain h1
      obtain ⟨b, o, rfl⟩ : ∃ b o, x = ⟨b, o, none⟩ := ⟨_, _, hp⟩
      simp only [add_plain] at hcell
      refine ⟨b, o, rfl, hbl, fun i hi => ?_, fun n hn => hwz n (List.mem_of_mem_take hn)⟩
      rw [hl'] at hi
      rw [hcell i (by omega), List.getElem_take, List.getD_eq_getElem?_getD, List.getElem?_eq_getElem (by omega)]
      rfl

end

end Go.Proofs.Ytlppagjnnlmnmaa
