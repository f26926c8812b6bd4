/- What this claim reaches of a longer text of this session. -/
import Derived.Test.YtbblomnhobodkaaDoorProg
import Derived.Test.YtbblomnhobodkaaDoorMix
import Derived.WalkKit
import Derived.WalkSpells
import Derived.WalkLawsBesides
import Derived.KernelRfl
import Derived.Below
import Derived.Lib.Hide
import Derived.Deep.Draws
set_option linter.unusedVariables false
set_option linter.unusedSimpArgs false
namespace Go.Proofs.YtbblomnhobodkaaDoor
open Go.RowKit
structure Chg (M : Nat → Prop) (w w' : World) : Prop where
  os : w'.os = w.os
  tape : w'.tape = w.tape
  output : w'.output = w.output
  size : w.heap.size ≤ w'.heap.size
  block : ∀ k, k < w.heap.size → ¬ M k → w'.heap[k]? = w.heap[k]?
abbrev none_ : Nat → Prop := fun _ => False
theorem Chg.refl (M : Nat → Prop) (w : World) : Chg M w w := ⟨rfl, rfl, rfl, Nat.le_refl _, fun _ _ _ => rfl⟩
theorem Chg.trans {M M' : Nat → Prop} {a b c : World} (h : Chg M a b) (k : Chg M' b c) (hM : ∀ i, i < a.heap.size → M' i → M i) : Chg M a c :=
  ⟨k.os.trans h.os, k.tape.trans h.tape, k.output.trans h.output, Nat.le_trans h.size k.size,
    fun i hi hn => (k.block i (Nat.lt_of_lt_of_le hi h.size) (fun h' => hn (hM i hi h'))).trans (h.block i hi hn)⟩
theorem Chg.mono {M M' : Nat → Prop} {a b : World} (h : Chg M a b) (hM : ∀ i, i < a.heap.size → M i → M' i) : Chg M' a b :=
  ⟨h.os, h.tape, h.output, h.size, fun i hi hn => h.block i hi fun h' => hn (hM i hi h')⟩
theorem Chg.drew {M : Nat → Prop} {a w : World} (h : Chg M a w) : Chg M a w.drew := ⟨h.os, h.tape, h.output, h.size, h.block⟩
theorem heap_alloc_lt {w : World} {o : Obj} {k : Nat} (h : k < w.heap.size) : (w.alloc o).heap[k]? = w.heap[k]? := by
  exact Below.heap_alloc w o k h
theorem heap_alloc_at {w : World} {o : Obj} : (w.alloc o).heap[w.heap.size]? = some o := by
  show (w.heap.push o)[w.heap.size]? = some o
  simp
theorem Chg.alloc {M : Nat → Prop} {a w : World} (h : Chg M a w) (o : Obj) : Chg M a (w.alloc o) :=
  ⟨h.os, h.tape, h.output, by simp; have := h.size; omega, fun i hi hn => by rw [heap_alloc_lt (Nat.lt_of_lt_of_le hi h.size)]; exact h.block i hi hn⟩
theorem heap_setCell_ne {w : World} {a : Addr} {v : Value} {k : Nat} (h : k ≠ a.block) : (w.setCell a v).heap[k]? = w.heap[k]? := Below.heap_setCell w a v k h
theorem Chg.setCell {M : Nat → Prop} {a w : World} (h : Chg M a w) {p : Addr} (hp : M p.block ∨ a.heap.size ≤ p.block) (v : Value) : Chg M a (w.setCell p v) :=
  ⟨h.os, h.tape, h.output, by simpa using h.size, fun i hi hn => by
    rw [heap_setCell_ne (by rintro rfl; rcases hp with hp | hp; exact hn hp; omega)]; exact h.block i hi hn⟩
theorem Chg.below {M : Nat → Prop} {w w' : World} (h : Chg M w w') {B : Nat} (hB : B ≤ w.heap.size) (hM : ∀ k, k < B → ¬ M k) : Below B w w' :=
  ⟨h.os, h.tape, h.output, h.size, fun k hk => h.block k (Nat.lt_of_lt_of_le hk hB) (hM k hk)⟩
theorem cell_of {w : World} {b : Nat} {c : Array Value} {t : TypeId} {f : Nat × Nat} (h : w.heap[b]? = some (.cells c t f)) (i : Nat) : w.cell? ⟨b, i, none⟩ = c[i]? := by
  simp [World.cell?, h]
theorem cell_eq {w w' : World} {b i : Nat} (h : w'.heap[b]? = w.heap[b]?) : w'.cell? ⟨b, i, none⟩ = w.cell? ⟨b, i, none⟩ := by simp [World.cell?, h]
theorem frozen_eq {w w' : World} {b i : Nat} (h : w'.heap[b]? = w.heap[b]?) : w'.frozen? ⟨b, i, none⟩ = w.frozen? ⟨b, i, none⟩ := by simp [World.frozen?, h]
theorem Chg.cells {M : Nat → Prop} {w w' : World} (h : Chg M w w') : (∀ b o, b < w.heap.size → ¬ M b → w'.cell? ⟨b, o, none⟩ = w.cell? ⟨b, o, none⟩) ∧ (∀ b o, b < w.heap.size → ¬ M b → w'.frozen? ⟨b, o, none⟩ = w.frozen? ⟨b, o, none⟩) :=
  ⟨fun b o hb hn => cell_eq (h.block b hb hn), fun b o hb hn => frozen_eq (h.block b hb hn)⟩
end Go.Proofs.YtbblomnhobodkaaDoor
