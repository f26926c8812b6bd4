/- The document's 'Can': what holds at its loops. -/
import Derived.Test.YtmdfhaihbaiegaaYaoStore
import Derived.Laws.MakeOwn
set_option linter.unusedVariables false
set_option linter.unusedSimpArgs false
namespace Go.Proofs.Ytmdfhaihbaiegaa
open Go.RowKit

/-- A whole block of bools. -/
def BoolBlk (w : World) (g : Nat) (C : List Bool) : Prop := w.heap[g]? = some (.cells (C.map Value.bool).toArray 4 (0, 0))

theorem BoolBlk.cell {w : World} {g : Nat} {C : List Bool} (h : BoolBlk w g C) {i : Nat} (hi : i < C.length) : w.cell? ⟨g, i, none⟩ = some (.bool (C.getD i false)) := by
  rw [cell_of h, List.getElem?_toArray, List.getElem?_map, List.getElem?_eq_getElem hi, List.getD_eq_getElem?_getD, List.getElem?_eq_getElem hi]
  rfl
theorem BoolBlk.free {w : World} {g : Nat} {C : List Bool} (h : BoolBlk w g C) (i : Nat) : w.frozen? ⟨g, i, none⟩ = false := free_of h i
theorem BoolBlk.set {w : World} {g : Nat} {C : List Bool} (h : BoolBlk w g C) (i : Nat) (x : Bool) : BoolBlk (w.setCell ⟨g, i, none⟩ (.bool x)) g (C.set i x) := by
  unfold BoolBlk
  rw [heap_setCell_at h, List.setIfInBounds_toArray, List.map_set]
theorem BoolBlk.keep {w w' : World} {g : Nat} {C : List Bool} (h : BoolBlk w g C) (hw : w'.heap[g]? = w.heap[g]?) : BoolBlk w' g C := hw.trans h

theorem cnt_set {C : List Bool} {i : Nat} (hi : i < C.length) (h : C.getD i false = false) : cnt (C.set i true) = cnt C + 1 := by
  unfold cnt
  rw [List.getD_eq_getElem?_getD, List.getElem?_eq_getElem hi] at h
  have h' : C[i] = false := by simpa using h
  have := List.countP_set (p := (· = true)) (a := true) hi
  rw [h'] at this
  simpa using this

/-- The two rows, sound. -/
structure CanSt (W : World) (gk gc : Nat) (N : List Nd) (S : Int → Prop) (K C : List Bool) (w : World) : Prop where
  k : BoolBlk w gk K
  c : BoolBlk w gc C
  ne : gk ≠ gc
  kl : K.length = N.length + 1
  cl : C.length = N.length + 1
  gk0 : W.heap.size ≤ gk
  gc0 : W.heap.size ≤ gc
  kept : Chg none_ W w
  ks : ∀ i : Nat, K.getD i false = true → KnD N S i
  cs : ∀ i : Nat, C.getD i false = true → CanD N S i

theorem getD_set {C : List Bool} {i j : Nat} {x : Bool} : (C.set i x).getD j false = if i = j ∧ i < C.length then x else C.getD j false := by
  rw [List.getD_eq_getElem?_getD, List.getD_eq_getElem?_getD, List.getElem?_set]
  by_cases h : i = j
  · subst h
    by_cases h2 : i < C.length
    · simp [h2]
    · simp [h2]
  · simp [h]

theorem CanSt.setK {W : World} {gk gc : Nat} {N : List Nd} {S : Int → Prop} {K C : List Bool} {w : World} (h : CanSt W gk gc N S K C w) {i : Nat} (hi : KnD N S i) : CanSt W gk gc N S (K.set i true) C (w.setCell ⟨gk, i, none⟩ (.bool true)) := by
  refine ⟨h.k.set i true, h.c.keep (heap_setCell_ne (show gc ≠ gk from h.ne.symm)), h.ne, by rw [List.length_set]; exact h.kl, h.cl, h.gk0, h.gc0, ?_, fun j hj => ?_, h.cs⟩
  · exact ⟨h.kept.os, h.kept.tape, h.kept.output, by simpa using h.kept.size, fun k hk hn => by rw [heap_setCell_ne (show k ≠ gk by have := h.gk0; omega)]; exact h.kept.block k hk hn⟩
  · rw [getD_set] at hj
    by_cases e : i = j ∧ i < K.length
    · rw [← e.1]; exact hi
    · rw [if_neg e] at hj; exact h.ks j hj
theorem CanSt.setC {W : World} {gk gc : Nat} {N : List Nd} {S : Int → Prop} {K C : List Bool} {w : World} (h : CanSt W gk gc N S K C w) {i : Nat} (hi : CanD N S i) : CanSt W gk gc N S K (C.set i true) (w.setCell ⟨gc, i, none⟩ (.bool true)) := by
  refine ⟨h.k.keep (heap_setCell_ne (show gk ≠ gc from h.ne)), h.c.set i true, h.ne, h.kl, by rw [List.length_set]; exact h.cl, h.gk0, h.gc0, ?_, h.ks, fun j hj => ?_⟩
  · exact ⟨h.kept.os, h.kept.tape, h.kept.output, by simpa using h.kept.size, fun k hk hn => by rw [heap_setCell_ne (show k ≠ gc by have := h.gc0; omega)]; exact h.kept.block k hk hn⟩
  · rw [getD_set] at hj
    by_cases e : i = j ∧ i < C.length
    · rw [← e.1]; exact hi
    · rw [if_neg e] at hj; exact h.cs j hj
theorem CanSt.still {W : World} {gk gc : Nat} {N : List Nd} {S : Int → Prop} {K C : List Bool} {w w' : World} (h : CanSt W gk gc N S K C w) (hc : Chg none_ w w') : CanSt W gk gc N S K C w' :=
  { h with k := h.k.keep (hc.block _ (lt_of_heap h.k) (fun h => h)), c := h.c.keep (hc.block _ (lt_of_heap h.c) (fun h => h)), kept := h.kept.trans hc (fun _ _ h => h) }

/-- The conditions at one term. -/
def CondA (N : List Nd) (K C : List Bool) (t : Nat) : Prop := (K.getD t false = true → C.getD t false = true) ∧ (MadeP (fun x => cbI C x = true) (getN N t) → C.getD t false = true)
def CondB (N : List Nd) (K C : List Bool) (t : Nat) : Prop := K.getD t false = true → ∀ x, ApartP N (fun x => cbI C x = true) (getN N t) x → cbI K x = true

/-- A round of the outer loop, under way: what is below j is still to come; a: the first half at j is done. -/
structure CR (W : World) (gk gc : Nat) (N : List Nd) (S : Int → Prop) (K0 C0 : List Bool) (j : Nat) (ag : Bool) (K C : List Bool) (w : World) : Prop where
  st : CanSt W gk gc N S K C w
  monoK : ∀ i : Nat, K0.getD i false = true → K.getD i false = true
  up : ag = true → cnt K0 + cnt C0 < cnt K + cnt C
  dn : ag = false → K = K0 ∧ C = C0 ∧ ∀ t : Nat, j < t → t ≤ N.length → CondA N K0 C0 t ∧ CondB N K0 C0 t

theorem CR.still {W : World} {gk gc : Nat} {N : List Nd} {S : Int → Prop} {K0 C0 K C : List Bool} {j : Nat} {ag : Bool} {w w' : World} (h : CR W gk gc N S K0 C0 j ag K C w) (hc : Chg none_ w w') : CR W gk gc N S K0 C0 j ag K C w' := { h with st := h.st.still hc }

theorem CR.cnt_ge {W : World} {gk gc : Nat} {N : List Nd} {S : Int → Prop} {K0 C0 K C : List Bool} {j : Nat} {ag : Bool} {w : World} (h : CR W gk gc N S K0 C0 j ag K C w) : cnt K0 + cnt C0 ≤ cnt K + cnt C := by
  cases ag with
  | true => have := h.up rfl; omega
  | false => obtain ⟨e1, e2, _⟩ := h.dn rfl; rw [e1, e2]; exact Nat.le_refl _

theorem CR.putK {W : World} {gk gc : Nat} {N : List Nd} {S : Int → Prop} {K0 C0 K C : List Bool} {j : Nat} {ag : Bool} {w : World} (h : CR W gk gc N S K0 C0 j ag K C w) {i : Nat} (hi : KnD N S i) (hl : i < K.length) (hf : K.getD i false = false) : CR W gk gc N S K0 C0 j true (K.set i true) C (w.setCell ⟨gk, i, none⟩ (.bool true)) := by
  refine ⟨h.st.setK hi, fun t ht => ?_, fun _ => ?_, fun e => by cases e⟩
  · rw [getD_set]
    split
    · rfl
    · exact h.monoK t ht
  · have := h.cnt_ge
    rw [cnt_set hl hf]
    omega
theorem CR.putC {W : World} {gk gc : Nat} {N : List Nd} {S : Int → Prop} {K0 C0 K C : List Bool} {j : Nat} {ag : Bool} {w : World} (h : CR W gk gc N S K0 C0 j ag K C w) {i : Nat} (hi : CanD N S i) (hl : i < C.length) (hf : C.getD i false = false) : CR W gk gc N S K0 C0 j true K (C.set i true) (w.setCell ⟨gc, i, none⟩ (.bool true)) := by
  refine ⟨h.st.setC hi, h.monoK, fun _ => ?_, fun e => by cases e⟩
  have := h.cnt_ge
  rw [cnt_set hl hf]
  omega

/-- The round went through j. -/
theorem CR.pass {W : World} {gk gc : Nat} {N : List Nd} {S : Int → Prop} {K0 C0 K C : List Bool} {j : Nat} {ag : Bool} {w : World} (h : CR W gk gc N S K0 C0 (j + 1) ag K C w) (ha : ag = false → CondA N K0 C0 (j + 1)) (hb : ag = false → CondB N K0 C0 (j + 1)) : CR W gk gc N S K0 C0 j ag K C w :=
  ⟨h.st, h.monoK, h.up, fun e => ⟨(h.dn e).1, (h.dn e).2.1, fun t h1 h2 => by
    rcases Nat.lt_or_ge (j + 1) t with h3 | h3
    · exact (h.dn e).2.2 t h3 h2
    · have : t = j + 1 := by omega
      subst this
      exact ⟨ha e, hb e⟩⟩⟩

theorem CanSt.sound {W : World} {gk gc : Nat} {N : List Nd} {S : Int → Prop} {K C : List Bool} {w : World} (h : CanSt W gk gc N S K C w) (hw : WF N) {t : Int} (ht : cbI C t = true) : CanD N S t := by
  have h1 := h.cs t.toNat ht
  by_cases h0 : 0 ≤ t
  · rw [show ((t.toNat : Nat) : Int) = t by omega] at h1; exact h1
  · rw [show t.toNat = 0 by omega] at h1
    have := h1.range hw
    rw [knownB_iff] at this
    omega

/-- The whole: nothing more to do. -/
theorem can_exact {N : List Nd} (hw : WF N) {S : Int → Prop} {K C : List Bool} {W w : World} {gk gc : Nat} (h : CanSt W gk gc N S K C w) (hS : ∀ t, S t → knownB N.length t = true → cbI K t = true) (hc : ∀ t : Nat, 0 < t → t ≤ N.length → CondA N K C t ∧ CondB N K C t) :
    ∀ t, knownB N.length t = true → (cbI C t = true ↔ CanD N S t) := by
  have hk : ∀ t, cbI K t = true → knownB N.length t = true ∧ KnD N S t := fun t ht => by
    have h1 := h.ks t.toNat ht
    have h2 := h1.range hw
    rw [knownB_iff] at h2
    rw [show ((t.toNat : Nat) : Int) = t by omega] at h1
    exact ⟨h1.range hw, h1⟩
  have cv : ∀ t, knownB N.length t = true → ∃ n : Nat, t = n ∧ 0 < n ∧ n ≤ N.length := fun t ht => by
    rw [knownB_iff] at ht
    exact ⟨t.toNat, by omega, by omega, by omega⟩
  have H : Closed N S (fun t => cbI K t = true) (fun t => knownB N.length t = true ∧ cbI C t = true) := by
    refine ⟨hS, fun t ht => ?_, fun t hk hm => ⟨hk, ?_⟩, fun t x ht ha => ?_⟩
    · obtain ⟨h1, _⟩ := hk t ht
      obtain ⟨n, rfl, h3, h4⟩ := cv t h1
      exact ⟨h1, by have := (hc n h3 h4).1.1; unfold cbI at *; rw [Int.toNat_natCast] at *; exact this ht⟩
    · obtain ⟨n, rfl, h3, h4⟩ := cv t hk
      have := (hc n h3 h4).1.2 (hm.mono fun _ h => h.2)
      unfold cbI
      rw [Int.toNat_natCast]
      exact this
    · obtain ⟨h1, _⟩ := hk t ht
      obtain ⟨n, rfl, h3, h4⟩ := cv t h1
      exact (hc n h3 h4).2 (by unfold cbI at ht; rw [Int.toNat_natCast] at ht; exact ht) x (ha.mono fun _ h => h.2)
  exact fun t hkt => ⟨fun ht => h.sound hw ht, fun hd => (hd _ _ H).2⟩

end Go.Proofs.Ytmdfhaihbaiegaa
