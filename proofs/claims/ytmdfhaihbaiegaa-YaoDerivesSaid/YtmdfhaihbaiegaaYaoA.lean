/- The attacker's mind in memory; what it is asked. -/
import Derived.Test.YtmdfhaihbaiegaaMapI
import Derived.Test.YtmdfhaihbaiegaaTermE
import Derived.Test.YtmdfhaihbaiegaaPureYao
import Derived.Deep.Light
set_option linter.unusedVariables false
set_option linter.unusedSimpArgs false
namespace Go.Proofs.Ytmdfhaihbaiegaa
open Go.RowKit

structure Mind where
  p : Nat
  m : Nat
  sl : Value
  sp : Nat
  can : List Bool
  ks : List Int
  es : Array MapEntry
  clock : Nat

structure MindAt (w : World) (q : Mind) : Prop where
  obj : w.heap[q.p]? = some (.cells #[.pointer (some ⟨q.sp, 0, none⟩), .map (some q.m), q.sl] 55 (0, 0))
  map : MapAt w q.m q.es q.clock q.ks
  row : w.ownsRow 0 4 1 q.sl q.can.length (q.can.map Value.bool)

def Mind.own (q : Mind) (k : Nat) : Prop := k = q.p ∨ k = q.m ∨ q.sl.ownBlock = some k
abbrev Mind.ptr (q : Mind) : Value := .pointer (some ⟨q.p, 0, none⟩)

theorem MindAt.p_lt {w : World} {q : Mind} (h : MindAt w q) : q.p < w.heap.size := lt_of_heap h.obj
theorem MindAt.m_lt {w : World} {q : Mind} (h : MindAt w q) : q.m < w.heap.size := h.map.lt
theorem MindAt.own_lt {w : World} {q : Mind} (h : MindAt w q) {k : Nat} (hk : q.own k) : k < w.heap.size := by
  rcases hk with rfl | rfl | hk
  · exact h.p_lt
  · exact h.m_lt
  · exact own_block_lt h.row hk
theorem MindAt.p_ne_m {w : World} {q : Mind} (h : MindAt w q) : q.p ≠ q.m := by
  intro e; have h1 := h.obj; rw [e, h.map.obj] at h1; cases h1
theorem MindAt.row_ne_p {w : World} {q : Mind} (h : MindAt w q) {b : Nat} (hb : q.sl.ownBlock = some b) : b ≠ q.p := by
  rintro rfl; obtain ⟨cap, cur, _, h1, _⟩ := own_row h.row hb; rw [h.obj] at h1
  simp only [Option.some.injEq, Obj.cells.injEq] at h1
  exact absurd h1.2.1 (by decide)
theorem MindAt.row_ne_m {w : World} {q : Mind} (h : MindAt w q) {b : Nat} (hb : q.sl.ownBlock = some b) : b ≠ q.m := by
  rintro rfl; obtain ⟨cap, cur, _, h1, _⟩ := own_row h.row hb; rw [h.map.obj] at h1; cases h1
theorem MindAt.keep {w w' : World} {q : Mind} (h : MindAt w q) (hb : ∀ k, q.own k → w'.heap[k]? = w.heap[k]?) : MindAt w' q :=
  ⟨(hb _ (.inl rfl)).trans h.obj, h.map.keep (hb _ (.inr (.inl rfl))), row_keep h.row fun b hbb => hb b (.inr (.inr hbb))⟩
theorem MindAt.chg {w w' : World} {q : Mind} {M : Nat → Prop} (h : MindAt w q) (hc : Chg M w w') (hM : ∀ k, q.own k → ¬ M k) : MindAt w' q :=
  h.keep fun k hk => hc.block k (h.own_lt hk) (hM k hk)
theorem MindAt.alloc {w : World} {q : Mind} (h : MindAt w q) (o : Obj) : MindAt (w.alloc o) q := h.keep fun k hk => heap_alloc_lt (h.own_lt hk)
theorem MindAt.drew {w : World} {q : Mind} (h : MindAt w q) : MindAt w.drew q := h.keep fun _ _ => rfl
theorem MindAt.cell0 {w : World} {q : Mind} (h : MindAt w q) : w.cell? ⟨q.p, 0, none⟩ = some (.pointer (some ⟨q.sp, 0, none⟩)) := by rw [cell_of h.obj]; rfl
theorem MindAt.cell1 {w : World} {q : Mind} (h : MindAt w q) : w.cell? ⟨q.p, 1, none⟩ = some (.map (some q.m)) := by rw [cell_of h.obj]; rfl
theorem MindAt.cell2 {w : World} {q : Mind} (h : MindAt w q) : w.cell? ⟨q.p, 2, none⟩ = some q.sl := by rw [cell_of h.obj]; rfl
theorem MindAt.free {w : World} {q : Mind} (h : MindAt w q) (i : Nat) : w.frozen? ⟨q.p, i, none⟩ = false := free_of h.obj i
theorem MindAt.slice {w : World} {q : Mind} (h : MindAt w q) : ∃ (a : Option Addr) (c : Nat), q.sl = .slice a q.can.length c := by
  rcases h.row.2 with ⟨hv, hn⟩ | ⟨g, cap, cur, hv, _⟩
  · exact ⟨none, 0, by rw [hv, hn]⟩
  · exact ⟨_, cap, hv⟩

/-- A cell of a row of bools. -/
theorem row_bool {w : World} {base : Nat} {v : Value} {D : List Bool} (h : w.ownsRow base 4 1 v D.length (D.map Value.bool)) {k : Nat} (hk : k < D.length) :
    ∃ g c, v = .slice (some ⟨g, 0, none⟩) D.length c ∧ g < w.heap.size ∧ base ≤ g ∧ w.cell? ⟨g, k, none⟩ = some (.bool (D.getD k false)) ∧ w.frozen? ⟨g, k, none⟩ = false := by
  rcases h.2 with ⟨hv, hn⟩ | ⟨g, cap, cur, hv, h0, h1, h2, h3, h4, h5⟩
  · omega
  · refine ⟨g, cap, hv, lt_of_heap h1, h0, ?_, free_of h1 _⟩
    rw [cell_of h1, ← Array.getElem?_toList]
    have := congrArg (fun l => l[k]?) h5
    simp only [List.getElem?_take, List.getElem?_map, List.getElem?_eq_getElem hk, Option.map_some] at this
    rw [if_pos (by omega)] at this
    rw [this, List.getD_eq_getElem?_getD, List.getElem?_eq_getElem hk]
    rfl

/-- A cell of a row of bools, set. -/
theorem row_bool_set {w : World} {base : Nat} {v : Value} {D : List Bool} (h : w.ownsRow base 4 1 v D.length (D.map Value.bool)) {k : Nat} (hk : k < D.length) {g : Nat} (hg : v.ownBlock = some g) (x : Bool) :
    (w.setCell ⟨g, k, none⟩ (.bool x)).ownsRow base 4 1 v (D.set k x).length ((D.set k x).map Value.bool) := by
  rw [List.length_set]
  refine ⟨by simp, ?_⟩
  rcases h.2 with ⟨hv, hn⟩ | ⟨g', cap, cur, hv, h0, h1, h2, h3, h4, h5⟩
  · omega
  · right
    have : g' = g := by rw [hv] at hg; simpa [Value.ownBlock] using hg
    subst this
    refine ⟨g', cap, cur.setIfInBounds k (.bool x), hv, h0, heap_setCell_at h1, h2, h3, by simp [h4], ?_⟩
    rw [Array.toList_setIfInBounds, List.map_set, ← h5, List.take_set]

def canT (c : List Bool) (t : Int) : Bool := decide (1 ≤ t) && decide (t < c.length) && c.getD t.toNat false

set_option maxHeartbeats 1000000 in
theorem can_calls {q : Mind} {w : World} (h : MindAt w q) (hl : q.can.length ≤ 262145) (t : Int) : Calls Try.prog 14 #[q.ptr, .int .i64 t] w fun e w' => e = .returned (.bool (canT q.can t)) ∧ w' = w := by
  have h2 := h.cell2
  obtain ⟨a, c, hs⟩ := h.slice
  rw [hs] at h2
  by_cases h1 : 1 ≤ t
  · by_cases ht : t < q.can.length
    · obtain ⟨i, rfl⟩ : ∃ i : Nat, t = i := ⟨t.toNat, by omega⟩
      obtain ⟨g, c', hv, _, _, hc, _⟩ := row_bool h.row (k := i) (by omega)
      rw [hs] at hv
      injection hv with hv1 _ hv2
      subst hv1
      have e : canT q.can (i : Int) = q.can.getD i false := by simp [canT, h1, ht]
      rw [e]
      have b1 : decide ((1 : Int) ≤ (i : Int)) = true := by simpa using h1
      have b2 : decide (i < q.can.length) = true := by simpa using ht
      generalize q.can.getD i false = x at *
      clear e hs hv2 h
      go_enter Try.func14, Try.ntmps14
      go_wp2
      go_ret
      exact ⟨by first | rfl | (cases x <;> rfl), rfl⟩
    · have e : canT q.can t = false := by simp [canT, ht]
      rw [e]
      have b1 : decide ((1 : Int) ≤ t) = true := by simpa using h1
      have b2 : decide (t < (q.can.length : Int)) = false := by simpa using ht
      clear e hs h
      go_enter Try.func14, Try.ntmps14
      go_wp2
      go_ret
      exact ⟨rfl, rfl⟩
  · have e : canT q.can t = false := by simp [canT, h1]
    rw [e]
    have b1 : decide ((1 : Int) ≤ t) = false := by simpa using h1
    clear e hs h
    go_enter Try.func14, Try.ntmps14
    go_wp2
    go_ret
    exact ⟨rfl, rfl⟩

def cnt (c : List Bool) : Nat := c.countP (· = true)
theorem cnt_le (c : List Bool) : cnt c ≤ c.length := List.countP_le_length
theorem cnt_take (c : List Bool) {i : Nat} (hi : i < c.length) : cnt (c.take (i + 1)) = cnt (c.take i) + if c.getD i false = true then 1 else 0 := by
  unfold cnt
  rw [List.take_succ_eq_append_getElem hi, List.countP_append, List.getD_eq_getElem?_getD, List.getElem?_eq_getElem hi]
  simp [List.countP_cons]

set_option maxHeartbeats 1000000 in
theorem count_calls {q : Mind} {w : World} (h : MindAt w q) (hl : q.can.length ≤ 262145) : Calls Try.prog 16 #[q.ptr] w fun e w' => e = .returned (.int .i64 (cnt q.can)) ∧ w' = w := by
  have h2 := h.cell2
  obtain ⟨a, c, hs⟩ := h.slice
  rw [hs] at h2
  have HR := Lib.hid h.row
  have HSL := Lib.hid hs
  clear hs h
  go_enter Try.func16, Try.ntmps16
  go_wp2
  go_loop [3, 11] (fun n i => ∃ k : Nat, k ≤ q.can.length ∧ i = .int .i64 k ∧ n = .int .i64 (cnt (q.can.take k))) (fun _ i => q.can.length - (intOf i).toNat)
  case atStart => exact ⟨0, Nat.zero_le _, rfl, rfl⟩
  case round =>
    obtain ⟨k, hk, rfl, rfl⟩ := hrel
    have hc0 := cnt_le (q.can.take k)
    have hc1 : (q.can.take k).length ≤ k := List.length_take_le _ _
    by_cases hlt : k < q.can.length
    · obtain ⟨g, c', hv, _, _, hc, _⟩ := row_bool HR.out (k := k) hlt
      rw [HSL.out] at hv
      injection hv with hv1 _ hv2
      subst hv1
      have HT := Lib.hid (cnt_take q.can hlt)
      generalize q.can.getD k false = x at *
      clear hv2
      cases x
      · go_wp2
        go_round
        case rel => exact ⟨k + 1, by omega, by go_num, by rw [HT.out]; rfl⟩
        case measure => simp [intOf]; omega
      · go_wp2
        go_round
        case rel => exact ⟨k + 1, by omega, by go_num, by rw [HT.out]; go_num⟩
        case measure => simp [intOf]; omega
    · go_wp2
      go_ret
      have e : k = q.can.length := by omega
      subst e
      rw [List.take_length]
      exact ⟨rfl, rfl⟩

end Go.Proofs.Ytmdfhaihbaiegaa
