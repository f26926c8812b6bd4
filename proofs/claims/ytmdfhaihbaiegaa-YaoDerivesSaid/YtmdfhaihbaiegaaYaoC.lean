/- What comes out of a term: the walk. -/
import Derived.Test.YtmdfhaihbaiegaaYaoB
import Derived.Deep.RegionHeld3
import Derived.Deep.RegionWith
import Derived.Deep.DeepCutAuto
set_option linter.unusedVariables false
set_option linter.unusedSimpArgs false
namespace Go.Proofs.Ytmdfhaihbaiegaa
open Go.RowKit

def optL (b : Int) : Bool → List Int | true => [b] | false => []
theorem mem_optL {b x : Int} {c : Bool} : x ∈ optL b c ↔ c = true ∧ x = b := by cases c <;> simp [optL]

def apartL (l : List Nd) (c : Int → Bool) (n : Nd) : List Int :=
  if n.kind = 3 then [n.a, n.b] else if n.kind = 7 then optL n.b (c n.a) else if n.kind = 8 then optL n.b (c (getN l n.a).a) else []

theorem apartL_iff (l : List Nd) (c : Int → Bool) (n : Nd) (x : Int) : x ∈ apartL l c n ↔ ApartP l (fun t => c t = true) n x := by
  unfold apartL ApartP
  by_cases h3 : n.kind = 3
  · simp [h3]
  · by_cases h7 : n.kind = 7
    · simp [h7, mem_optL]
    · by_cases h8 : n.kind = 8
      · simp [h8, mem_optL]
      · simp [h3, h7, h8]

theorem apartL_len (l : List Nd) (c : Int → Bool) (n : Nd) : (apartL l c n).length ≤ 2 := by unfold apartL; (repeat' split) <;> (try simp) <;> (unfold optL; split <;> simp)

/-- A row of ints that a call made. -/
def FreshI (base : Nat) (w : World) (a : Option Addr) (l : List Int) : Prop :=
  l = [] ∨ ∃ g, a = some ⟨g, 0, none⟩ ∧ base ≤ g ∧ g < w.heap.size ∧ ∀ i (h : i < l.length), w.cell? ⟨g, i, none⟩ = some (.int .i64 l[i])

theorem fresh_cell (w : World) (o1 : Obj) (c : Array Value) (e : TypeId) (i : Nat) : ((w.alloc o1).alloc (.cells c e)).cell? ⟨w.heap.size + 1, i, none⟩ = c[i]? := by
  rw [show w.heap.size + 1 = (w.alloc o1).heap.size from by simp]
  exact cell_of heap_alloc_at i

set_option maxHeartbeats 2000000 in
theorem apart_pair {q : Mind} {w : World} (l : ByteArray) (a b : Int) :
    Calls Try.prog 29 #[q.ptr, .agg #[.int .i64 3, .string l, .int .i64 a, .int .i64 b]] w fun e w' => ∃ s c, e = .returned (.slice s 2 c) ∧ FreshI w.heap.size w' s [a, b] ∧ Chg none_ w w' := by
  go_enter Try.func29, Try.ntmps29
  go_wp2
  go_ret
  refine ⟨_, _, rfl, .inr ⟨_, rfl, ?_, ?_, ?_⟩, ?_⟩
  · simp
  · simp
  · intro i h
    match i, h with
    | 0, _ => exact fresh_cell w _ _ _ 0
    | 1, _ => exact fresh_cell w _ _ _ 1
  · exact ((Chg.refl _ _).alloc _).alloc _

set_option maxHeartbeats 2000000 in
theorem apart_seal {q : Mind} {w : World} (h : MindAt w q) (hl : q.can.length ≤ 262145) (l : ByteArray) (a b : Int) (ha : 0 ≤ a ∧ a < q.can.length) :
    Calls Try.prog 29 #[q.ptr, .agg #[.int .i64 7, .string l, .int .i64 a, .int .i64 b]] w fun e w' => ∃ s c, e = .returned (.slice s (optL b (cbI q.can a)).length c) ∧ FreshI w.heap.size w' s (optL b (cbI q.can a)) ∧ Chg none_ w w' := by
  have h2 := h.cell2
  obtain ⟨s, c, hs⟩ := h.slice
  rw [hs] at h2
  obtain ⟨i, rfl⟩ : ∃ i : Nat, a = i := ⟨a.toNat, by omega⟩
  have hi : i < q.can.length := by omega
  obtain ⟨g, c', hv, hg, _, hc, _⟩ := row_bool h.row (k := i) hi
  rw [hs] at hv
  injection hv with hv1 _ hv2
  subst hv1
  simp only [cbI, Int.toNat_natCast]
  have hp := h.p_lt
  generalize q.can.getD i false = x at *
  clear hs hv2 h ha
  cases x
  all_goals
    go_enter Try.func29, Try.ntmps29
    go_wp2
    refine Mix.wp_region_mix (fun _ => True) (fun i => [0, 1, 3, 7, 0, 16, 63, 127].getD i 0) (fun i => [2, 2, 2, 2, 2, 2, 2, 2].getD i 0) (by kernel_rfl) ⟨by kernel_rfl, by kernel_rfl, by kernel_rfl, by kernel_rfl, by kernel_rfl⟩ trivial ?_; simp only [Mix.whole, List.getD_cons_zero, List.getD_cons_succ, Nat.reduceAdd]
    repeat (first | (refine Mix.pin_no rfl rfl (fun K hK => ?_); go_step; refine hK _ ?_; clear hK K) | (refine Mix.pin_not rfl rfl rfl rfl (fun K hK => ?_); simp only [List.setIfInBounds_toArray, List.set_cons_zero, List.set_cons_succ]; refine hK _ ?_; clear hK K) | (refine Mix.pin_yes rfl rfl rfl rfl (fun K hK => ?_); go_step; refine hK _ ?_; clear hK K))
    refine Mix.walk_nil ?_
    go_wp2
    go_ret
  · exact ⟨_, _, rfl, .inl rfl, ((Chg.refl _ _).alloc _).drew⟩
  · refine ⟨_, _, rfl, .inr ⟨_, rfl, ?_, ?_, ?_⟩, ?_⟩
    · simp
    · simp
    · intro i h
      match i, h with
      | 0, _ => show ((w.alloc _).alloc _).cell? _ = _; exact fresh_cell w _ _ _ 0
    · exact (((Chg.refl _ _).alloc _).drew).alloc _

set_option maxHeartbeats 2000000 in
theorem apart_none {q : Mind} {w : World} (k : Int) (l : ByteArray) (a b : Int) (h2 : k ≠ 3) (h7 : k ≠ 7) (h8 : k ≠ 8) :
    Calls Try.prog 29 #[q.ptr, .agg #[.int .i64 k, .string l, .int .i64 a, .int .i64 b]] w fun e w' => e = .returned (.slice none 0 0) ∧ Chg none_ w w' := by
  have b2 : (k == 3) = false := by simpa using h2
  have b7 : (k == 7) = false := by simpa using h7
  have b8 : (k == 8) = false := by simpa using h8
  clear h2 h7 h8
  go_enter Try.func29, Try.ntmps29
  go_wp2
  go_ret
  exact ⟨rfl, (Chg.refl _ _).alloc _⟩

structure ABox (q : Mind) (w : World) (g c i : Nat) (x : Bool) (b : Int) (pb : Nat) (wx : World) : Prop where
  fa : wx.cell? ⟨q.p, 2, none⟩ = some (.slice (some ⟨g, 0, none⟩) q.can.length c)
  fb : wx.cell? ⟨g, i, none⟩ = some (.bool x)
  fc : wx.cell? ⟨pb, 2, none⟩ = some (.int .i64 i)
  fd : wx.cell? ⟨w.heap.size, 3, none⟩ = some (.int .i64 b)
  fe : Chg none_ w wx
  ff : w.heap.size < wx.heap.size

theorem abox {q : Mind} {w wx : World} {g c i : Nat} {x : Bool} {a b : Int} {l : ByteArray} {pb : Nat} (hh : w.cell? ⟨q.p, 2, none⟩ = some (.slice (some ⟨g, 0, none⟩) q.can.length c) ∧ w.cell? ⟨g, i, none⟩ = some (.bool x) ∧ q.p < w.heap.size ∧ g < w.heap.size)
    (hc : Chg none_ (w.alloc (.cells #[.int .i64 8, .string l, .int .i64 a, .int .i64 b] 38)) wx) (hp : wx.cell? ⟨pb, 2, none⟩ = some (.int .i64 i)) : ABox q w g c i x b pb wx := by
  obtain ⟨h1, h2, h3, h4⟩ := hh
  have hs := hc.size
  simp only [World.size_alloc] at hs
  refine ⟨?_, ?_, hp, ?_, ((Chg.refl none_ w).alloc _).trans hc (fun _ _ h => h), by omega⟩
  · rw [cell_eq (hc.block _ (by simp; omega) (fun h => h)), cell_eq (heap_alloc_lt h3)]; exact h1
  · rw [cell_eq (hc.block _ (by simp; omega) (fun h => h)), cell_eq (heap_alloc_lt h4)]; exact h2
  · rw [cell_eq (hc.block _ (by simp) (fun h => h))]; exact cell_of heap_alloc_at 3

set_option maxHeartbeats 4000000 in
theorem apart_box {q : Mind} {w : World} {s : St} (h : MindAt w q) (hst : StoreAt w s) (hsp : q.sp = s.p) (hl : q.can.length ≤ 262145) (l : ByteArray) (a b : Int) (ha : 0 ≤ (getN s.nodes a).a ∧ (getN s.nodes a).a < q.can.length) :
    Calls Try.prog 29 #[q.ptr, .agg #[.int .i64 8, .string l, .int .i64 a, .int .i64 b]] w fun e w' => ∃ sl c, e = .returned (.slice sl (optL b (cbI q.can (getN s.nodes a).a)).length c) ∧ FreshI w.heap.size w' sl (optL b (cbI q.can (getN s.nodes a).a)) ∧ Chg none_ w w' := by
  have hcall := fun w' (h : StoreAt w' s) => get_calls h a
  have HC := Lib.hid hcall
  have HST := Lib.hid hst
  have HM := Lib.hid h
  have h0 := h.cell0
  rw [hsp] at h0
  have h2 := h.cell2
  obtain ⟨s2, c, hs⟩ := h.slice
  rw [hs] at h2
  generalize getN s.nodes a = p at *
  obtain ⟨pk, pl, pa, pb⟩ := p
  dsimp only at ha
  obtain ⟨i, rfl⟩ : ∃ i : Nat, pa = i := ⟨pa.toNat, by omega⟩
  have hi : i < q.can.length := by omega
  obtain ⟨g, c', hv, hg, _, hc, _⟩ := row_bool h.row (k := i) hi
  rw [hs] at hv
  injection hv with hv1 _ hv2
  subst hv1
  simp only [cbI, Int.toNat_natCast]
  have hp := h.p_lt
  generalize q.can.getD i false = x at *
  clear hs hv2 h ha hcall hst hsp
  have HH := Lib.hid (And.intro h2 (And.intro hc (And.intro hp hg)))
  go_enter Try.func29, Try.ntmps29
  go_upto_region 8 with fail
  go_cut [5] (fun u5 wx => ∃ pb, u5 = .pointer (some ⟨pb, 0, none⟩) ∧ ABox q w g c i x b pb wx)
  case first => as_aux_lemma =>
    go_region_with (go_at_call 17; refine (HC.out _ (by repeat (first | exact HST.out | apply StoreAt.alloc | apply StoreAt.drew))).mono ?_; rintro e w2 ⟨rfl, hc2⟩; obtain ⟨q1, q2⟩ := hc2.cells; have qs := hc2.size; simp only [World.size_drew, World.size_alloc] at qs)
    all_goals
      clear h0 h2 hc
      go_wp2
      go_meet
      refine ⟨_, rfl, abox (l := l) (a := a) HH.out ?_ ?_⟩
      · clear q1 q2
        repeat (first | with_reducible exact Chg.refl _ _ | with_reducible exact hc2 | (with_reducible refine Chg.setCell ?_ (.inr (by simp)) _) | with_reducible apply Chg.alloc | with_reducible apply Chg.drew | (with_reducible refine Chg.trans (M' := none_) ?_ hc2 (fun _ _ h => h)))
      · first | (with_reducible exact cell_of heap_alloc_at 2) | (go_simp; done)
  case rest =>
  obtain ⟨pb, rfl, hcc⟩ := hcut
  obtain ⟨fa, fb, fc, fd, fe, ff⟩ := hcc
  have FE := Lib.hid fe
  clear fe h0 h2 hc HC HST HM HH
  go_wp2
  refine Mix.wp_region_mix (fun _ => True) (fun i => [0, 1, 3, 7, 0, 16, 63, 127].getD i 0) (fun i => [2, 2, 2, 2, 2, 2, 2, 2].getD i 0) (by kernel_rfl) ⟨by kernel_rfl, by kernel_rfl, by kernel_rfl, by kernel_rfl, by kernel_rfl⟩ trivial ?_; simp only [Mix.whole, List.getD_cons_zero, List.getD_cons_succ, Nat.reduceAdd]
  repeat (first | (refine Mix.pin_no rfl rfl (fun K hK => ?_); go_step; refine hK _ ?_; clear hK K) | (refine Mix.pin_not rfl rfl rfl rfl (fun K hK => ?_); simp only [List.setIfInBounds_toArray, List.set_cons_zero, List.set_cons_succ]; refine hK _ ?_; clear hK K) | (refine Mix.pin_yes rfl rfl rfl rfl (fun K hK => ?_); go_step; refine hK _ ?_; clear hK K))
  refine Mix.walk_nil ?_
  cases x
  · go_wp2
    go_ret
    exact ⟨_, _, rfl, .inl rfl, FE.out.drew⟩
  · go_wp2
    go_ret
    refine ⟨_, _, rfl, .inr ⟨_, rfl, by omega, by simp, ?_⟩, ?_⟩
    · intro i h
      match i, h with
      | 0, _ => exact cell_of heap_alloc_at 0
    · exact FE.out.drew.alloc _

theorem apart_calls {q : Mind} {w : World} {s : St} (h : MindAt w q) (hst : StoreAt w s) (hsp : q.sp = s.p) (hl : q.can.length ≤ 262145) (n : Nd) (h7 : n.kind = 7 → 0 ≤ n.a ∧ n.a < q.can.length) (h8 : n.kind = 8 → 0 ≤ (getN s.nodes n.a).a ∧ (getN s.nodes n.a).a < q.can.length) :
    Calls Try.prog 29 #[q.ptr, .agg #[.int .i64 n.kind, .string n.label, .int .i64 n.a, .int .i64 n.b]] w fun e w' => ∃ sl c, e = .returned (.slice sl (apartL s.nodes (cbI q.can) n).length c) ∧ FreshI w.heap.size w' sl (apartL s.nodes (cbI q.can) n) ∧ Chg none_ w w' := by
  obtain ⟨k, l, a, b⟩ := n
  dsimp only at h7 h8
  unfold apartL
  dsimp only
  by_cases e3 : k = 3
  · subst e3
    rw [if_pos rfl]
    exact apart_pair l a b
  rw [if_neg e3]
  by_cases e7 : k = 7
  · subst e7
    rw [if_pos rfl]
    exact apart_seal h hl l a b (h7 rfl)
  rw [if_neg e7]
  by_cases e8 : k = 8
  · subst e8
    rw [if_pos rfl]
    exact apart_box h hst hsp hl l a b (h8 rfl)
  rw [if_neg e8]
  refine (apart_none k l a b e3 e7 e8).mono ?_
  rintro e w' ⟨rfl, hc⟩
  exact ⟨_, _, rfl, .inl rfl, hc⟩

end Go.Proofs.Ytmdfhaihbaiegaa
