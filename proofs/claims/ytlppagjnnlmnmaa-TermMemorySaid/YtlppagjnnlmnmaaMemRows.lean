/- Rows of integers that are written in place, beside a store. -/
import Derived.Test.YtlppagjnnlmnmaaLawLists
import Derived.OwnWalk
set_option linter.unusedVariables false
set_option linter.unusedSimpArgs false
namespace Go.Proofs.Ytlppagjnnlmnmaa
open Go.RowKit

def idxs (k : Nat) : List Int := (List.range k).map fun i : Nat => (i : Int) + 1
theorem idxs_len (k : Nat) : (idxs k).length = k := by simp [idxs]
theorem idxs_succ (k : Nat) : idxs (k + 1) = idxs k ++ [(k : Int) + 1] := by simp [idxs, List.range_succ]
theorem idxs_get {k i : Nat} (h : i < (idxs k).length) : (idxs k)[i] = (i : Int) + 1 := by simp [idxs]
theorem mem_idxs {k : Nat} {x : Int} (h : x ∈ idxs k) : 1 ≤ x ∧ x ≤ k := by
  obtain ⟨i, hi, rfl⟩ := List.getElem_of_mem h
  rw [idxs_get hi]
  rw [idxs_len] at hi
  omega

theorem mfresh_right {N : List Nd} {k : Nat} (hk : k ≤ 1000) : rightB N (freshN k) = true := by
  unfold rightB
  rw [if_pos (show (freshN k).kind = 1 from rfl)]
  have e : (ByteArray.empty).toList = [] := by rw [ByteArray.toList_eq]; rfl
  rw [show (freshN (k : Int)).a = (k : Int) + 1 from rfl, show (freshN (k : Int)).b = 0 from rfl, show (freshN (k : Int)).label = ByteArray.empty from rfl, e]
  simp
  omega

theorem frL_eq : ∀ k, k ≤ 1000 → frL k = (List.range k).map (fun i : Nat => freshN (i : Int)) ∧ (frL k).length = k
  | 0, _ => by simp [frL]
  | k + 1, h => by
    obtain ⟨h1, h2⟩ := frL_eq k (by omega)
    have hm : freshN (k : Int) ∉ frL k := by
      rw [h1]; simp only [List.mem_map, List.mem_range, not_exists, not_and]
      intro x hx e
      simp [freshN] at e; omega
    have hr : rightB (frL k) (freshN (k : Int)) = true := mfresh_right (by omega)
    have e : mkL (frL k) (freshN k) = frL k ++ [freshN k] := by
      rcases mk_cases (frL k) (freshN k) with ⟨i, hi, e, _⟩ | ⟨_, h3, _⟩ | ⟨_, _, h3, _⟩ | ⟨_, _, _, _, _, e⟩
      · exact absurd (e ▸ List.getElem_mem hi) hm
      · rw [hr] at h3; cases h3
      · omega
      · exact e
    refine ⟨?_, ?_⟩
    · show mkL (frL k) (freshN k) = _
      rw [e, h1, List.range_succ, List.map_append]; rfl
    · show (mkL (frL k) (freshN k)).length = _
      rw [e]; simp [h2]
theorem frT (k : Nat) (h : k ≤ 1000) : mkT (frL k) (freshN (k : Int)) = (k : Int) + 1 := by
  obtain ⟨h1, h2⟩ := frL_eq k h
  have hm : freshN (k : Int) ∉ frL k := by
    rw [h1]; simp only [List.mem_map, List.mem_range, not_exists, not_and]
    intro x hx e
    simp [freshN] at e; omega
  have hr : rightB (frL k) (freshN (k : Int)) = true := mfresh_right (by omega)
  rcases mk_cases (frL k) (freshN k) with ⟨i, hi, e, _⟩ | ⟨_, h3, _⟩ | ⟨_, _, h3, _⟩ | ⟨_, _, _, e, _⟩
  · exact absurd (e ▸ List.getElem_mem hi) hm
  · rw [hr] at h3; cases h3
  · omega
  · rw [e, h2]

theorem frW : ∀ k, k ≤ 1000 → WF (frL k)
  | 0, _ => fun i hi => by simp [frL] at hi
  | k + 1, h => mkL_wf (freshN k) (frW k (by omega))

theorem mem_list {N : Nat} (hN : N ≤ 1000) : itemsOf (listL (frL N) (idxs N)) (listT (frL N) (idxs N)) = some (idxs N) := by
  have hl := (frL_eq N hN).2
  have hx : ∀ x ∈ idxs N, knownB (frL N).length x = true := fun x hx => by have := mem_idxs hx; rw [knownB_iff, hl]; omega
  have a1 : allKnown (frL N) (idxs N) = true := by unfold allKnown; rw [List.all_eq_true]; exact hx
  have e1 : listT (frL N) (idxs N) = (listM (frL N) (idxs N)).1 ∧ listL (frL N) (idxs N) = (listM (frL N) (idxs N)).2 := ⟨if_pos a1, if_pos a1⟩
  rw [e1.1, e1.2]
  exact list_items (listM_wf (frW N hN) _) hx (by rw [hl, idxs_len]; omega) (List.prefix_refl _)

theorem Both.nil {W wr : World} {p : Nat} {L : List Nd} {d : Int} (h : Both W wr p L d) : With W wr p L d (.slice none 0 0) [] :=
  ⟨h.own.mono fun b hb => by rcases hb with hb | hb; exact hb; simp [Value.ownBlock] at hb, World.ownsRow_nil _ _ _ _, h.kept⟩
theorem With.alloc {W wr : World} {p : Nat} {L : List Nd} {d : Int} {v : Value} {D : List Int} (h : With W wr p L d v D) (o : Obj) : With W (wr.alloc o) p L d v D :=
  ⟨(h.own.alloc o).mono fun b hb => .inl hb, h.row.alloc _, h.kept.alloc (fun b hb => h.own.lt b (.inl hb)) _⟩
theorem With.fresh {W wr : World} {p : Nat} {L : List Nd} {d : Int} {v : Value} {D : List Int} (h : With W wr p L d v D) :
    Calls Try.prog 15 #[.pointer (some ⟨p, 0, none⟩)] wr fun e w' => e = .returned (.int .i64 (mkT L (freshN d))) ∧ With W w' p (mkL L (freshN d)) (freshD L d) v D :=
  (h.own.fresh).mono fun e w' ⟨he, o, k⟩ => ⟨he, o, k.row h.row (fun b hb => .inr hb), h.kept.trans k fun _ h => .inl h⟩

theorem With.listpre {W wr : World} {p : Nat} {L : List Nd} {d : Int} {ao : Option Addr} {n c : Nat} {D E : List Int} (h : With W wr p L d (.slice ao n c) (D ++ E)) (hn : n = (D ++ E).length) (hD : D.length ≤ 1000000) (c' : Nat) :
    Calls Try.prog 24 #[.pointer (some ⟨p, 0, none⟩), .slice ao D.length c'] wr fun e w' => e = .returned (.int .i64 (listT L D)) ∧ With W w' p (listL L D) d (.slice ao n c) (D ++ E) := by
  subst hn
  have hl : LieIn (fun b => b < W.heap.size ∨ (Value.slice ao (D ++ E).length c).ownBlock = some b) wr ao D := by
    rcases (reads_row h.row).1 with h1 | ⟨b, off, rfl, hb, hc⟩
    · exact .inl (List.append_eq_nil_iff.1 h1).1
    · obtain ⟨g, c2, hv, _⟩ : ∃ g c2, (Value.slice (some ⟨b, off, none⟩) (D ++ E).length c) = .slice (some ⟨g, 0, none⟩) (D ++ E).length c2 ∧ True := by
        rcases h.row.2 with ⟨hv, hz⟩ | ⟨g, cap, cur, hv, _⟩
        · cases hv
        · exact ⟨g, cap, hv, trivial⟩
      simp only [Value.slice.injEq, Option.some.injEq, Addr.mk.injEq] at hv
      obtain ⟨⟨rfl, rfl, _⟩, _, _⟩ := hv
      exact .inr ⟨b, 0, rfl, .inr rfl, hb, fun i hi => by rw [hc i (by rw [List.length_append]; omega), List.getElem_append_left hi]⟩
  exact (h.own.list hl (by unfold maxLen; omega) c').mono fun e w' ⟨he, o, k⟩ => ⟨he, o, k.row h.row (fun b hb => .inr hb), h.kept.trans k fun _ h => .inl h⟩

theorem row_form {w : World} {base : Nat} {v : Value} {D : List Int} (h : w.ownsRow base 3 1 v D.length (D.map (Value.int .i64))) (hD : 0 < D.length) :
    ∃ g c, v = .slice (some ⟨g, 0, none⟩) D.length c ∧ g < w.heap.size ∧ base ≤ g := by
  rcases h.2 with ⟨hv, hn⟩ | ⟨g, cap, cur, hv, h0, h1, h2, h3, h4, h5⟩
  · omega
  · exact ⟨g, cap, hv, (Array.getElem?_eq_some_iff.1 h1).1, h0⟩

theorem row_int_free {w : World} {base g n c : Nat} {D : List Int} (h : w.ownsRow base 3 1 (.slice (some ⟨g, 0, none⟩) n c) D.length (D.map (Value.int .i64))) (i : Nat) : w.frozen? ⟨g, i, none⟩ = false := by
  obtain ⟨cap, cur, _, q1, _⟩ := own_row h (b := g) rfl
  exact free_of q1 i

theorem row_int_set {w : World} {base : Nat} {v : Value} {D : List Int} (h : w.ownsRow base 3 1 v D.length (D.map (Value.int .i64))) {k : Nat} (hk : k < D.length) {g : Nat} (hg : v.ownBlock = some g) (x : Int) :
    (w.setCell ⟨g, k, none⟩ (.int .i64 x)).ownsRow base 3 1 v (D.set k x).length ((D.set k x).map (Value.int .i64)) := by
  rw [List.length_set]
  refine ⟨by simp, ?_⟩
  rcases h.2 with ⟨hv, hn⟩ | ⟨g', cap, cur, hv, h0, h1, h2, h3, h4, h5⟩
  · omega
  · right
    have : g' = g := by rw [hv] at hg; simpa [Value.ownBlock] using hg
    subst this
    refine ⟨g', cap, cur.setIfInBounds k (.int .i64 x), hv, h0, heap_setCell_at h1, h2, h3, by simp [h4], ?_⟩
    rw [Array.toList_setIfInBounds, List.map_set, ← h5, List.take_set]

/-- The store beside three rows. -/
structure MS (W w : World) (p : Nat) (L : List Nd) (d : Int) (gr nr cr ga na ca gb nb cb : Nat) (B : List Int) : Prop where
  own : Own (fun k => k < W.heap.size ∨ k = gr ∨ k = ga ∨ k = gb) w p L d
  rr : ∃ R : List Int, R.length = nr ∧ w.ownsRow W.heap.size 3 1 (.slice (some ⟨gr, 0, none⟩) nr cr) R.length (R.map (Value.int .i64))
  ra : ∃ A : List Int, A.length = na ∧ w.ownsRow W.heap.size 3 1 (.slice (some ⟨ga, 0, none⟩) na ca) A.length (A.map (Value.int .i64))
  rb : w.ownsRow W.heap.size 3 1 (.slice (some ⟨gb, 0, none⟩) nb cb) B.length (B.map (Value.int .i64))
  ne1 : ga ≠ gr
  ne2 : gb ≠ gr
  ne3 : gb ≠ ga
  kept : Kept (fun b => b < W.heap.size) W w

theorem items_two {W w5 wa wb : World} {p : Nat} {L : List Nd} {d : Int} {gr nr cr ga na ca gb nb cb : Nat} {R A B : List Int} (h : With W w5 p L d (.slice (some ⟨gr, 0, none⟩) nr cr) R) (hR : R.length = nr) (c1 : Chg none_ w5 wa)
    (ra : wa.ownsRow w5.heap.size 3 1 (.slice (some ⟨ga, 0, none⟩) na ca) A.length (A.map (Value.int .i64))) (hA : A.length = na) (c2 : Chg none_ wa wb) (rb : wb.ownsRow wa.heap.size 3 1 (.slice (some ⟨gb, 0, none⟩) nb cb) B.length (B.map (Value.int .i64))) :
    MS W wb p L d gr nr cr ga na ca gb nb cb B := by
  have hgr := own_block_lt h.row (b := gr) rfl
  have hga := own_block_lt ra (b := ga) rfl
  have hgb := own_block_lt rb (b := gb) rfl
  have hga0 := (ra.lt ga rfl).1
  have hgb0 := (rb.lt gb rfl).1
  have s1 := c1.size
  have s2 := c2.size
  have c12 := c1.trans c2 (fun _ _ h => h)
  have hs := h.kept.size
  refine ⟨(h.own.chg c12 (fun _ h => h.elim)).mono fun b hb => ?_, ⟨R, hR, row_keep h.row fun b hb => c12.block b (own_block_lt h.row hb) (fun h => h)⟩, ⟨A, hA, ownsRow_base (row_keep ra fun b hb => c2.block b (own_block_lt ra hb) (fun h => h)) (by omega)⟩, ownsRow_base rb (by omega), by omega, by omega, by omega, h.kept.trans (c12.kept (X := fun b => b < W.heap.size) (fun b hb => by omega)) fun _ h => h⟩
  rcases hb with hb | rfl | rfl | rfl
  · exact .inl (.inl hb)
  · exact .inl (.inr rfl)
  · exact .inr ⟨by omega, by omega⟩
  · exact .inr ⟨by omega, by omega⟩

theorem MS.setA {W w : World} {p : Nat} {L : List Nd} {d : Int} {gr nr cr ga na ca gb nb cb : Nat} {B : List Int} (h : MS W w p L d gr nr cr ga na ca gb nb cb B) {k : Nat} (hk : k < na) (x : Int) : MS W (w.setCell ⟨ga, k, none⟩ (.int .i64 x)) p L d gr nr cr ga na ca gb nb cb B := by
  obtain ⟨R, hR, rr⟩ := h.rr
  obtain ⟨A, hA, ra⟩ := h.ra
  have hc : Chg (fun k => k = ga) w (w.setCell ⟨ga, k, none⟩ (.int .i64 x)) := (Chg.refl (fun k => k = ga) w).setCell (p := ⟨ga, k, none⟩) (.inl rfl) _
  have h0 := (ra.lt ga rfl).1
  refine ⟨(h.own.chg hc (fun _ h => .inr (.inr (.inl h)))).mono fun b hb => .inl hb, ⟨R, hR, row_keep rr fun b hb => hc.block b (own_block_lt rr hb) (fun e => ?_)⟩, ⟨A.set k x, by rw [List.length_set]; exact hA, row_int_set ra (by omega) rfl x⟩, row_keep h.rb fun b hb => hc.block b (own_block_lt h.rb hb) (fun e => ?_), h.ne1, h.ne2, h.ne3, h.kept.trans (Y := fun b => b < W.heap.size) ⟨hc.os, hc.tape, hc.output, hc.size, fun b hb => hc.block b (h.own.lt b (.inl hb)) (fun e => by omega)⟩ fun _ h => h⟩
  · simp [Value.ownBlock] at hb; have := h.ne1; omega
  · simp [Value.ownBlock] at hb; have := h.ne3; omega

theorem MS.setR {W w : World} {p : Nat} {L : List Nd} {d : Int} {gr nr cr ga na ca gb nb cb : Nat} {B : List Int} (h : MS W w p L d gr nr cr ga na ca gb nb cb B) {k : Nat} (hk : k < nr) (x : Int) : MS W (w.setCell ⟨gr, k, none⟩ (.int .i64 x)) p L d gr nr cr ga na ca gb nb cb B := by
  obtain ⟨R, hR, rr⟩ := h.rr
  obtain ⟨A, hA, ra⟩ := h.ra
  have hc : Chg (fun k => k = gr) w (w.setCell ⟨gr, k, none⟩ (.int .i64 x)) := (Chg.refl (fun k => k = gr) w).setCell (p := ⟨gr, k, none⟩) (.inl rfl) _
  have h0 := (rr.lt gr rfl).1
  refine ⟨(h.own.chg hc (fun _ h => .inr (.inl h))).mono fun b hb => .inl hb, ⟨R.set k x, by rw [List.length_set]; exact hR, row_int_set rr (by omega) rfl x⟩, ⟨A, hA, row_keep ra fun b hb => hc.block b (own_block_lt ra hb) (fun e => ?_)⟩, row_keep h.rb fun b hb => hc.block b (own_block_lt h.rb hb) (fun e => ?_), h.ne1, h.ne2, h.ne3, h.kept.trans (Y := fun b => b < W.heap.size) ⟨hc.os, hc.tape, hc.output, hc.size, fun b hb => hc.block b (h.own.lt b (.inl hb)) (fun e => by omega)⟩ fun _ h => h⟩
  · simp [Value.ownBlock] at hb; have := h.ne1; omega
  · simp [Value.ownBlock] at hb; have := h.ne2; omega

/-- Behind the append to the first of the told lists: what is left of use. -/
theorem MS.grown {W w w' : World} {p : Nat} {L : List Nd} {d : Int} {gr nr cr ga na ca gb nb cb : Nat} {B : List Int} (h : MS W w p L d gr nr cr ga na ca gb nb cb B) (hg : w.grownBy w' (some ga)) : With W w' p L d (.slice (some ⟨gb, 0, none⟩) nb cb) B := by
  obtain ⟨A, hA, ra⟩ := h.ra
  have h0 := (ra.lt ga rfl).1
  have hc : Chg (fun k => k = ga) w w' := ⟨hg.os, hg.tape, hg.output, hg.size, fun k hk hn => hg.block k hk (fun e => hn (by injection e with e))⟩
  refine ⟨(h.own.chg hc (fun _ h => .inr (.inr (.inl h)))).mono fun b hb => ?_, row_keep h.rb fun b hb => hc.block b (own_block_lt h.rb hb) (fun e => ?_), h.kept.trans (Y := fun b => b < W.heap.size) ⟨hc.os, hc.tape, hc.output, hc.size, fun b hb => hc.block b (h.own.lt b (.inl hb)) (fun e => by omega)⟩ fun _ h => h⟩
  · rcases hb with hb | hb
    · exact .inl (.inl hb)
    · simp [Value.ownBlock] at hb; exact .inl (.inr (.inr (.inr hb.symm)))
  · simp [Value.ownBlock] at hb; have := h.ne3; omega

theorem MS.alloc {W w : World} {p : Nat} {L : List Nd} {d : Int} {gr nr cr ga na ca gb nb cb : Nat} {B : List Int} (h : MS W w p L d gr nr cr ga na ca gb nb cb B) (o : Obj) : MS W (w.alloc o) p L d gr nr cr ga na ca gb nb cb B := by
  obtain ⟨R, hR, rr⟩ := h.rr
  obtain ⟨A, hA, ra⟩ := h.ra
  exact ⟨(h.own.alloc o).mono fun b hb => .inl hb, ⟨R, hR, rr.alloc _⟩, ⟨A, hA, ra.alloc _⟩, h.rb.alloc _, h.ne1, h.ne2, h.ne3, h.kept.alloc (fun b hb => h.own.lt b (.inl hb)) _⟩

theorem items_own {X : Nat → Prop} {w : World} {p : Nat} {l : List Nd} {d : Int} (h : Own X w p l d) {t : Int} {D : List Int} (ht : itemsOf l t = some D) {n : Nat} (hn : D.length = n) (hD : 0 < n) :
    Calls Try.prog 25 #[.pointer (some ⟨p, 0, none⟩), .int .i64 t] w fun e w' => ∃ g c, e = .returned (.tuple #[.slice (some ⟨g, 0, none⟩) n c, .bool true]) ∧ w'.ownsRow w.heap.size 3 1 (.slice (some ⟨g, 0, none⟩) n c) D.length (D.map (Value.int .i64)) ∧ Chg none_ w w' := by
  subst hn
  refine (items_calls h t).mono fun e w' hr => ?_
  rcases hr.out with ⟨h1, _⟩ | ⟨v, D', h1, he, hrow⟩
  · rw [ht] at h1; cases h1
  · rw [ht] at h1
    obtain rfl : D = D' := by injection h1
    obtain ⟨g, c, rfl, _, _⟩ := row_form hrow hD
    exact ⟨g, c, he, hrow, hr.chg⟩

end Go.Proofs.Ytlppagjnnlmnmaa
