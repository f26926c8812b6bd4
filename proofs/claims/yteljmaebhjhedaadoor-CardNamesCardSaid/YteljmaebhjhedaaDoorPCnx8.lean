/- What this claim reaches of a longer text of this session. -/
import Derived.Test.YteljmaebhjhedaaDoorPCnx0
import Derived.Handy
import Derived.Test.YteljmaebhjhedaaDoorPCnx1
import Derived.Test.YteljmaebhjhedaaDoorPCnx2
import Derived.Test.YteljmaebhjhedaaDoorPCnx3
import Derived.Test.YteljmaebhjhedaaDoorPCnx4
import Derived.Test.YteljmaebhjhedaaDoorPCnx6
import Derived.Test.YteljmaebhjhedaaDoorPCnx7
namespace Go.Proofs.YteljmaebhjhedaaDoor.PCn
open Go.RowKit Go.Proofs.YteljmaebhjhedaaDoorW.PrintWords Go.Proofs.YteljmaebhjhedaaDoorW.PrintLast Go.Proofs.YteljmaebhjhedaaDoorW.PrintMore
attribute [local go_sem] max2_int min2_int max_two min_two max_three min_three max_four min_four   -- for this text's walks alone
set_option linter.unusedVariables false
set_option linter.unusedSimpArgs false
theorem iteT {α : Type} (f : Bool → α) (g g' : Int) : (if g = g' then f true else f false) = f (g == g') := by
 by_cases h : g = g'
 · rw [if_pos h, h, beq_self_eq_true]
 · rw [if_neg h, beq_eq_false_iff_ne.2 h]
theorem iteA {α : Type} (f : Bool → α) (g g' : Int) (x : Bool) : (if g = g' then f x else f false) = f (g == g' && x) := by
 by_cases h : g = g'
 · rw [if_pos h, h, beq_self_eq_true, Bool.true_and]
 · rw [if_neg h, beq_eq_false_iff_ne.2 h, Bool.false_and]
theorem ite6 {α : Type} (f : Bool → α) (a a' b b' c c' d d' e e' g g' : Int) : (if a = a' then if b = b' then if c = c' then if d = d' then if e = e' then if g = g' then f true else f false else f false else f false else f false else f false else f false) = f (a == a' && (b == b' && (c == c' && (d == d' && (e == e' && (g == g')))))) := by
 rw [iteT, iteA, iteA, iteA, iteA, iteA]
theorem sB {α : Type} (l : List α) (i : Nat) (a : α) : l.toArray.setIfInBounds i a = (l.set i a).toArray := List.setIfInBounds_toArray ..
theorem sZ {α : Type} (l : List α) (a b : α) : (a :: l).set 0 b = b :: l := List.set_cons_zero
theorem sS {α : Type} (l : List α) (a b : α) (n : Nat) : (a :: l).set (n + 1) b = a :: l.set n b := List.set_cons_succ
theorem mk0 {p : Prop} (h : p) : Aside0 p := Aside0.mk h
theorem kC {w : World} {g : Nat} {t : TypeId} {cs : Array Value} (h : w.heap[g]? = some (.cells cs t (0, 0))) (i : Nat) : w.cell? ⟨g, i, none⟩ = cs[i]? := blk_cell h i
theorem kA {w : World} {g : Nat} {o : Obj} (h : w.heap[g]? = some o) (o' : Obj) : (w.alloc o').heap[g]? = some o := blk_alloc h o'
theorem kD {w : World} {g : Nat} {o : Obj} (h : w.heap[g]? = some o) : w.drew.heap[g]? = some o := h
theorem kN {w : World} {g : Nat} {o : Obj} (h : w.heap[g]? = some o) (n : Nat) : (w.drewN n).heap[g]? = some o := h
theorem bS {w W : World} {g j : Nat} {v : Value} (h : Below w.heap.size w W) (hg : w.heap.size ≤ g) : Below w.heap.size w (W.setCell ⟨g, j, none⟩ v) := below_set h hg
set_option maxHeartbeats 8000000 in
set_option maxRecDepth 100000 in
theorem conclavelaw09_CardNames.calls (k : Nat) (a0_0 : Int) (a0_1 : Int) (a0_2 : Int) (a0_3 : Int) (a0_4 : Int) (a1_0 : Int) (a1_1 : Int) (a1_2 : Int) (a1_3 : Int) (a1_4 : Int) (r : Bool) (w : World) (hrG : TabG w) (h : conclavelaw09_CardNames.f k a0_0 a0_1 a0_2 a0_3 a0_4 a1_0 a1_1 a1_2 a1_3 a1_4 = some r) (hr : r = true) :
 Calls Tryd.prog 6 #[.agg #[.int .i64 a0_0, .int .i64 a0_1, .int .i64 a0_2, .int .i64 a0_3, .int .i64 a0_4], .agg #[.int .i64 a1_0, .int .i64 a1_1, .int .i64 a1_2, .int .i64 a1_3, .int .i64 a1_4]] w fun e w' => e = .returned (.bool r) ∧ Below w.heap.size w w' := by
 have hu46 := Tryd.underlying46
 have HRG := mk0 hrG
 clear hrG
 have hu46 := Tryd.underlying46
 have hu30 := Tryd.underlying30
 have HB := mk0 (Below.refl w.heap.size w)
 unfold conclavelaw09_CardNames.f at h
 have H := h
 clear h
 replace H := Option.bind_eq_some_iff.mp H
 obtain ⟨t223, A30, H⟩ := H
 have A3 := mk0 A30
 clear A30
 by_cases c4 : t223 = true
 ·
  subst c4
  rw [if_pos rfl] at H
  by_cases cb : (namesBad a0_2 a1_2 || namesBad a0_3 a1_3 || namesBad a0_4 a1_4) = true
  ·
   rw [if_pos cb] at H
   obtain rfl := Option.some.inj H
   clear H
   go_enter Tryd.func6, Tryd.ntmps6
   go_upto_block 0 with (first | ((with_reducible refine gate_dst (N := 2) rfl ?_); refine box_event ?hg (N := 2) ?hd (cs := #[.int .i64 a0_0, .int .i64 a0_1, .int .i64 a0_2, .int .i64 a0_3, .int .i64 a0_4]) (t := 46) ?hr ?_; (case hd => rfl); (case hg => rfl); (case hr => first | (go_simp; done) | (go_simp; rfl)); intro gb221 hg w6 hbox hb; have n0_ := mk0 (below_step (by repeat (first | (with_reducible first |exact HB.out |apply below_alloc |apply pw_below_drewN |apply below_drew1) |exact HB.out)) hb); have n1_ := mk0 (hbox); have n2_ := mk0 ((by rw [hg]; exact (below_size (by repeat (first | (with_reducible first |exact HB.out |apply below_alloc |apply pw_below_drewN |apply below_drew1) |exact HB.out))) : w.heap.size ≤ gb221)); have n3_ := mk0 ((by rw [hg]; exact (below_size (by repeat (first | (with_reducible first |exact HB.out |apply below_alloc |apply pw_below_drewN |apply below_drew1) |exact HB.out))) : w.heap.size ≤ gb221)); clear HB; have HB := n0_; have BK221 := n1_; have GW221 := n2_; have GE221 := n3_; clear n0_ n1_ n2_ n3_; clear hb hbox hg) | ((with_reducible refine gate_dst (N := 3) rfl ?_); refine box_event ?hg (N := 3) ?hd (cs := #[.int .i64 a1_0, .int .i64 a1_1, .int .i64 a1_2, .int .i64 a1_3, .int .i64 a1_4]) (t := 46) ?hr ?_; (case hd => rfl); (case hg => rfl); (case hr => first | (go_simp; done) | (go_simp; rfl)); intro gb222 hg w7 hbox hb; have n0_ := mk0 (blk_below (g := gb221) (o := .cells #[.int .i64 a0_0, .int .i64 a0_1, .int .i64 a0_2, .int .i64 a0_3, .int .i64 a0_4] 46 (0, 0)) (by (with_reducible repeat (first |refine kN ?_ _ |refine kD ?_ |refine kA ?_ _)); exact BK221.out) hb); have n1_ := mk0 (below_step (by repeat (first | (with_reducible first |exact HB.out |apply below_alloc |apply pw_below_drewN |apply below_drew1 |refine bS ?_ GE221.out) |exact HB.out)) hb); have n2_ := mk0 (hbox); have n3_ := mk0 ((by rw [hg]; exact (below_size (by repeat (first | (with_reducible first |exact HB.out |apply below_alloc |apply pw_below_drewN |apply below_drew1 |refine bS ?_ GE221.out) |exact HB.out))) : w.heap.size ≤ gb222)); have n4_ := mk0 ((by rw [hg]; exact (below_size (by repeat (first | (with_reducible first |exact HB.out |apply below_alloc |apply pw_below_drewN |apply below_drew1 |refine bS ?_ GE221.out) |exact HB.out))) : w.heap.size ≤ gb222)); have n5_ := mk0 ((by rw [hg]; exact Nat.ne_of_lt (blk_lt (g := gb221) (o := .cells #[.int .i64 a0_0, .int .i64 a0_1, .int .i64 a0_2, .int .i64 a0_3, .int .i64 a0_4] 46 (0, 0)) (by (with_reducible repeat (first |refine kN ?_ _ |refine kD ?_ |refine kA ?_ _)); exact BK221.out)) : gb221 ≠ gb222)); have n6_ := mk0 ((by rw [hg]; exact Nat.ne_of_gt (blk_lt (g := gb221) (o := .cells #[.int .i64 a0_0, .int .i64 a0_1, .int .i64 a0_2, .int .i64 a0_3, .int .i64 a0_4] 46 (0, 0)) (by (with_reducible repeat (first |refine kN ?_ _ |refine kD ?_ |refine kA ?_ _)); exact BK221.out)) : gb222 ≠ gb221)); clear BK221; clear HB; have BK221 := n0_; have HB := n1_; have BK222 := n2_; have GW222 := n3_; have GE222 := n4_; have NB221_222 := n5_; have NB222_221 := n6_; clear n0_ n1_ n2_ n3_ n4_ n5_ n6_; clear hb hbox hg) | ((with_reducible refine gate_callee (f := 7) rfl ?_); refine goesL_ (some 12) rfl rfl Tryd.func7 (by kernel_rfl) rfl #[] rfl (by (try simp only [List.map_toArray, List.map_cons, List.map_nil]); first | done | rfl | (simp only [List.length_drop, List.length_take]; rfl)) ?_; (with_reducible refine (conclavelaw09_anchor.calls (hrG := ?sideG) k  true _ A3.out).mono ?_); (case sideG => (first | (with_reducible exact HRG.out) |exact TabG.below HRG.out (by repeat (first | (with_reducible first |exact HB.out |apply below_alloc |apply pw_below_drewN |apply below_drew1 |refine bS ?_ (IsS60.ge HI225.out) |refine bS ?_ GE221.out |refine bS ?_ GE222.out |refine bS ?_ GE240.out |refine bS ?_ GE241.out) | (with_reducible exact Below.refl _ _))))); rintro e w8 ⟨rfl, hb⟩; refine ⟨_, rfl, ?_⟩; have n0_ := mk0 (blk_below (g := gb221) (o := .cells #[.int .i64 a0_0, .int .i64 a0_1, .int .i64 a0_2, .int .i64 a0_3, .int .i64 a0_4] 46 (0, 0)) (by (with_reducible repeat (first |refine kN ?_ _ |refine kD ?_ |refine kA ?_ _)); exact BK221.out) hb); have n1_ := mk0 (blk_below (g := gb222) (o := .cells #[.int .i64 a1_0, .int .i64 a1_1, .int .i64 a1_2, .int .i64 a1_3, .int .i64 a1_4] 46 (0, 0)) (by (with_reducible repeat (first |refine kN ?_ _ |refine kD ?_ |refine kA ?_ _)); exact BK222.out) hb); have n2_ := mk0 (below_step (by repeat (first | (with_reducible first |exact HB.out |apply below_alloc |apply pw_below_drewN |apply below_drew1 |refine bS ?_ GE221.out |refine bS ?_ GE222.out) |exact HB.out)) hb); clear BK221; clear BK222; clear HB; have BK221 := n0_; have BK222 := n1_; have HB := n2_; clear n0_ n1_ n2_; (try clear hb); (try clear hb2); (try clear hk); (try clear hi)))
   have hz0_2 : _ = some (Value.int .i64 a0_2) := (kC BK221.out 2).trans rfl
   have hz0_3 : _ = some (Value.int .i64 a0_3) := (kC BK221.out 3).trans rfl
   have hz0_4 : _ = some (Value.int .i64 a0_4) := (kC BK221.out 4).trans rfl
   have hz1_2 : _ = some (Value.int .i64 a1_2) := (kC BK222.out 2).trans rfl
   have hz1_3 : _ = some (Value.int .i64 a1_3) := (kC BK222.out 3).trans rfl
   have hz1_4 : _ = some (Value.int .i64 a1_4) := (kC BK222.out 4).trans rfl
   have HCB := mk0 cb
   clear cb
   go_wp2
   go_rounds 4
   all_goals first
    | (go_ret; exact ⟨rfl, HB.out⟩)
    | (exfalso; have cb := HCB.out; simp only [namesBad, Bool.or_eq_true, decide_eq_true_eq] at cb; (try simp only [decide_eq_true_eq, decide_eq_false_iff_not] at *); omega)
  rw [if_neg cb] at H
  unfold conclavelaw09_CardNames.t at H
  simp only [namesBad, Bool.or_eq_true, decide_eq_true_eq, not_or] at cb
  obtain ⟨⟨⟨⟨⟨g0, g1⟩, g2⟩, g3⟩, ⟨⟨g4, g5⟩, g6⟩, g7⟩, ⟨⟨g8, g9⟩, g10⟩, g11⟩ := cb
  have g0b : decide (a0_2 < 1) = false := decide_eq_false g0
  have g1b : decide (9 < a0_2) = false := decide_eq_false g1
  have g2b : decide (a1_2 < 1) = false := decide_eq_false g2
  have g3b : decide (9 < a1_2) = false := decide_eq_false g3
  have g4b : decide (a0_3 < 1) = false := decide_eq_false g4
  have g5b : decide (9 < a0_3) = false := decide_eq_false g5
  have g6b : decide (a1_3 < 1) = false := decide_eq_false g6
  have g7b : decide (9 < a1_3) = false := decide_eq_false g7
  have g8b : decide (a0_4 < 1) = false := decide_eq_false g8
  have g9b : decide (9 < a0_4) = false := decide_eq_false g9
  have g10b : decide (a1_4 < 1) = false := decide_eq_false g10
  have g11b : decide (9 < a1_4) = false := decide_eq_false g11
  have g1d : decide (a0_2 > 9) = false := decide_eq_false g1
  have g3d : decide (a1_2 > 9) = false := decide_eq_false g3
  have g5d : decide (a0_3 > 9) = false := decide_eq_false g5
  have g7d : decide (a1_3 > 9) = false := decide_eq_false g7
  have g9d : decide (a0_4 > 9) = false := decide_eq_false g9
  have g11d : decide (a1_4 > 9) = false := decide_eq_false g11
  clear g0 g1 g2 g3 g4 g5 g6 g7 g8 g9 g10 g11
  have HC5 := mk0 H
  clear H
  go_enter Tryd.func6, Tryd.ntmps6
  go_upto_block 0 with (first | ((with_reducible refine gate_dst (N := 2) rfl ?_); refine box_event ?hg (N := 2) ?hd (cs := #[.int .i64 a0_0, .int .i64 a0_1, .int .i64 a0_2, .int .i64 a0_3, .int .i64 a0_4]) (t := 46) ?hr ?_; (case hd => rfl); (case hg => rfl); (case hr => first | (go_simp; done) | (go_simp; rfl)); intro gb221 hg w6 hbox hb; have n0_ := mk0 (below_step (by repeat (first | (with_reducible first |exact HB.out |apply below_alloc |apply pw_below_drewN |apply below_drew1) |exact HB.out)) hb); have n1_ := mk0 (hbox); have n2_ := mk0 ((by rw [hg]; exact (below_size (by repeat (first | (with_reducible first |exact HB.out |apply below_alloc |apply pw_below_drewN |apply below_drew1) |exact HB.out))) : w.heap.size ≤ gb221)); have n3_ := mk0 ((by rw [hg]; exact (below_size (by repeat (first | (with_reducible first |exact HB.out |apply below_alloc |apply pw_below_drewN |apply below_drew1) |exact HB.out))) : w.heap.size ≤ gb221)); clear HB; have HB := n0_; have BK221 := n1_; have GW221 := n2_; have GE221 := n3_; clear n0_ n1_ n2_ n3_; clear hb hbox hg) | ((with_reducible refine gate_dst (N := 3) rfl ?_); refine box_event ?hg (N := 3) ?hd (cs := #[.int .i64 a1_0, .int .i64 a1_1, .int .i64 a1_2, .int .i64 a1_3, .int .i64 a1_4]) (t := 46) ?hr ?_; (case hd => rfl); (case hg => rfl); (case hr => first | (go_simp; done) | (go_simp; rfl)); intro gb222 hg w7 hbox hb; have n0_ := mk0 (blk_below (g := gb221) (o := .cells #[.int .i64 a0_0, .int .i64 a0_1, .int .i64 a0_2, .int .i64 a0_3, .int .i64 a0_4] 46 (0, 0)) (by (with_reducible repeat (first |refine kN ?_ _ |refine kD ?_ |refine kA ?_ _)); exact BK221.out) hb); have n1_ := mk0 (below_step (by repeat (first | (with_reducible first |exact HB.out |apply below_alloc |apply pw_below_drewN |apply below_drew1 |refine bS ?_ GE221.out) |exact HB.out)) hb); have n2_ := mk0 (hbox); have n3_ := mk0 ((by rw [hg]; exact (below_size (by repeat (first | (with_reducible first |exact HB.out |apply below_alloc |apply pw_below_drewN |apply below_drew1 |refine bS ?_ GE221.out) |exact HB.out))) : w.heap.size ≤ gb222)); have n4_ := mk0 ((by rw [hg]; exact (below_size (by repeat (first | (with_reducible first |exact HB.out |apply below_alloc |apply pw_below_drewN |apply below_drew1 |refine bS ?_ GE221.out) |exact HB.out))) : w.heap.size ≤ gb222)); have n5_ := mk0 ((by rw [hg]; exact Nat.ne_of_lt (blk_lt (g := gb221) (o := .cells #[.int .i64 a0_0, .int .i64 a0_1, .int .i64 a0_2, .int .i64 a0_3, .int .i64 a0_4] 46 (0, 0)) (by (with_reducible repeat (first |refine kN ?_ _ |refine kD ?_ |refine kA ?_ _)); exact BK221.out)) : gb221 ≠ gb222)); have n6_ := mk0 ((by rw [hg]; exact Nat.ne_of_gt (blk_lt (g := gb221) (o := .cells #[.int .i64 a0_0, .int .i64 a0_1, .int .i64 a0_2, .int .i64 a0_3, .int .i64 a0_4] 46 (0, 0)) (by (with_reducible repeat (first |refine kN ?_ _ |refine kD ?_ |refine kA ?_ _)); exact BK221.out)) : gb222 ≠ gb221)); clear BK221; clear HB; have BK221 := n0_; have HB := n1_; have BK222 := n2_; have GW222 := n3_; have GE222 := n4_; have NB221_222 := n5_; have NB222_221 := n6_; clear n0_ n1_ n2_ n3_ n4_ n5_ n6_; clear hb hbox hg) | ((with_reducible refine gate_callee (f := 7) rfl ?_); refine goesL_ (some 12) rfl rfl Tryd.func7 (by kernel_rfl) rfl #[] rfl (by (try simp only [List.map_toArray, List.map_cons, List.map_nil]); first | done | rfl | (simp only [List.length_drop, List.length_take]; rfl)) ?_; (with_reducible refine (conclavelaw09_anchor.calls (hrG := ?sideG) k  true _ A3.out).mono ?_); (case sideG => (first | (with_reducible exact HRG.out) |exact TabG.below HRG.out (by repeat (first | (with_reducible first |exact HB.out |apply below_alloc |apply pw_below_drewN |apply below_drew1 |refine bS ?_ (IsS60.ge HI225.out) |refine bS ?_ GE221.out |refine bS ?_ GE222.out |refine bS ?_ GE240.out |refine bS ?_ GE241.out) | (with_reducible exact Below.refl _ _))))); rintro e w8 ⟨rfl, hb⟩; refine ⟨_, rfl, ?_⟩; have n0_ := mk0 (blk_below (g := gb221) (o := .cells #[.int .i64 a0_0, .int .i64 a0_1, .int .i64 a0_2, .int .i64 a0_3, .int .i64 a0_4] 46 (0, 0)) (by (with_reducible repeat (first |refine kN ?_ _ |refine kD ?_ |refine kA ?_ _)); exact BK221.out) hb); have n1_ := mk0 (blk_below (g := gb222) (o := .cells #[.int .i64 a1_0, .int .i64 a1_1, .int .i64 a1_2, .int .i64 a1_3, .int .i64 a1_4] 46 (0, 0)) (by (with_reducible repeat (first |refine kN ?_ _ |refine kD ?_ |refine kA ?_ _)); exact BK222.out) hb); have n2_ := mk0 (below_step (by repeat (first | (with_reducible first |exact HB.out |apply below_alloc |apply pw_below_drewN |apply below_drew1 |refine bS ?_ GE221.out |refine bS ?_ GE222.out) |exact HB.out)) hb); clear BK221; clear BK222; clear HB; have BK221 := n0_; have BK222 := n1_; have HB := n2_; clear n0_ n1_ n2_; (try clear hb); (try clear hb2); (try clear hk); (try clear hi)))
  have hz0_2 : _ = some (Value.int .i64 a0_2) := (kC BK221.out 2).trans rfl
  have hz0_3 : _ = some (Value.int .i64 a0_3) := (kC BK221.out 3).trans rfl
  have hz0_4 : _ = some (Value.int .i64 a0_4) := (kC BK221.out 4).trans rfl
  have hz1_2 : _ = some (Value.int .i64 a1_2) := (kC BK222.out 2).trans rfl
  have hz1_3 : _ = some (Value.int .i64 a1_3) := (kC BK222.out 3).trans rfl
  have hz1_4 : _ = some (Value.int .i64 a1_4) := (kC BK222.out 4).trans rfl
  go_wp2
  refine wp_loop_rounds 4 ?_
  rw [rounds_succ]
  go_wp2
  rw [rounds_succ]
  go_wp2
  rw [rounds_succ]
  go_wp2
  rw [rounds_succ]
  go_upto_region 8 with (fail)
  clear hz0_2 hz0_3 hz0_4 hz1_2 hz1_3 hz1_4
  have H := HC5.out
  clear HC5
  have H1 : ((conclavelaw09_stores.f 9).bind fun t224 => ((card_Make.f k t224 a0_0 a0_2 a0_3 a0_4 a0_1).bind fun bt226 => ((card_Make.f k bt226.2.2.2.2.2.2 a1_0 a1_2 a1_3 a1_4 a1_1).bind fun bt233 => ((card_Ref.f k bt233.2.2.2.2.2.2 bt226.1 bt226.2.1 bt226.2.2.1 bt226.2.2.2.1 bt226.2.2.2.2.1 bt226.2.2.2.2.2.1).bind fun bt242 => ((card_Ref.f k bt242.2 bt233.1 bt233.2.1 bt233.2.2.1 bt233.2.2.2.1 bt233.2.2.2.2.1 bt233.2.2.2.2.2.1).bind fun bt244 => (if bt242.1 = 0 then (some false) else (if bt244.1 = 0 then (some false) else (if ((bt242.1 == bt244.1) == (a0_0 == a1_0 && (a0_1 == a1_1 && (a0_2 == a1_2 && (a0_3 == a1_3 && (a0_4 == a1_4)))))) = true then (some ((bt226.1 == bt233.1 && (bt226.2.1 == bt233.2.1 && (bt226.2.2.1 == bt233.2.2.1 && (bt226.2.2.2.1 == bt233.2.2.2.1 && (bt226.2.2.2.2.1 == bt233.2.2.2.2.1 && (bt226.2.2.2.2.2.1 == bt233.2.2.2.2.2.1)))))) == (a0_0 == a1_0 && (a0_1 == a1_1 && (a0_2 == a1_2 && (a0_3 == a1_3 && (a0_4 == a1_4))))))) else (some false))))))))) = some r := H
  clear H
  have H := H1
  clear H1
  replace H := Option.bind_eq_some_iff.mp H
  obtain ⟨t224, A530, H⟩ := H
  replace H : ((card_Make.f k t224 a0_0 a0_2 a0_3 a0_4 a0_1).bind fun bt226 => ((card_Make.f k bt226.2.2.2.2.2.2 a1_0 a1_2 a1_3 a1_4 a1_1).bind fun bt233 => ((card_Ref.f k bt233.2.2.2.2.2.2 bt226.1 bt226.2.1 bt226.2.2.1 bt226.2.2.2.1 bt226.2.2.2.2.1 bt226.2.2.2.2.2.1).bind fun bt242 => ((card_Ref.f k bt242.2 bt233.1 bt233.2.1 bt233.2.2.1 bt233.2.2.2.1 bt233.2.2.2.2.1 bt233.2.2.2.2.2.1).bind fun bt244 => (if bt242.1 = 0 then (some false) else (if bt244.1 = 0 then (some false) else (if ((bt242.1 == bt244.1) == (a0_0 == a1_0 && (a0_1 == a1_1 && (a0_2 == a1_2 && (a0_3 == a1_3 && (a0_4 == a1_4)))))) = true then (some ((bt226.1 == bt233.1 && (bt226.2.1 == bt233.2.1 && (bt226.2.2.1 == bt233.2.2.1 && (bt226.2.2.2.1 == bt233.2.2.2.1 && (bt226.2.2.2.2.1 == bt233.2.2.2.2.1 && (bt226.2.2.2.2.2.1 == bt233.2.2.2.2.2.1)))))) == (a0_0 == a1_0 && (a0_1 == a1_1 && (a0_2 == a1_2 && (a0_3 == a1_3 && (a0_4 == a1_4))))))) else (some false)))))))) = some r := H
  have A53 := mk0 A530
  clear A530
  replace H := Option.bind_eq_some_iff.mp H
  obtain ⟨⟨t226, t227, t228, t229, t230, t231, t232⟩, A540, H⟩ := H
  replace H : ((card_Make.f k t232 a1_0 a1_2 a1_3 a1_4 a1_1).bind fun bt233 => ((card_Ref.f k bt233.2.2.2.2.2.2 t226 t227 t228 t229 t230 t231).bind fun bt242 => ((card_Ref.f k bt242.2 bt233.1 bt233.2.1 bt233.2.2.1 bt233.2.2.2.1 bt233.2.2.2.2.1 bt233.2.2.2.2.2.1).bind fun bt244 => (if bt242.1 = 0 then (some false) else (if bt244.1 = 0 then (some false) else (if ((bt242.1 == bt244.1) == (a0_0 == a1_0 && (a0_1 == a1_1 && (a0_2 == a1_2 && (a0_3 == a1_3 && (a0_4 == a1_4)))))) = true then (some ((t226 == bt233.1 && (t227 == bt233.2.1 && (t228 == bt233.2.2.1 && (t229 == bt233.2.2.2.1 && (t230 == bt233.2.2.2.2.1 && (t231 == bt233.2.2.2.2.2.1)))))) == (a0_0 == a1_0 && (a0_1 == a1_1 && (a0_2 == a1_2 && (a0_3 == a1_3 && (a0_4 == a1_4))))))) else (some false))))))) = some r := H
  have A54 := mk0 A540
  clear A540
  replace H := Option.bind_eq_some_iff.mp H
  obtain ⟨⟨t233, t234, t235, t236, t237, t238, t239⟩, A550, H⟩ := H
  replace H : ((card_Ref.f k t239 t226 t227 t228 t229 t230 t231).bind fun bt242 => ((card_Ref.f k bt242.2 t233 t234 t235 t236 t237 t238).bind fun bt244 => (if bt242.1 = 0 then (some false) else (if bt244.1 = 0 then (some false) else (if ((bt242.1 == bt244.1) == (a0_0 == a1_0 && (a0_1 == a1_1 && (a0_2 == a1_2 && (a0_3 == a1_3 && (a0_4 == a1_4)))))) = true then (some ((t226 == t233 && (t227 == t234 && (t228 == t235 && (t229 == t236 && (t230 == t237 && (t231 == t238)))))) == (a0_0 == a1_0 && (a0_1 == a1_1 && (a0_2 == a1_2 && (a0_3 == a1_3 && (a0_4 == a1_4))))))) else (some false)))))) = some r := H
  have A55 := mk0 A550
  clear A550
  replace H := Option.bind_eq_some_iff.mp H
  obtain ⟨⟨t242, t243⟩, A560, H⟩ := H
  replace H : ((card_Ref.f k t243 t233 t234 t235 t236 t237 t238).bind fun bt244 => (if t242 = 0 then (some false) else (if bt244.1 = 0 then (some false) else (if ((t242 == bt244.1) == (a0_0 == a1_0 && (a0_1 == a1_1 && (a0_2 == a1_2 && (a0_3 == a1_3 && (a0_4 == a1_4)))))) = true then (some ((t226 == t233 && (t227 == t234 && (t228 == t235 && (t229 == t236 && (t230 == t237 && (t231 == t238)))))) == (a0_0 == a1_0 && (a0_1 == a1_1 && (a0_2 == a1_2 && (a0_3 == a1_3 && (a0_4 == a1_4))))))) else (some false))))) = some r := H
  have A56 := mk0 A560
  clear A560
  replace H := Option.bind_eq_some_iff.mp H
  obtain ⟨⟨t244, t245⟩, A570, H⟩ := H
  replace H : (if t242 = 0 then (some false) else (if t244 = 0 then (some false) else (if ((t242 == t244) == (a0_0 == a1_0 && (a0_1 == a1_1 && (a0_2 == a1_2 && (a0_3 == a1_3 && (a0_4 == a1_4)))))) = true then (some ((t226 == t233 && (t227 == t234 && (t228 == t235 && (t229 == t236 && (t230 == t237 && (t231 == t238)))))) == (a0_0 == a1_0 && (a0_1 == a1_1 && (a0_2 == a1_2 && (a0_3 == a1_3 && (a0_4 == a1_4))))))) else (some false)))) = some r := H
  have A57 := mk0 A570
  clear A570
  by_cases c58 : t242 = 0
  ·
   rw [if_pos c58] at H
   exact absurd ((Option.some.inj H).trans hr) Bool.false_ne_true
  rw [if_neg c58] at H
  have c58b0 : (t242 == 0) = false := beq_eq_false_iff_ne.mpr c58
  have c58b1 : (t242 != 0) = true := bne_iff_ne.mpr c58
  by_cases c83 : t244 = 0
  ·
   rw [if_pos c83] at H
   exact absurd ((Option.some.inj H).trans hr) Bool.false_ne_true
  rw [if_neg c83] at H
  have c83b0 : (t244 == 0) = false := beq_eq_false_iff_ne.mpr c83
  have c83b1 : (t244 != 0) = true := bne_iff_ne.mpr c83
  by_cases c108 : ((t242 == t244) == (a0_0 == a1_0 && (a0_1 == a1_1 && (a0_2 == a1_2 && (a0_3 == a1_3 && (a0_4 == a1_4)))))) = true
  ·
   rw [if_pos c108] at H
   have c108b0 : ((t242 == t244) == (a0_0 == a1_0 && (a0_1 == a1_1 && (a0_2 == a1_2 && (a0_3 == a1_3 && (a0_4 == a1_4)))))) = true := c108
   (try (have c108b1 : decide ((t242 == t244) = (a0_0 == a1_0 && (a0_1 == a1_1 && (a0_2 == a1_2 && (a0_3 == a1_3 && (a0_4 == a1_4)))))) = true := by simpa using c108))
   (try (have c108b2 : ((t242 == t244) == (a0_0 == a1_0 && (a0_1 == a1_1 && (a0_2 == a1_2 && (a0_3 == a1_3 && (a0_4 == a1_4)))))) = true := by simpa using c108))
   clear c108
   obtain rfl := Option.some.inj H
   try exact absurd hr Bool.false_ne_true
   all_goals
    try go_wp2_with (first | ((with_reducible refine gate_callee (f := 8) rfl ?_); refine goesL_ (some 41) rfl rfl Tryd.func8 (by kernel_rfl) rfl #[.int .i64 9] rfl (by (try simp only [List.map_toArray, List.map_cons, List.map_nil]); first | done | rfl | (simp only [List.length_drop, List.length_take]; rfl)) ?_; (with_reducible refine (conclavelaw09_stores.calls 9 t224 w _ ?side1 A53.out).mono ?_); (case side1 => repeat (first | (with_reducible first |exact HB.out |apply below_alloc |apply pw_below_drewN |apply below_drew1 |refine bS ?_ GE221.out |refine bS ?_ GE222.out) |exact HB.out)); rintro e w109 ⟨g225, rfl, hi, hb, hb2⟩; refine ⟨_, rfl, ?_⟩; have n0_ := mk0 (blk_below (g := gb221) (o := .cells #[.int .i64 a0_0, .int .i64 a0_1, .int .i64 a0_2, .int .i64 a0_3, .int .i64 a0_4] 46 (0, 0)) (by (with_reducible repeat (first |refine kN ?_ _ |refine kD ?_ |refine kA ?_ _)); exact BK221.out) hb2); have n1_ := mk0 (blk_below (g := gb222) (o := .cells #[.int .i64 a1_0, .int .i64 a1_1, .int .i64 a1_2, .int .i64 a1_3, .int .i64 a1_4] 46 (0, 0)) (by (with_reducible repeat (first |refine kN ?_ _ |refine kD ?_ |refine kA ?_ _)); exact BK222.out) hb2); have n2_ := mk0 (hb); have n3_ := mk0 (hi); have n4_ := mk0 (IsS60.ne_blk hi (blk_below (g := gb221) (o := .cells #[.int .i64 a0_0, .int .i64 a0_1, .int .i64 a0_2, .int .i64 a0_3, .int .i64 a0_4] 46 (0, 0)) (by (with_reducible repeat (first |refine kN ?_ _ |refine kD ?_ |refine kA ?_ _)); exact BK221.out) hb2) (by decide)); have n5_ := mk0 (Ne.symm (IsS60.ne_blk hi (blk_below (g := gb221) (o := .cells #[.int .i64 a0_0, .int .i64 a0_1, .int .i64 a0_2, .int .i64 a0_3, .int .i64 a0_4] 46 (0, 0)) (by (with_reducible repeat (first |refine kN ?_ _ |refine kD ?_ |refine kA ?_ _)); exact BK221.out) hb2) (by decide))); have n6_ := mk0 (IsS60.ne_blk hi (blk_below (g := gb222) (o := .cells #[.int .i64 a1_0, .int .i64 a1_1, .int .i64 a1_2, .int .i64 a1_3, .int .i64 a1_4] 46 (0, 0)) (by (with_reducible repeat (first |refine kN ?_ _ |refine kD ?_ |refine kA ?_ _)); exact BK222.out) hb2) (by decide)); have n7_ := mk0 (Ne.symm (IsS60.ne_blk hi (blk_below (g := gb222) (o := .cells #[.int .i64 a1_0, .int .i64 a1_1, .int .i64 a1_2, .int .i64 a1_3, .int .i64 a1_4] 46 (0, 0)) (by (with_reducible repeat (first |refine kN ?_ _ |refine kD ?_ |refine kA ?_ _)); exact BK222.out) hb2) (by decide))); clear BK221; clear BK222; clear HB; have BK221 := n0_; have BK222 := n1_; have HB := n2_; have HI225 := n3_; have NB225_221 := n4_; have NB221_225 := n5_; have NB225_222 := n6_; have NB222_225 := n7_; clear n0_ n1_ n2_ n3_ n4_ n5_ n6_ n7_; (try clear hb); (try clear hb2); (try clear hk); (try clear hi)))
    have n0_ := mk0 (kD BK221.out)
    have n1_ := mk0 (kD BK222.out)
    have n2_ := mk0 (IsS60.drew HI225.out)
    have n3_ := mk0 (below_drew1 HB.out)
    clear BK221
    clear BK222
    clear HI225
    clear HB
    have BK221 := n0_
    have BK222 := n1_
    have HI225 := n2_
    have HB := n3_
    clear n0_ n1_ n2_ n3_
    refine start_ (n := 28) (S := fun w' => w'.cell? ⟨gb221, 0, none⟩ = some (.int .i64 a0_0) ∧ w'.cell? ⟨gb221, 1, none⟩ = some (.int .i64 a0_1) ∧ w'.cell? ⟨gb221, 2, none⟩ = some (.int .i64 a0_2) ∧ w'.cell? ⟨gb221, 3, none⟩ = some (.int .i64 a0_3) ∧ w'.cell? ⟨gb221, 4, none⟩ = some (.int .i64 a0_4) ∧ w'.cell? ⟨gb222, 0, none⟩ = some (.int .i64 a1_0) ∧ w'.cell? ⟨gb222, 1, none⟩ = some (.int .i64 a1_1) ∧ w'.cell? ⟨gb222, 2, none⟩ = some (.int .i64 a1_2) ∧ w'.cell? ⟨gb222, 3, none⟩ = some (.int .i64 a1_3) ∧ w'.cell? ⟨gb222, 4, none⟩ = some (.int .i64 a1_4)) (ds := []) #[false,false,false,false,false,false,false,false,false,false,false,false,false,false,false,false,false,false,false,false,false,false,false,false,false,false,false,false] (by kernel_rfl) rfl rfl ⟨(kC BK221.out 0).trans rfl, (kC BK221.out 1).trans rfl, (kC BK221.out 2).trans rfl, (kC BK221.out 3).trans rfl, (kC BK221.out 4).trans rfl, (kC BK222.out 0).trans rfl, (kC BK222.out 1).trans rfl, (kC BK222.out 2).trans rfl, (kC BK222.out 3).trans rfl, (kC BK222.out 4).trans rfl⟩ (fun hHeld => ?_); refine with_tabW conclavelaw09_CardNames.tab11 conclavelaw09_CardNames.bits11 (fun HT_ HW_ => ?_)
    generalize w109.drew = w110 at BK221 BK222 HI225 HB hHeld ⊢
    refine pure_ (i := 0) (N := some 46) (v := ?_) (a' := ?_) #[true,false,false,false,false,false,false,false,false,false,false,false,false,false,false,false,false,false,false,false,false,false,false,false,false,false,false,false] rfl rfl (any_of HT_.out (by kernel_rfl)) (fun _ _ _ h => h) (Or.inl ⟨by rfl, ?_⟩) ?_ ?_
    rotate_left; (intro w'; go_simp; with_reducible rfl); rotate_left; (simp only [Act.put, sB, sZ, sS, i64_w, i32_w]; rfl)
    refine pure_ (i := 1) (N := some 47) (v := ?_) (a' := ?_) #[true,true,false,false,false,false,false,false,false,false,false,false,false,false,false,false,false,false,false,false,false,false,false,false,false,false,false,false] rfl rfl (any_of HT_.out (by kernel_rfl)) (fun _ _ _ h => h) (Or.inl ⟨by rfl, ?_⟩) ?_ ?_
    rotate_left; (intro w'; go_simp; with_reducible rfl); rotate_left; (simp only [Act.put, sB, sZ, sS, i64_w, i32_w]; rfl)
    refine pure_ (i := 3) (N := some 49) (v := ?_) (a' := ?_) #[true,true,false,true,false,false,false,false,false,false,false,false,false,false,false,false,false,false,false,false,false,false,false,false,false,false,false,false] rfl rfl (any_of HT_.out (by kernel_rfl)) (fun _ _ _ h => h) (Or.inl ⟨by rfl, ?_⟩) ?_ ?_
    rotate_left; (intro w'; go_simp; with_reducible rfl); rotate_left; (simp only [Act.put, sB, sZ, sS, i64_w, i32_w]; rfl)
    refine pure_ (i := 5) (N := some 51) (v := ?_) (a' := ?_) #[true,true,false,true,false,true,false,false,false,false,false,false,false,false,false,false,false,false,false,false,false,false,false,false,false,false,false,false] rfl rfl (any_of HT_.out (by kernel_rfl)) (fun _ _ _ h => h) (Or.inl ⟨by rfl, ?_⟩) ?_ ?_
    rotate_left; (intro w'; go_simp; with_reducible rfl); rotate_left; (simp only [Act.put, sB, sZ, sS, i64_w, i32_w]; rfl)
    refine pure_ (i := 7) (N := some 53) (v := ?_) (a' := ?_) #[true,true,false,true,false,true,false,true,false,false,false,false,false,false,false,false,false,false,false,false,false,false,false,false,false,false,false,false] rfl rfl (any_of HT_.out (by kernel_rfl)) (fun _ _ _ h => h) (Or.inl ⟨by rfl, ?_⟩) ?_ ?_
    rotate_left; (intro w'; go_simp; with_reducible rfl); rotate_left; (simp only [Act.put, sB, sZ, sS, i64_w, i32_w]; rfl)
    refine pure_ (i := 9) (N := some 55) (v := ?_) (a' := ?_) #[true,true,false,true,false,true,false,true,false,true,false,false,false,false,false,false,false,false,false,false,false,false,false,false,false,false,false,false] rfl rfl (any_of HT_.out (by kernel_rfl)) (fun _ _ _ h => h) (Or.inl ⟨by rfl, ?_⟩) ?_ ?_
    rotate_left; (intro w'; go_simp; with_reducible rfl); rotate_left; (simp only [Act.put, sB, sZ, sS, i64_w, i32_w]; rfl)
    refine pure_ (i := 12) (N := some 58) (v := ?_) (a' := ?_) #[true,true,false,true,false,true,false,true,false,true,false,false,true,false,false,false,false,false,false,false,false,false,false,false,false,false,false,false] rfl rfl (any_of HT_.out (by kernel_rfl)) (fun _ _ _ h => h) (Or.inl ⟨by rfl, ?_⟩) ?_ ?_
    rotate_left; (intro w'; go_simp; with_reducible rfl); rotate_left; (simp only [Act.put, sB, sZ, sS, i64_w, i32_w]; rfl)
    refine pure_ (i := 13) (N := some 59) (v := ?_) (a' := ?_) #[true,true,false,true,false,true,false,true,false,true,false,false,true,true,false,false,false,false,false,false,false,false,false,false,false,false,false,false] rfl rfl (any_of HT_.out (by kernel_rfl)) (fun _ _ _ h => h) (Or.inl ⟨by rfl, ?_⟩) ?_ ?_
    rotate_left; (intro w'; go_simp; with_reducible rfl); rotate_left; (simp only [Act.put, sB, sZ, sS, i64_w, i32_w]; rfl)
    refine pure_ (i := 15) (N := some 61) (v := ?_) (a' := ?_) #[true,true,false,true,false,true,false,true,false,true,false,false,true,true,false,true,false,false,false,false,false,false,false,false,false,false,false,false] rfl rfl (any_of HT_.out (by kernel_rfl)) (fun _ _ _ h => h) (Or.inl ⟨by rfl, ?_⟩) ?_ ?_
    rotate_left; (intro w'; go_simp; with_reducible rfl); rotate_left; (simp only [Act.put, sB, sZ, sS, i64_w, i32_w]; rfl)
    refine pure_ (i := 17) (N := some 63) (v := ?_) (a' := ?_) #[true,true,false,true,false,true,false,true,false,true,false,false,true,true,false,true,false,true,false,false,false,false,false,false,false,false,false,false] rfl rfl (any_of HT_.out (by kernel_rfl)) (fun _ _ _ h => h) (Or.inl ⟨by rfl, ?_⟩) ?_ ?_
    rotate_left; (intro w'; go_simp; with_reducible rfl); rotate_left; (simp only [Act.put, sB, sZ, sS, i64_w, i32_w]; rfl)
    refine pure_ (i := 19) (N := some 65) (v := ?_) (a' := ?_) #[true,true,false,true,false,true,false,true,false,true,false,false,true,true,false,true,false,true,false,true,false,false,false,false,false,false,false,false] rfl rfl (any_of HT_.out (by kernel_rfl)) (fun _ _ _ h => h) (Or.inl ⟨by rfl, ?_⟩) ?_ ?_
    rotate_left; (intro w'; go_simp; with_reducible rfl); rotate_left; (simp only [Act.put, sB, sZ, sS, i64_w, i32_w]; rfl)
    refine pure_ (i := 21) (N := some 67) (v := ?_) (a' := ?_) #[true,true,false,true,false,true,false,true,false,true,false,false,true,true,false,true,false,true,false,true,false,true,false,false,false,false,false,false] rfl rfl (any_of HT_.out (by kernel_rfl)) (fun _ _ _ h => h) (Or.inl ⟨by rfl, ?_⟩) ?_ ?_
    rotate_left; (intro w'; go_simp; with_reducible rfl); rotate_left; (simp only [Act.put, sB, sZ, sS, i64_w, i32_w]; rfl)
    refine take_ (i := 2) (N := some 48) (v := ?_) (a' := ?_) #[true,true,true,true,false,true,false,true,false,true,false,false,true,true,false,true,false,true,false,true,false,true,false,false,false,false,false,false] rfl rfl (take_ofW HT_.out HW_.out (by kernel_rfl)) (fun _ _ _ h => h) (Or.inl ⟨by rfl, ?_⟩) hHeld ?_ ?_
    rotate_left
    ·
     rintro w' ⟨s0, s1, s2, s3, s4, s5, s6, s7, s8, s9⟩
     go_simp
     with_reducible rfl
    rotate_left
    ·
     simp only [Act.put, sB, sZ, sS, i64_w, i32_w]
     rfl
    refine take_ (i := 4) (N := some 50) (v := ?_) (a' := ?_) #[true,true,true,true,true,true,false,true,false,true,false,false,true,true,false,true,false,true,false,true,false,true,false,false,false,false,false,false] rfl rfl (take_ofW HT_.out HW_.out (by kernel_rfl)) (fun _ _ _ h => h) (Or.inl ⟨by rfl, ?_⟩) hHeld ?_ ?_
    rotate_left
    ·
     rintro w' ⟨s0, s1, s2, s3, s4, s5, s6, s7, s8, s9⟩
     go_simp
     with_reducible rfl
    rotate_left
    ·
     simp only [Act.put, sB, sZ, sS, i64_w, i32_w]
     rfl
    refine take_ (i := 6) (N := some 52) (v := ?_) (a' := ?_) #[true,true,true,true,true,true,true,true,false,true,false,false,true,true,false,true,false,true,false,true,false,true,false,false,false,false,false,false] rfl rfl (take_ofW HT_.out HW_.out (by kernel_rfl)) (fun _ _ _ h => h) (Or.inl ⟨by rfl, ?_⟩) hHeld ?_ ?_
    rotate_left
    ·
     rintro w' ⟨s0, s1, s2, s3, s4, s5, s6, s7, s8, s9⟩
     go_simp
     with_reducible rfl
    rotate_left
    ·
     simp only [Act.put, sB, sZ, sS, i64_w, i32_w]
     rfl
    refine take_ (i := 8) (N := some 54) (v := ?_) (a' := ?_) #[true,true,true,true,true,true,true,true,true,true,false,false,true,true,false,true,false,true,false,true,false,true,false,false,false,false,false,false] rfl rfl (take_ofW HT_.out HW_.out (by kernel_rfl)) (fun _ _ _ h => h) (Or.inl ⟨by rfl, ?_⟩) hHeld ?_ ?_
    rotate_left
    ·
     rintro w' ⟨s0, s1, s2, s3, s4, s5, s6, s7, s8, s9⟩
     go_simp
     with_reducible rfl
    rotate_left
    ·
     simp only [Act.put, sB, sZ, sS, i64_w, i32_w]
     rfl
    refine take_ (i := 10) (N := some 56) (v := ?_) (a' := ?_) #[true,true,true,true,true,true,true,true,true,true,true,false,true,true,false,true,false,true,false,true,false,true,false,false,false,false,false,false] rfl rfl (take_ofW HT_.out HW_.out (by kernel_rfl)) (fun _ _ _ h => h) (Or.inl ⟨by rfl, ?_⟩) hHeld ?_ ?_
    rotate_left
    ·
     rintro w' ⟨s0, s1, s2, s3, s4, s5, s6, s7, s8, s9⟩
     go_simp
     with_reducible rfl
    rotate_left
    ·
     simp only [Act.put, sB, sZ, sS, i64_w, i32_w]
     rfl
    refine take_ (i := 14) (N := some 60) (v := ?_) (a' := ?_) #[true,true,true,true,true,true,true,true,true,true,true,false,true,true,true,true,false,true,false,true,false,true,false,false,false,false,false,false] rfl rfl (take_ofW HT_.out HW_.out (by kernel_rfl)) (fun _ _ _ h => h) (Or.inl ⟨by rfl, ?_⟩) hHeld ?_ ?_
    rotate_left
    ·
     rintro w' ⟨s0, s1, s2, s3, s4, s5, s6, s7, s8, s9⟩
     go_simp
     with_reducible rfl
    rotate_left
    ·
     simp only [Act.put, sB, sZ, sS, i64_w, i32_w]
     rfl
    refine take_ (i := 16) (N := some 62) (v := ?_) (a' := ?_) #[true,true,true,true,true,true,true,true,true,true,true,false,true,true,true,true,true,true,false,true,false,true,false,false,false,false,false,false] rfl rfl (take_ofW HT_.out HW_.out (by kernel_rfl)) (fun _ _ _ h => h) (Or.inl ⟨by rfl, ?_⟩) hHeld ?_ ?_
    rotate_left
    ·
     rintro w' ⟨s0, s1, s2, s3, s4, s5, s6, s7, s8, s9⟩
     go_simp
     with_reducible rfl
    rotate_left
    ·
     simp only [Act.put, sB, sZ, sS, i64_w, i32_w]
     rfl
    refine take_ (i := 18) (N := some 64) (v := ?_) (a' := ?_) #[true,true,true,true,true,true,true,true,true,true,true,false,true,true,true,true,true,true,true,true,false,true,false,false,false,false,false,false] rfl rfl (take_ofW HT_.out HW_.out (by kernel_rfl)) (fun _ _ _ h => h) (Or.inl ⟨by rfl, ?_⟩) hHeld ?_ ?_
    rotate_left
    ·
     rintro w' ⟨s0, s1, s2, s3, s4, s5, s6, s7, s8, s9⟩
     go_simp
     with_reducible rfl
    rotate_left
    ·
     simp only [Act.put, sB, sZ, sS, i64_w, i32_w]
     rfl
    refine take_ (i := 20) (N := some 66) (v := ?_) (a' := ?_) #[true,true,true,true,true,true,true,true,true,true,true,false,true,true,true,true,true,true,true,true,true,true,false,false,false,false,false,false] rfl rfl (take_ofW HT_.out HW_.out (by kernel_rfl)) (fun _ _ _ h => h) (Or.inl ⟨by rfl, ?_⟩) hHeld ?_ ?_
    rotate_left
    ·
     rintro w' ⟨s0, s1, s2, s3, s4, s5, s6, s7, s8, s9⟩
     go_simp
     with_reducible rfl
    rotate_left
    ·
     simp only [Act.put, sB, sZ, sS, i64_w, i32_w]
     rfl
    refine take_ (i := 22) (N := some 68) (v := ?_) (a' := ?_) #[true,true,true,true,true,true,true,true,true,true,true,false,true,true,true,true,true,true,true,true,true,true,true,false,false,false,false,false] rfl rfl (take_ofW HT_.out HW_.out (by kernel_rfl)) (fun _ _ _ h => h) (Or.inl ⟨by rfl, ?_⟩) hHeld ?_ ?_
    rotate_left
    ·
     rintro w' ⟨s0, s1, s2, s3, s4, s5, s6, s7, s8, s9⟩
     go_simp
     with_reducible rfl
    rotate_left
    ·
     simp only [Act.put, sB, sZ, sS, i64_w, i32_w]
     rfl
    refine join_ (σ := Nat × Nat) 2 #[true,true,true,true,true,true,true,true,true,true,true,true,true,true,true,true,true,true,true,true,true,true,true,true,true,true,false,false] (fun s_ => [(57, .agg #[.int .i64 t226, .int .i64 t227, .int .i64 t228, .int .i64 t229, .int .i64 t230, .int .i64 t231]), (69, .agg #[.int .i64 t233, .int .i64 t234, .int .i64 t235, .int .i64 t236, .int .i64 t237, .int .i64 t238]), (8, .pointer (some ⟨s_.1, 0, none⟩)), (9, .pointer (some ⟨s_.2, 0, none⟩))]) (fun s_ w' => (w'.cell? ⟨gb221, 0, none⟩ = some (.int .i64 a0_0) ∧ w'.cell? ⟨gb221, 1, none⟩ = some (.int .i64 a0_1) ∧ w'.cell? ⟨gb221, 2, none⟩ = some (.int .i64 a0_2) ∧ w'.cell? ⟨gb221, 3, none⟩ = some (.int .i64 a0_3) ∧ w'.cell? ⟨gb221, 4, none⟩ = some (.int .i64 a0_4) ∧ w'.cell? ⟨gb222, 0, none⟩ = some (.int .i64 a1_0) ∧ w'.cell? ⟨gb222, 1, none⟩ = some (.int .i64 a1_1) ∧ w'.cell? ⟨gb222, 2, none⟩ = some (.int .i64 a1_2) ∧ w'.cell? ⟨gb222, 3, none⟩ = some (.int .i64 a1_3) ∧ w'.cell? ⟨gb222, 4, none⟩ = some (.int .i64 a1_4)) ∧ (w'.heap[gb221]? = some (.cells #[.int .i64 a0_0, .int .i64 a0_1, .int .i64 a0_2, .int .i64 a0_3, .int .i64 a0_4] 46 (0, 0))) ∧ (w'.heap[gb222]? = some (.cells #[.int .i64 a1_0, .int .i64 a1_1, .int .i64 a1_2, .int .i64 a1_3, .int .i64 a1_4] 46 (0, 0))) ∧ (w'.heap[s_.1]? = some (.cells #[.int .i64 0, .int .i64 0, .int .i64 0, .int .i64 0, .int .i64 0, .int .i64 0] 30 (0, 0))) ∧ (w'.heap[s_.2]? = some (.cells #[.int .i64 0, .int .i64 0, .int .i64 0, .int .i64 0, .int .i64 0, .int .i64 0] 30 (0, 0))) ∧ (w.heap.size ≤ s_.1) ∧ (w.heap.size ≤ s_.1) ∧ (g225 ≠ s_.1) ∧ (s_.1 ≠ g225) ∧ (gb221 ≠ s_.1) ∧ (s_.1 ≠ gb221) ∧ (gb222 ≠ s_.1) ∧ (s_.1 ≠ gb222) ∧ (s_.2 ≠ s_.1) ∧ (s_.1 ≠ s_.2) ∧ (w.heap.size ≤ s_.2) ∧ (w.heap.size ≤ s_.2) ∧ (g225 ≠ s_.2) ∧ (s_.2 ≠ g225) ∧ (gb221 ≠ s_.2) ∧ (s_.2 ≠ gb221) ∧ (gb222 ≠ s_.2) ∧ (s_.2 ≠ gb222) ∧ (IsS60 w w' g225 t239) ∧ (Below w.heap.size w w')) ?_ ?_
    rotate_left
    ·
     intro hJ11_23_24_25
     refine join_ (σ := Nat) 3 #[true,true,true,true,true,true,true,true,true,true,true,true,true,true,true,true,true,true,true,true,true,true,true,true,true,false,false,false] (fun s_ => [(57, .agg #[.int .i64 t226, .int .i64 t227, .int .i64 t228, .int .i64 t229, .int .i64 t230, .int .i64 t231]), (69, .agg #[.int .i64 t233, .int .i64 t234, .int .i64 t235, .int .i64 t236, .int .i64 t237, .int .i64 t238]), (8, .pointer (some ⟨s_, 0, none⟩))]) (fun s_ w' => (w'.cell? ⟨gb221, 0, none⟩ = some (.int .i64 a0_0) ∧ w'.cell? ⟨gb221, 1, none⟩ = some (.int .i64 a0_1) ∧ w'.cell? ⟨gb221, 2, none⟩ = some (.int .i64 a0_2) ∧ w'.cell? ⟨gb221, 3, none⟩ = some (.int .i64 a0_3) ∧ w'.cell? ⟨gb221, 4, none⟩ = some (.int .i64 a0_4) ∧ w'.cell? ⟨gb222, 0, none⟩ = some (.int .i64 a1_0) ∧ w'.cell? ⟨gb222, 1, none⟩ = some (.int .i64 a1_1) ∧ w'.cell? ⟨gb222, 2, none⟩ = some (.int .i64 a1_2) ∧ w'.cell? ⟨gb222, 3, none⟩ = some (.int .i64 a1_3) ∧ w'.cell? ⟨gb222, 4, none⟩ = some (.int .i64 a1_4)) ∧ (w'.heap[gb221]? = some (.cells #[.int .i64 a0_0, .int .i64 a0_1, .int .i64 a0_2, .int .i64 a0_3, .int .i64 a0_4] 46 (0, 0))) ∧ (w'.heap[gb222]? = some (.cells #[.int .i64 a1_0, .int .i64 a1_1, .int .i64 a1_2, .int .i64 a1_3, .int .i64 a1_4] 46 (0, 0))) ∧ (w'.heap[s_]? = some (.cells #[.int .i64 0, .int .i64 0, .int .i64 0, .int .i64 0, .int .i64 0, .int .i64 0] 30 (0, 0))) ∧ (w.heap.size ≤ s_) ∧ (w.heap.size ≤ s_) ∧ (g225 ≠ s_) ∧ (s_ ≠ g225) ∧ (gb221 ≠ s_) ∧ (s_ ≠ gb221) ∧ (gb222 ≠ s_) ∧ (s_ ≠ gb222) ∧ (IsS60 w w' g225 t239) ∧ (Below w.heap.size w w')) ?_ ?_
     rotate_left
     ·
      intro hJ11_23_24
      refine join_ (σ := Nat) 3 #[true,true,true,true,true,true,true,true,true,true,true,true,true,true,true,true,true,true,true,true,true,true,true,true,false,true,false,false] (fun s_ => [(57, .agg #[.int .i64 t226, .int .i64 t227, .int .i64 t228, .int .i64 t229, .int .i64 t230, .int .i64 t231]), (69, .agg #[.int .i64 t233, .int .i64 t234, .int .i64 t235, .int .i64 t236, .int .i64 t237, .int .i64 t238]), (9, .pointer (some ⟨s_, 0, none⟩))]) (fun s_ w' => (w'.cell? ⟨gb221, 0, none⟩ = some (.int .i64 a0_0) ∧ w'.cell? ⟨gb221, 1, none⟩ = some (.int .i64 a0_1) ∧ w'.cell? ⟨gb221, 2, none⟩ = some (.int .i64 a0_2) ∧ w'.cell? ⟨gb221, 3, none⟩ = some (.int .i64 a0_3) ∧ w'.cell? ⟨gb221, 4, none⟩ = some (.int .i64 a0_4) ∧ w'.cell? ⟨gb222, 0, none⟩ = some (.int .i64 a1_0) ∧ w'.cell? ⟨gb222, 1, none⟩ = some (.int .i64 a1_1) ∧ w'.cell? ⟨gb222, 2, none⟩ = some (.int .i64 a1_2) ∧ w'.cell? ⟨gb222, 3, none⟩ = some (.int .i64 a1_3) ∧ w'.cell? ⟨gb222, 4, none⟩ = some (.int .i64 a1_4)) ∧ (w'.heap[gb221]? = some (.cells #[.int .i64 a0_0, .int .i64 a0_1, .int .i64 a0_2, .int .i64 a0_3, .int .i64 a0_4] 46 (0, 0))) ∧ (w'.heap[gb222]? = some (.cells #[.int .i64 a1_0, .int .i64 a1_1, .int .i64 a1_2, .int .i64 a1_3, .int .i64 a1_4] 46 (0, 0))) ∧ (w'.heap[s_]? = some (.cells #[.int .i64 0, .int .i64 0, .int .i64 0, .int .i64 0, .int .i64 0, .int .i64 0] 30 (0, 0))) ∧ (w.heap.size ≤ s_) ∧ (w.heap.size ≤ s_) ∧ (g225 ≠ s_) ∧ (s_ ≠ g225) ∧ (gb221 ≠ s_) ∧ (s_ ≠ gb221) ∧ (gb222 ≠ s_) ∧ (s_ ≠ gb222) ∧ (IsS60 w w' g225 t239) ∧ (Below w.heap.size w w')) ?_ ?_
      rotate_left
      ·
       intro hJ11_23_25
       refine join_ (σ := Nat × Nat) 3 #[true,true,true,true,true,true,true,true,true,true,true,true,true,true,true,true,true,true,true,true,true,true,true,false,true,true,false,false] (fun s_ => [(57, .agg #[.int .i64 t226, .int .i64 t227, .int .i64 t228, .int .i64 t229, .int .i64 t230, .int .i64 t231]), (8, .pointer (some ⟨s_.1, 0, none⟩)), (9, .pointer (some ⟨s_.2, 0, none⟩))]) (fun s_ w' => (w'.cell? ⟨gb221, 0, none⟩ = some (.int .i64 a0_0) ∧ w'.cell? ⟨gb221, 1, none⟩ = some (.int .i64 a0_1) ∧ w'.cell? ⟨gb221, 2, none⟩ = some (.int .i64 a0_2) ∧ w'.cell? ⟨gb221, 3, none⟩ = some (.int .i64 a0_3) ∧ w'.cell? ⟨gb221, 4, none⟩ = some (.int .i64 a0_4) ∧ w'.cell? ⟨gb222, 0, none⟩ = some (.int .i64 a1_0) ∧ w'.cell? ⟨gb222, 1, none⟩ = some (.int .i64 a1_1) ∧ w'.cell? ⟨gb222, 2, none⟩ = some (.int .i64 a1_2) ∧ w'.cell? ⟨gb222, 3, none⟩ = some (.int .i64 a1_3) ∧ w'.cell? ⟨gb222, 4, none⟩ = some (.int .i64 a1_4)) ∧ (w'.heap[gb221]? = some (.cells #[.int .i64 a0_0, .int .i64 a0_1, .int .i64 a0_2, .int .i64 a0_3, .int .i64 a0_4] 46 (0, 0))) ∧ (w'.heap[gb222]? = some (.cells #[.int .i64 a1_0, .int .i64 a1_1, .int .i64 a1_2, .int .i64 a1_3, .int .i64 a1_4] 46 (0, 0))) ∧ (w'.heap[s_.1]? = some (.cells #[.int .i64 0, .int .i64 0, .int .i64 0, .int .i64 0, .int .i64 0, .int .i64 0] 30 (0, 0))) ∧ (w'.heap[s_.2]? = some (.cells #[.int .i64 0, .int .i64 0, .int .i64 0, .int .i64 0, .int .i64 0, .int .i64 0] 30 (0, 0))) ∧ (w.heap.size ≤ s_.1) ∧ (w.heap.size ≤ s_.1) ∧ (g225 ≠ s_.1) ∧ (s_.1 ≠ g225) ∧ (gb221 ≠ s_.1) ∧ (s_.1 ≠ gb221) ∧ (gb222 ≠ s_.1) ∧ (s_.1 ≠ gb222) ∧ (s_.2 ≠ s_.1) ∧ (s_.1 ≠ s_.2) ∧ (w.heap.size ≤ s_.2) ∧ (w.heap.size ≤ s_.2) ∧ (g225 ≠ s_.2) ∧ (s_.2 ≠ g225) ∧ (gb221 ≠ s_.2) ∧ (s_.2 ≠ gb221) ∧ (gb222 ≠ s_.2) ∧ (s_.2 ≠ gb222) ∧ (IsS60 w w' g225 t232) ∧ (Below w.heap.size w w')) ?_ ?_
       rotate_left
       ·
        intro hJ11_24_25
        refine join_ (σ := Unit) 4 #[true,true,true,true,true,true,true,true,true,true,true,true,true,true,true,true,true,true,true,true,true,true,true,true,false,false,false,false] (fun s_ => [(57, .agg #[.int .i64 t226, .int .i64 t227, .int .i64 t228, .int .i64 t229, .int .i64 t230, .int .i64 t231]), (69, .agg #[.int .i64 t233, .int .i64 t234, .int .i64 t235, .int .i64 t236, .int .i64 t237, .int .i64 t238])]) (fun s_ w' => (w'.cell? ⟨gb221, 0, none⟩ = some (.int .i64 a0_0) ∧ w'.cell? ⟨gb221, 1, none⟩ = some (.int .i64 a0_1) ∧ w'.cell? ⟨gb221, 2, none⟩ = some (.int .i64 a0_2) ∧ w'.cell? ⟨gb221, 3, none⟩ = some (.int .i64 a0_3) ∧ w'.cell? ⟨gb221, 4, none⟩ = some (.int .i64 a0_4) ∧ w'.cell? ⟨gb222, 0, none⟩ = some (.int .i64 a1_0) ∧ w'.cell? ⟨gb222, 1, none⟩ = some (.int .i64 a1_1) ∧ w'.cell? ⟨gb222, 2, none⟩ = some (.int .i64 a1_2) ∧ w'.cell? ⟨gb222, 3, none⟩ = some (.int .i64 a1_3) ∧ w'.cell? ⟨gb222, 4, none⟩ = some (.int .i64 a1_4)) ∧ (w'.heap[gb221]? = some (.cells #[.int .i64 a0_0, .int .i64 a0_1, .int .i64 a0_2, .int .i64 a0_3, .int .i64 a0_4] 46 (0, 0))) ∧ (w'.heap[gb222]? = some (.cells #[.int .i64 a1_0, .int .i64 a1_1, .int .i64 a1_2, .int .i64 a1_3, .int .i64 a1_4] 46 (0, 0))) ∧ (IsS60 w w' g225 t239) ∧ (Below w.heap.size w w')) ?_ ?_
        rotate_left
        ·
         intro hJ11_23
         refine join_ (σ := Nat) 4 #[true,true,true,true,true,true,true,true,true,true,true,true,true,true,true,true,true,true,true,true,true,true,true,false,true,false,false,false] (fun s_ => [(57, .agg #[.int .i64 t226, .int .i64 t227, .int .i64 t228, .int .i64 t229, .int .i64 t230, .int .i64 t231]), (8, .pointer (some ⟨s_, 0, none⟩))]) (fun s_ w' => (w'.cell? ⟨gb221, 0, none⟩ = some (.int .i64 a0_0) ∧ w'.cell? ⟨gb221, 1, none⟩ = some (.int .i64 a0_1) ∧ w'.cell? ⟨gb221, 2, none⟩ = some (.int .i64 a0_2) ∧ w'.cell? ⟨gb221, 3, none⟩ = some (.int .i64 a0_3) ∧ w'.cell? ⟨gb221, 4, none⟩ = some (.int .i64 a0_4) ∧ w'.cell? ⟨gb222, 0, none⟩ = some (.int .i64 a1_0) ∧ w'.cell? ⟨gb222, 1, none⟩ = some (.int .i64 a1_1) ∧ w'.cell? ⟨gb222, 2, none⟩ = some (.int .i64 a1_2) ∧ w'.cell? ⟨gb222, 3, none⟩ = some (.int .i64 a1_3) ∧ w'.cell? ⟨gb222, 4, none⟩ = some (.int .i64 a1_4)) ∧ (w'.heap[gb221]? = some (.cells #[.int .i64 a0_0, .int .i64 a0_1, .int .i64 a0_2, .int .i64 a0_3, .int .i64 a0_4] 46 (0, 0))) ∧ (w'.heap[gb222]? = some (.cells #[.int .i64 a1_0, .int .i64 a1_1, .int .i64 a1_2, .int .i64 a1_3, .int .i64 a1_4] 46 (0, 0))) ∧ (w'.heap[s_]? = some (.cells #[.int .i64 0, .int .i64 0, .int .i64 0, .int .i64 0, .int .i64 0, .int .i64 0] 30 (0, 0))) ∧ (w.heap.size ≤ s_) ∧ (w.heap.size ≤ s_) ∧ (g225 ≠ s_) ∧ (s_ ≠ g225) ∧ (gb221 ≠ s_) ∧ (s_ ≠ gb221) ∧ (gb222 ≠ s_) ∧ (s_ ≠ gb222) ∧ (IsS60 w w' g225 t232) ∧ (Below w.heap.size w w')) ?_ ?_
         rotate_left
         ·
          intro hJ11_24
          refine join_ (σ := Nat) 4 #[true,true,true,true,true,true,true,true,true,true,true,true,true,true,true,true,true,true,true,true,true,true,true,false,false,true,false,false] (fun s_ => [(57, .agg #[.int .i64 t226, .int .i64 t227, .int .i64 t228, .int .i64 t229, .int .i64 t230, .int .i64 t231]), (9, .pointer (some ⟨s_, 0, none⟩))]) (fun s_ w' => (w'.cell? ⟨gb221, 0, none⟩ = some (.int .i64 a0_0) ∧ w'.cell? ⟨gb221, 1, none⟩ = some (.int .i64 a0_1) ∧ w'.cell? ⟨gb221, 2, none⟩ = some (.int .i64 a0_2) ∧ w'.cell? ⟨gb221, 3, none⟩ = some (.int .i64 a0_3) ∧ w'.cell? ⟨gb221, 4, none⟩ = some (.int .i64 a0_4) ∧ w'.cell? ⟨gb222, 0, none⟩ = some (.int .i64 a1_0) ∧ w'.cell? ⟨gb222, 1, none⟩ = some (.int .i64 a1_1) ∧ w'.cell? ⟨gb222, 2, none⟩ = some (.int .i64 a1_2) ∧ w'.cell? ⟨gb222, 3, none⟩ = some (.int .i64 a1_3) ∧ w'.cell? ⟨gb222, 4, none⟩ = some (.int .i64 a1_4)) ∧ (w'.heap[gb221]? = some (.cells #[.int .i64 a0_0, .int .i64 a0_1, .int .i64 a0_2, .int .i64 a0_3, .int .i64 a0_4] 46 (0, 0))) ∧ (w'.heap[gb222]? = some (.cells #[.int .i64 a1_0, .int .i64 a1_1, .int .i64 a1_2, .int .i64 a1_3, .int .i64 a1_4] 46 (0, 0))) ∧ (w'.heap[s_]? = some (.cells #[.int .i64 0, .int .i64 0, .int .i64 0, .int .i64 0, .int .i64 0, .int .i64 0] 30 (0, 0))) ∧ (w.heap.size ≤ s_) ∧ (w.heap.size ≤ s_) ∧ (g225 ≠ s_) ∧ (s_ ≠ g225) ∧ (gb221 ≠ s_) ∧ (s_ ≠ gb221) ∧ (gb222 ≠ s_) ∧ (s_ ≠ gb222) ∧ (IsS60 w w' g225 t232) ∧ (Below w.heap.size w w')) ?_ ?_
          rotate_left
          ·
           intro hJ11_25
           refine join_ (σ := Nat × Nat) 4 #[true,true,true,true,true,true,true,true,true,true,true,false,true,true,true,true,true,true,true,true,true,true,true,false,true,true,false,false] (fun s_ => [(8, .pointer (some ⟨s_.1, 0, none⟩)), (9, .pointer (some ⟨s_.2, 0, none⟩))]) (fun s_ w' => (w'.cell? ⟨gb221, 0, none⟩ = some (.int .i64 a0_0) ∧ w'.cell? ⟨gb221, 1, none⟩ = some (.int .i64 a0_1) ∧ w'.cell? ⟨gb221, 2, none⟩ = some (.int .i64 a0_2) ∧ w'.cell? ⟨gb221, 3, none⟩ = some (.int .i64 a0_3) ∧ w'.cell? ⟨gb221, 4, none⟩ = some (.int .i64 a0_4) ∧ w'.cell? ⟨gb222, 0, none⟩ = some (.int .i64 a1_0) ∧ w'.cell? ⟨gb222, 1, none⟩ = some (.int .i64 a1_1) ∧ w'.cell? ⟨gb222, 2, none⟩ = some (.int .i64 a1_2) ∧ w'.cell? ⟨gb222, 3, none⟩ = some (.int .i64 a1_3) ∧ w'.cell? ⟨gb222, 4, none⟩ = some (.int .i64 a1_4)) ∧ (w'.heap[gb221]? = some (.cells #[.int .i64 a0_0, .int .i64 a0_1, .int .i64 a0_2, .int .i64 a0_3, .int .i64 a0_4] 46 (0, 0))) ∧ (w'.heap[gb222]? = some (.cells #[.int .i64 a1_0, .int .i64 a1_1, .int .i64 a1_2, .int .i64 a1_3, .int .i64 a1_4] 46 (0, 0))) ∧ (w'.heap[s_.1]? = some (.cells #[.int .i64 0, .int .i64 0, .int .i64 0, .int .i64 0, .int .i64 0, .int .i64 0] 30 (0, 0))) ∧ (w'.heap[s_.2]? = some (.cells #[.int .i64 0, .int .i64 0, .int .i64 0, .int .i64 0, .int .i64 0, .int .i64 0] 30 (0, 0))) ∧ (w.heap.size ≤ s_.1) ∧ (w.heap.size ≤ s_.1) ∧ (g225 ≠ s_.1) ∧ (s_.1 ≠ g225) ∧ (gb221 ≠ s_.1) ∧ (s_.1 ≠ gb221) ∧ (gb222 ≠ s_.1) ∧ (s_.1 ≠ gb222) ∧ (s_.2 ≠ s_.1) ∧ (s_.1 ≠ s_.2) ∧ (w.heap.size ≤ s_.2) ∧ (w.heap.size ≤ s_.2) ∧ (g225 ≠ s_.2) ∧ (s_.2 ≠ g225) ∧ (gb221 ≠ s_.2) ∧ (s_.2 ≠ gb221) ∧ (gb222 ≠ s_.2) ∧ (s_.2 ≠ gb222) ∧ (IsS60 w w' g225 t224) ∧ (Below w.heap.size w w')) ?_ ?_
           rotate_left
           ·
            intro hJ24_25
            refine join_ (σ := Unit) 5 #[true,true,true,true,true,true,true,true,true,true,true,true,true,true,true,true,true,true,true,true,true,true,true,false,false,false,false,false] (fun s_ => [(57, .agg #[.int .i64 t226, .int .i64 t227, .int .i64 t228, .int .i64 t229, .int .i64 t230, .int .i64 t231])]) (fun s_ w' => (w'.cell? ⟨gb221, 0, none⟩ = some (.int .i64 a0_0) ∧ w'.cell? ⟨gb221, 1, none⟩ = some (.int .i64 a0_1) ∧ w'.cell? ⟨gb221, 2, none⟩ = some (.int .i64 a0_2) ∧ w'.cell? ⟨gb221, 3, none⟩ = some (.int .i64 a0_3) ∧ w'.cell? ⟨gb221, 4, none⟩ = some (.int .i64 a0_4) ∧ w'.cell? ⟨gb222, 0, none⟩ = some (.int .i64 a1_0) ∧ w'.cell? ⟨gb222, 1, none⟩ = some (.int .i64 a1_1) ∧ w'.cell? ⟨gb222, 2, none⟩ = some (.int .i64 a1_2) ∧ w'.cell? ⟨gb222, 3, none⟩ = some (.int .i64 a1_3) ∧ w'.cell? ⟨gb222, 4, none⟩ = some (.int .i64 a1_4)) ∧ (w'.heap[gb221]? = some (.cells #[.int .i64 a0_0, .int .i64 a0_1, .int .i64 a0_2, .int .i64 a0_3, .int .i64 a0_4] 46 (0, 0))) ∧ (w'.heap[gb222]? = some (.cells #[.int .i64 a1_0, .int .i64 a1_1, .int .i64 a1_2, .int .i64 a1_3, .int .i64 a1_4] 46 (0, 0))) ∧ (IsS60 w w' g225 t232) ∧ (Below w.heap.size w w')) ?_ ?_
            rotate_left
            ·
             intro hJ11
             refine join_ (σ := Nat) 5 #[true,true,true,true,true,true,true,true,true,true,true,false,true,true,true,true,true,true,true,true,true,true,true,false,true,false,false,false] (fun s_ => [(8, .pointer (some ⟨s_, 0, none⟩))]) (fun s_ w' => (w'.cell? ⟨gb221, 0, none⟩ = some (.int .i64 a0_0) ∧ w'.cell? ⟨gb221, 1, none⟩ = some (.int .i64 a0_1) ∧ w'.cell? ⟨gb221, 2, none⟩ = some (.int .i64 a0_2) ∧ w'.cell? ⟨gb221, 3, none⟩ = some (.int .i64 a0_3) ∧ w'.cell? ⟨gb221, 4, none⟩ = some (.int .i64 a0_4) ∧ w'.cell? ⟨gb222, 0, none⟩ = some (.int .i64 a1_0) ∧ w'.cell? ⟨gb222, 1, none⟩ = some (.int .i64 a1_1) ∧ w'.cell? ⟨gb222, 2, none⟩ = some (.int .i64 a1_2) ∧ w'.cell? ⟨gb222, 3, none⟩ = some (.int .i64 a1_3) ∧ w'.cell? ⟨gb222, 4, none⟩ = some (.int .i64 a1_4)) ∧ (w'.heap[gb221]? = some (.cells #[.int .i64 a0_0, .int .i64 a0_1, .int .i64 a0_2, .int .i64 a0_3, .int .i64 a0_4] 46 (0, 0))) ∧ (w'.heap[gb222]? = some (.cells #[.int .i64 a1_0, .int .i64 a1_1, .int .i64 a1_2, .int .i64 a1_3, .int .i64 a1_4] 46 (0, 0))) ∧ (w'.heap[s_]? = some (.cells #[.int .i64 0, .int .i64 0, .int .i64 0, .int .i64 0, .int .i64 0, .int .i64 0] 30 (0, 0))) ∧ (w.heap.size ≤ s_) ∧ (w.heap.size ≤ s_) ∧ (g225 ≠ s_) ∧ (s_ ≠ g225) ∧ (gb221 ≠ s_) ∧ (s_ ≠ gb221) ∧ (gb222 ≠ s_) ∧ (s_ ≠ gb222) ∧ (IsS60 w w' g225 t224) ∧ (Below w.heap.size w w')) ?_ ?_
             rotate_left
             ·
              intro hJ24
              refine join_ (σ := Nat) 5 #[true,true,true,true,true,true,true,true,true,true,true,false,true,true,true,true,true,true,true,true,true,true,true,false,false,true,false,false] (fun s_ => [(9, .pointer (some ⟨s_, 0, none⟩))]) (fun s_ w' => (w'.cell? ⟨gb221, 0, none⟩ = some (.int .i64 a0_0) ∧ w'.cell? ⟨gb221, 1, none⟩ = some (.int .i64 a0_1) ∧ w'.cell? ⟨gb221, 2, none⟩ = some (.int .i64 a0_2) ∧ w'.cell? ⟨gb221, 3, none⟩ = some (.int .i64 a0_3) ∧ w'.cell? ⟨gb221, 4, none⟩ = some (.int .i64 a0_4) ∧ w'.cell? ⟨gb222, 0, none⟩ = some (.int .i64 a1_0) ∧ w'.cell? ⟨gb222, 1, none⟩ = some (.int .i64 a1_1) ∧ w'.cell? ⟨gb222, 2, none⟩ = some (.int .i64 a1_2) ∧ w'.cell? ⟨gb222, 3, none⟩ = some (.int .i64 a1_3) ∧ w'.cell? ⟨gb222, 4, none⟩ = some (.int .i64 a1_4)) ∧ (w'.heap[gb221]? = some (.cells #[.int .i64 a0_0, .int .i64 a0_1, .int .i64 a0_2, .int .i64 a0_3, .int .i64 a0_4] 46 (0, 0))) ∧ (w'.heap[gb222]? = some (.cells #[.int .i64 a1_0, .int .i64 a1_1, .int .i64 a1_2, .int .i64 a1_3, .int .i64 a1_4] 46 (0, 0))) ∧ (w'.heap[s_]? = some (.cells #[.int .i64 0, .int .i64 0, .int .i64 0, .int .i64 0, .int .i64 0, .int .i64 0] 30 (0, 0))) ∧ (w.heap.size ≤ s_) ∧ (w.heap.size ≤ s_) ∧ (g225 ≠ s_) ∧ (s_ ≠ g225) ∧ (gb221 ≠ s_) ∧ (s_ ≠ gb221) ∧ (gb222 ≠ s_) ∧ (s_ ≠ gb222) ∧ (IsS60 w w' g225 t224) ∧ (Below w.heap.size w w')) ?_ ?_
              rotate_left
              ·
               intro hJ25
               refine three_ (i := 11) (j := 24) (k := 25) (Ni := some 57) (Nj := some 8) (Nk := some 9) #[true,true,true,true,true,true,true,true,true,true,true,true,true,true,true,true,true,true,true,true,true,true,true,false,false,false,false,false] #[true,true,true,true,true,true,true,true,true,true,true,false,true,true,true,true,true,true,true,true,true,true,true,false,true,false,false,false] #[true,true,true,true,true,true,true,true,true,true,true,false,true,true,true,true,true,true,true,true,true,true,true,false,false,true,false,false] rfl rfl rfl rfl rfl rfl (three_of HT_.out (by kernel_rfl)) (by decide) (by decide) (by decide) (fun K hK => ?_) (fun K hK => ?_) (fun K hK => ?_)
               ·
                skip
                refine goes_ Tryd.func10 (by kernel_rfl) rfl #[.pointer (some ⟨g225, 0, none⟩), .int .i64 a0_0, .int .i64 a0_2, .int .i64 a0_3, .int .i64 a0_4, .int .i64 a0_1] (by rfl) rfl rfl (by (try simp only [List.map_toArray, List.map_cons, List.map_nil]); first | done | rfl | (simp only [List.length_drop, List.length_take]; rfl)) ?_
                with_reducible refine (card_Make.calls (hrG := ?sideG) k g225 t224 a0_0 a0_2 a0_3 a0_4 a0_1 t226 t227 t228 t229 t230 t231 t232 w _ ?side1 ?side2 A54.out).mono ?_
                (case sideG => (first | (with_reducible exact HRG.out) | exact TabG.below HRG.out (by repeat (first | (with_reducible first | exact HB.out | apply below_alloc | apply pw_below_drewN | apply below_drew1 | refine bS ?_ (IsS60.ge HI225.out) | refine bS ?_ GE221.out | refine bS ?_ GE222.out | refine bS ?_ GE240.out | refine bS ?_ GE241.out) | (with_reducible exact Below.refl _ _)))))
                (case side1 => repeat (first | (with_reducible first | exact HI225.out | apply IsS60.alloc | apply IsS60.drewN | apply IsS60.drew | apply IsS60.set_0 | (focus (refine IsS60.far ?_ ?_ _; rotate_left; (focus ((repeat (first | (with_reducible exact Nsty.of BK221.out rfl) | apply Nsty.set | apply Nsty.drewN | apply Nsty.drew | apply Nsty.alloc)); done)))) | (focus (refine IsS60.far ?_ ?_ _; rotate_left; (focus ((repeat (first | (with_reducible exact Nsty.of BK222.out rfl) | apply Nsty.set | apply Nsty.drewN | apply Nsty.drew | apply Nsty.alloc)); done))))) | exact HI225.out))
                (case side2 => repeat (first | (with_reducible first | exact HB.out | apply below_alloc | apply pw_below_drewN | apply below_drew1 | refine bS ?_ (IsS60.ge HI225.out) | refine bS ?_ GE221.out | refine bS ?_ GE222.out) | exact HB.out))
                rintro e w111 ⟨rfl, hi, hb, hk⟩
                refine ⟨_, rfl, ?_⟩
                have n0_ := mk0 (KeepSt.blk hk (g' := gb221) (o := .cells #[.int .i64 a0_0, .int .i64 a0_1, .int .i64 a0_2, .int .i64 a0_3, .int .i64 a0_4] 46 (0, 0)) (by (with_reducible repeat (first | refine kN ?_ _ | refine kD ?_ | refine kA ?_ _)); exact BK221.out) NB221_225.out rfl)
                have n1_ := mk0 (KeepSt.blk hk (g' := gb222) (o := .cells #[.int .i64 a1_0, .int .i64 a1_1, .int .i64 a1_2, .int .i64 a1_3, .int .i64 a1_4] 46 (0, 0)) (by (with_reducible repeat (first | refine kN ?_ _ | refine kD ?_ | refine kA ?_ _)); exact BK222.out) NB222_225.out rfl)
                have n2_ := mk0 (hb)
                have n3_ := mk0 (hi)
                clear BK221
                clear BK222
                clear HB
                clear HI225
                have BK221 := n0_
                have BK222 := n1_
                have HB := n2_
                have HI225 := n3_
                clear n0_ n1_ n2_ n3_
                (try clear hb)
                (try clear hb2)
                (try clear hk)
                (try clear hi)
                refine hK.out _ _ ⟨(kC BK221.out 0).trans rfl, (kC BK221.out 1).trans rfl, (kC BK221.out 2).trans rfl, (kC BK221.out 3).trans rfl, (kC BK221.out 4).trans rfl, (kC BK222.out 0).trans rfl, (kC BK222.out 1).trans rfl, (kC BK222.out 2).trans rfl, (kC BK222.out 3).trans rfl, (kC BK222.out 4).trans rfl⟩ (fun hHeld => ?_)
                clear hK K
                refine norm_ (a' := ?_) ?_ ?_
                rotate_left
                ·
                 show Act.put _ (some 57) _ = _
                 simp only [Act.put, sB, sZ, sS, i64_w, i32_w]
                 rfl
                exact norm_ (by first | (simp only [putAll, Act.put, sB, sZ, sS]; done) | (simp only [putAll, Act.put, sB, sZ, sS]; rfl)) (hJ11 () _ ⟨hHeld, (by (with_reducible repeat (first | refine kN ?_ _ | refine kD ?_ | refine kA ?_ _)); exact BK221.out), (by (with_reducible repeat (first | refine kN ?_ _ | refine kD ?_ | refine kA ?_ _)); exact BK222.out), (by repeat (first | (with_reducible first | exact HI225.out | apply IsS60.alloc | apply IsS60.drewN | apply IsS60.drew | apply IsS60.set_0 | (focus (refine IsS60.far ?_ ?_ _; rotate_left; (focus ((repeat (first | (with_reducible exact Nsty.of BK221.out rfl) | apply Nsty.set | apply Nsty.drewN | apply Nsty.drew | apply Nsty.alloc)); done)))) | (focus (refine IsS60.far ?_ ?_ _; rotate_left; (focus ((repeat (first | (with_reducible exact Nsty.of BK222.out rfl) | apply Nsty.set | apply Nsty.drewN | apply Nsty.drew | apply Nsty.alloc)); done))))) | exact HI225.out)), (by repeat (first | (with_reducible first | exact HB.out | apply below_alloc | apply pw_below_drewN | apply below_drew1 | refine bS ?_ (IsS60.ge HI225.out) | refine bS ?_ GE221.out | refine bS ?_ GE222.out) | exact HB.out))⟩)
               ·
                skip
                refine box_step ?hg (N := 8) ?hd (cs := #[.int .i64 0, .int .i64 0, .int .i64 0, .int .i64 0, .int .i64 0, .int .i64 0]) (t := 30) ?hr ?_; (case hd => rfl); (case hg => rfl); (case hr => first | (go_simp; done) | (go_simp; rfl))
                intro gb240 hg w111 hbox hb
                have n0_ := mk0 (blk_below (g := gb221) (o := .cells #[.int .i64 a0_0, .int .i64 a0_1, .int .i64 a0_2, .int .i64 a0_3, .int .i64 a0_4] 46 (0, 0)) (by (with_reducible repeat (first | refine kN ?_ _ | refine kD ?_ | refine kA ?_ _)); exact BK221.out) hb)
                have n1_ := mk0 (blk_below (g := gb222) (o := .cells #[.int .i64 a1_0, .int .i64 a1_1, .int .i64 a1_2, .int .i64 a1_3, .int .i64 a1_4] 46 (0, 0)) (by (with_reducible repeat (first | refine kN ?_ _ | refine kD ?_ | refine kA ?_ _)); exact BK222.out) hb)
                have n2_ := mk0 (IsS60.below (by repeat (first | (with_reducible first | exact HI225.out | apply IsS60.alloc | apply IsS60.drewN | apply IsS60.drew | apply IsS60.set_0 | (focus (refine IsS60.far ?_ ?_ _; rotate_left; (focus ((repeat (first | (with_reducible exact Nsty.of BK221.out rfl) | apply Nsty.set | apply Nsty.drewN | apply Nsty.drew | apply Nsty.alloc)); done)))) | (focus (refine IsS60.far ?_ ?_ _; rotate_left; (focus ((repeat (first | (with_reducible exact Nsty.of BK222.out rfl) | apply Nsty.set | apply Nsty.drewN | apply Nsty.drew | apply Nsty.alloc)); done))))) | exact HI225.out)) hb)
                have n3_ := mk0 (below_step (by repeat (first | (with_reducible first | exact HB.out | apply below_alloc | apply pw_below_drewN | apply below_drew1 | refine bS ?_ (IsS60.ge HI225.out) | refine bS ?_ GE221.out | refine bS ?_ GE222.out) | exact HB.out)) hb)
                have n4_ := mk0 (hbox)
                have n5_ := mk0 ((by rw [hg]; exact (below_size (by repeat (first | (with_reducible first | exact HB.out | apply below_alloc | apply pw_below_drewN | apply below_drew1 | refine bS ?_ (IsS60.ge HI225.out) | refine bS ?_ GE221.out | refine bS ?_ GE222.out) | exact HB.out))) : w.heap.size ≤ gb240))
                have n6_ := mk0 ((by rw [hg]; exact (below_size (by repeat (first | (with_reducible first | exact HB.out | apply below_alloc | apply pw_below_drewN | apply below_drew1 | refine bS ?_ (IsS60.ge HI225.out) | refine bS ?_ GE221.out | refine bS ?_ GE222.out) | exact HB.out))) : w.heap.size ≤ gb240))
                have n7_ := mk0 ((by rw [hg]; exact Nat.ne_of_lt (blk_lt (g := gb221) (o := .cells #[.int .i64 a0_0, .int .i64 a0_1, .int .i64 a0_2, .int .i64 a0_3, .int .i64 a0_4] 46 (0, 0)) (by (with_reducible repeat (first | refine kN ?_ _ | refine kD ?_ | refine kA ?_ _)); exact BK221.out)) : gb221 ≠ gb240))
                have n8_ := mk0 ((by rw [hg]; exact Nat.ne_of_gt (blk_lt (g := gb221) (o := .cells #[.int .i64 a0_0, .int .i64 a0_1, .int .i64 a0_2, .int .i64 a0_3, .int .i64 a0_4] 46 (0, 0)) (by (with_reducible repeat (first | refine kN ?_ _ | refine kD ?_ | refine kA ?_ _)); exact BK221.out)) : gb240 ≠ gb221))
                have n9_ := mk0 ((by rw [hg]; exact Nat.ne_of_lt (blk_lt (g := gb222) (o := .cells #[.int .i64 a1_0, .int .i64 a1_1, .int .i64 a1_2, .int .i64 a1_3, .int .i64 a1_4] 46 (0, 0)) (by (with_reducible repeat (first | refine kN ?_ _ | refine kD ?_ | refine kA ?_ _)); exact BK222.out)) : gb222 ≠ gb240))
                have n10_ := mk0 ((by rw [hg]; exact Nat.ne_of_gt (blk_lt (g := gb222) (o := .cells #[.int .i64 a1_0, .int .i64 a1_1, .int .i64 a1_2, .int .i64 a1_3, .int .i64 a1_4] 46 (0, 0)) (by (with_reducible repeat (first | refine kN ?_ _ | refine kD ?_ | refine kA ?_ _)); exact BK222.out)) : gb240 ≠ gb222))
                have n11_ := mk0 ((by rw [hg]; exact Nat.ne_of_lt (IsS60.lt (show IsS60 w _ g225 t224 from by repeat (first | (with_reducible first | exact HI225.out | apply IsS60.alloc | apply IsS60.drewN | apply IsS60.drew | apply IsS60.set_0 | (focus (refine IsS60.far ?_ ?_ _; rotate_left; (focus ((repeat (first | (with_reducible exact Nsty.of BK221.out rfl) | apply Nsty.set | apply Nsty.drewN | apply Nsty.drew | apply Nsty.alloc)); done)))) | (focus (refine IsS60.far ?_ ?_ _; rotate_left; (focus ((repeat (first | (with_reducible exact Nsty.of BK222.out rfl) | apply Nsty.set | apply Nsty.drewN | apply Nsty.drew | apply Nsty.alloc)); done))))) | exact HI225.out))) : g225 ≠ gb240))
                have n12_ := mk0 ((by rw [hg]; exact Nat.ne_of_gt (IsS60.lt (show IsS60 w _ g225 t224 from by repeat (first | (with_reducible first | exact HI225.out | apply IsS60.alloc | apply IsS60.drewN | apply IsS60.drew | apply IsS60.set_0 | (focus (refine IsS60.far ?_ ?_ _; rotate_left; (focus ((repeat (first | (with_reducible exact Nsty.of BK221.out rfl) | apply Nsty.set | apply Nsty.drewN | apply Nsty.drew | apply Nsty.alloc)); done)))) | (focus (refine IsS60.far ?_ ?_ _; rotate_left; (focus ((repeat (first | (with_reducible exact Nsty.of BK222.out rfl) | apply Nsty.set | apply Nsty.drewN | apply Nsty.drew | apply Nsty.alloc)); done))))) | exact HI225.out))) : gb240 ≠ g225))
                clear BK221
                clear BK222
                clear HI225
                clear HB
                have BK221 := n0_
                have BK222 := n1_
                have HI225 := n2_
                have HB := n3_
                have BK240 := n4_
                have GW240 := n5_
                have GE240 := n6_
                have NB221_240 := n7_
                have NB240_221 := n8_
                have NB222_240 := n9_
                have NB240_222 := n10_
                have NB225_240 := n11_
                have NB240_225 := n12_
                clear n0_ n1_ n2_ n3_ n4_ n5_ n6_ n7_ n8_ n9_ n10_ n11_ n12_
                clear hb hbox hg
                refine hK.out _ _ ⟨(kC BK221.out 0).trans rfl, (kC BK221.out 1).trans rfl, (kC BK221.out 2).trans rfl, (kC BK221.out 3).trans rfl, (kC BK221.out 4).trans rfl, (kC BK222.out 0).trans rfl, (kC BK222.out 1).trans rfl, (kC BK222.out 2).trans rfl, (kC BK222.out 3).trans rfl, (kC BK222.out 4).trans rfl⟩ (fun hHeld => ?_)
                clear hK K
                refine norm_ (a' := ?_) ?_ ?_
                rotate_left
                ·
                 show Act.put _ (some 8) _ = _
                 simp only [Act.put, sB, sZ, sS, i64_w, i32_w]
                 rfl
                exact norm_ (by first | (simp only [putAll, Act.put, sB, sZ, sS]; done) | (simp only [putAll, Act.put, sB, sZ, sS]; rfl)) (hJ24 (gb240) _ ⟨hHeld, (by (with_reducible repeat (first | refine kN ?_ _ | refine kD ?_ | refine kA ?_ _)); exact BK221.out), (by (with_reducible repeat (first | refine kN ?_ _ | refine kD ?_ | refine kA ?_ _)); exact BK222.out), (by (with_reducible repeat (first | refine kN ?_ _ | refine kD ?_ | refine kA ?_ _)); exact BK240.out), GW240.out, GE240.out, NB225_240.out, NB240_225.out, NB221_240.out, NB240_221.out, NB222_240.out, NB240_222.out, (by repeat (first | (with_reducible first | exact HI225.out | apply IsS60.alloc | apply IsS60.drewN | apply IsS60.drew | apply IsS60.set_0 | (focus (refine IsS60.far ?_ ?_ _; rotate_left; (focus ((repeat (first | (with_reducible exact Nsty.of BK221.out rfl) | apply Nsty.set | apply Nsty.drewN | apply Nsty.drew | apply Nsty.alloc)); done)))) | (focus (refine IsS60.far ?_ ?_ _; rotate_left; (focus ((repeat (first | (with_reducible exact Nsty.of BK222.out rfl) | apply Nsty.set | apply Nsty.drewN | apply Nsty.drew | apply Nsty.alloc)); done)))) | (focus (refine IsS60.far ?_ ?_ _; rotate_left; (focus ((repeat (first | (with_reducible exact Nsty.of BK240.out rfl) | apply Nsty.set | apply Nsty.drewN | apply Nsty.drew | apply Nsty.alloc)); done))))) | exact HI225.out)), (by repeat (first | (with_reducible first | exact HB.out | apply below_alloc | apply pw_below_drewN | apply below_drew1 | refine bS ?_ (IsS60.ge HI225.out) | refine bS ?_ GE221.out | refine bS ?_ GE222.out | refine bS ?_ GE240.out) | exact HB.out))⟩)
               skip
               refine box_step ?hg (N := 9) ?hd (cs := #[.int .i64 0, .int .i64 0, .int .i64 0, .int .i64 0, .int .i64 0, .int .i64 0]) (t := 30) ?hr ?_; (case hd => rfl); (case hg => rfl); (case hr => first | (go_simp; done) | (go_simp; rfl))
               intro gb241 hg w111 hbox hb
               have n0_ := mk0 (blk_below (g := gb221) (o := .cells #[.int .i64 a0_0, .int .i64 a0_1, .int .i64 a0_2, .int .i64 a0_3, .int .i64 a0_4] 46 (0, 0)) (by (with_reducible repeat (first | refine kN ?_ _ | refine kD ?_ | refine kA ?_ _)); exact BK221.out) hb)
               have n1_ := mk0 (blk_below (g := gb222) (o := .cells #[.int .i64 a1_0, .int .i64 a1_1, .int .i64 a1_2, .int .i64 a1_3, .int .i64 a1_4] 46 (0, 0)) (by (with_reducible repeat (first | refine kN ?_ _ | refine kD ?_ | refine kA ?_ _)); exact BK222.out) hb)
               have n2_ := mk0 (IsS60.below (by repeat (first | (with_reducible first | exact HI225.out | apply IsS60.alloc | apply IsS60.drewN | apply IsS60.drew | apply IsS60.set_0 | (focus (refine IsS60.far ?_ ?_ _; rotate_left; (focus ((repeat (first | (with_reducible exact Nsty.of BK221.out rfl) | apply Nsty.set | apply Nsty.drewN | apply Nsty.drew | apply Nsty.alloc)); done)))) | (focus (refine IsS60.far ?_ ?_ _; rotate_left; (focus ((repeat (first | (with_reducible exact Nsty.of BK222.out rfl) | apply Nsty.set | apply Nsty.drewN | apply Nsty.drew | apply Nsty.alloc)); done))))) | exact HI225.out)) hb)
               have n3_ := mk0 (below_step (by repeat (first | (with_reducible first | exact HB.out | apply below_alloc | apply pw_below_drewN | apply below_drew1 | refine bS ?_ (IsS60.ge HI225.out) | refine bS ?_ GE221.out | refine bS ?_ GE222.out) | exact HB.out)) hb)
               have n4_ := mk0 (hbox)
               have n5_ := mk0 ((by rw [hg]; exact (below_size (by repeat (first | (with_reducible first | exact HB.out | apply below_alloc | apply pw_below_drewN | apply below_drew1 | refine bS ?_ (IsS60.ge HI225.out) | refine bS ?_ GE221.out | refine bS ?_ GE222.out) | exact HB.out))) : w.heap.size ≤ gb241))
               have n6_ := mk0 ((by rw [hg]; exact (below_size (by repeat (first | (with_reducible first | exact HB.out | apply below_alloc | apply pw_below_drewN | apply below_drew1 | refine bS ?_ (IsS60.ge HI225.out) | refine bS ?_ GE221.out | refine bS ?_ GE222.out) | exact HB.out))) : w.heap.size ≤ gb241))
               have n7_ := mk0 ((by rw [hg]; exact Nat.ne_of_lt (blk_lt (g := gb221) (o := .cells #[.int .i64 a0_0, .int .i64 a0_1, .int .i64 a0_2, .int .i64 a0_3, .int .i64 a0_4] 46 (0, 0)) (by (with_reducible repeat (first | refine kN ?_ _ | refine kD ?_ | refine kA ?_ _)); exact BK221.out)) : gb221 ≠ gb241))
               have n8_ := mk0 ((by rw [hg]; exact Nat.ne_of_gt (blk_lt (g := gb221) (o := .cells #[.int .i64 a0_0, .int .i64 a0_1, .int .i64 a0_2, .int .i64 a0_3, .int .i64 a0_4] 46 (0, 0)) (by (with_reducible repeat (first | refine kN ?_ _ | refine kD ?_ | refine kA ?_ _)); exact BK221.out)) : gb241 ≠ gb221))
               have n9_ := mk0 ((by rw [hg]; exact Nat.ne_of_lt (blk_lt (g := gb222) (o := .cells #[.int .i64 a1_0, .int .i64 a1_1, .int .i64 a1_2, .int .i64 a1_3, .int .i64 a1_4] 46 (0, 0)) (by (with_reducible repeat (first | refine kN ?_ _ | refine kD ?_ | refine kA ?_ _)); exact BK222.out)) : gb222 ≠ gb241))
               have n10_ := mk0 ((by rw [hg]; exact Nat.ne_of_gt (blk_lt (g := gb222) (o := .cells #[.int .i64 a1_0, .int .i64 a1_1, .int .i64 a1_2, .int .i64 a1_3, .int .i64 a1_4] 46 (0, 0)) (by (with_reducible repeat (first | refine kN ?_ _ | refine kD ?_ | refine kA ?_ _)); exact BK222.out)) : gb241 ≠ gb222))
               have n11_ := mk0 ((by rw [hg]; exact Nat.ne_of_lt (IsS60.lt (show IsS60 w _ g225 t224 from by repeat (first | (with_reducible first | exact HI225.out | apply IsS60.alloc | apply IsS60.drewN | apply IsS60.drew | apply IsS60.set_0 | (focus (refine IsS60.far ?_ ?_ _; rotate_left; (focus ((repeat (first | (with_reducible exact Nsty.of BK221.out rfl) | apply Nsty.set | apply Nsty.drewN | apply Nsty.drew | apply Nsty.alloc)); done)))) | (focus (refine IsS60.far ?_ ?_ _; rotate_left; (focus ((repeat (first | (with_reducible exact Nsty.of BK222.out rfl) | apply Nsty.set | apply Nsty.drewN | apply Nsty.drew | apply Nsty.alloc)); done))))) | exact HI225.out))) : g225 ≠ gb241))
               have n12_ := mk0 ((by rw [hg]; exact Nat.ne_of_gt (IsS60.lt (show IsS60 w _ g225 t224 from by repeat (first | (with_reducible first | exact HI225.out | apply IsS60.alloc | apply IsS60.drewN | apply IsS60.drew | apply IsS60.set_0 | (focus (refine IsS60.far ?_ ?_ _; rotate_left; (focus ((repeat (first | (with_reducible exact Nsty.of BK221.out rfl) | apply Nsty.set | apply Nsty.drewN | apply Nsty.drew | apply Nsty.alloc)); done)))) | (focus (refine IsS60.far ?_ ?_ _; rotate_left; (focus ((repeat (first | (with_reducible exact Nsty.of BK222.out rfl) | apply Nsty.set | apply Nsty.drewN | apply Nsty.drew | apply Nsty.alloc)); done))))) | exact HI225.out))) : gb241 ≠ g225))
               clear BK221
               clear BK222
               clear HI225
               clear HB
               have BK221 := n0_
               have BK222 := n1_
               have HI225 := n2_
               have HB := n3_
               have BK241 := n4_
               have GW241 := n5_
               have GE241 := n6_
               have NB221_241 := n7_
               have NB241_221 := n8_
               have NB222_241 := n9_
               have NB241_222 := n10_
               have NB225_241 := n11_
               have NB241_225 := n12_
               clear n0_ n1_ n2_ n3_ n4_ n5_ n6_ n7_ n8_ n9_ n10_ n11_ n12_
               clear hb hbox hg
               refine hK.out _ _ ⟨(kC BK221.out 0).trans rfl, (kC BK221.out 1).trans rfl, (kC BK221.out 2).trans rfl, (kC BK221.out 3).trans rfl, (kC BK221.out 4).trans rfl, (kC BK222.out 0).trans rfl, (kC BK222.out 1).trans rfl, (kC BK222.out 2).trans rfl, (kC BK222.out 3).trans rfl, (kC BK222.out 4).trans rfl⟩ (fun hHeld => ?_)
               clear hK K
               refine norm_ (a' := ?_) ?_ ?_
               rotate_left
               ·
                show Act.put _ (some 9) _ = _
                simp only [Act.put, sB, sZ, sS, i64_w, i32_w]
                rfl
               exact norm_ (by first | (simp only [putAll, Act.put, sB, sZ, sS]; done) | (simp only [putAll, Act.put, sB, sZ, sS]; rfl)) (hJ25 (gb241) _ ⟨hHeld, (by (with_reducible repeat (first | refine kN ?_ _ | refine kD ?_ | refine kA ?_ _)); exact BK221.out), (by (with_reducible repeat (first | refine kN ?_ _ | refine kD ?_ | refine kA ?_ _)); exact BK222.out), (by (with_reducible repeat (first | refine kN ?_ _ | refine kD ?_ | refine kA ?_ _)); exact BK241.out), GW241.out, GE241.out, NB225_241.out, NB241_225.out, NB221_241.out, NB241_221.out, NB222_241.out, NB241_222.out, (by repeat (first | (with_reducible first | exact HI225.out | apply IsS60.alloc | apply IsS60.drewN | apply IsS60.drew | apply IsS60.set_0 | (focus (refine IsS60.far ?_ ?_ _; rotate_left; (focus ((repeat (first | (with_reducible exact Nsty.of BK221.out rfl) | apply Nsty.set | apply Nsty.drewN | apply Nsty.drew | apply Nsty.alloc)); done)))) | (focus (refine IsS60.far ?_ ?_ _; rotate_left; (focus ((repeat (first | (with_reducible exact Nsty.of BK222.out rfl) | apply Nsty.set | apply Nsty.drewN | apply Nsty.drew | apply Nsty.alloc)); done)))) | (focus (refine IsS60.far ?_ ?_ _; rotate_left; (focus ((repeat (first | (with_reducible exact Nsty.of BK241.out rfl) | apply Nsty.set | apply Nsty.drewN | apply Nsty.drew | apply Nsty.alloc)); done))))) | exact HI225.out)), (by repeat (first | (with_reducible first | exact HB.out | apply below_alloc | apply pw_below_drewN | apply below_drew1 | refine bS ?_ (IsS60.ge HI225.out) | refine bS ?_ GE221.out | refine bS ?_ GE222.out | refine bS ?_ GE241.out) | exact HB.out))⟩)
              skip
              rintro gb241 w112 ⟨hS_, h0_, h1_, h2_, h3_, h4_, h5_, h6_, h7_, h8_, h9_, h10_, h11_, h12_⟩
              have n0_ : Aside0 (w112.heap[gb221]? = some (.cells #[.int .i64 a0_0, .int .i64 a0_1, .int .i64 a0_2, .int .i64 a0_3, .int .i64 a0_4] 46 (0, 0))) := ⟨h0_⟩
              have n1_ : Aside0 (w112.heap[gb222]? = some (.cells #[.int .i64 a1_0, .int .i64 a1_1, .int .i64 a1_2, .int .i64 a1_3, .int .i64 a1_4] 46 (0, 0))) := ⟨h1_⟩
              have n2_ : Aside0 (w112.heap[gb241]? = some (.cells #[.int .i64 0, .int .i64 0, .int .i64 0, .int .i64 0, .int .i64 0, .int .i64 0] 30 (0, 0))) := ⟨h2_⟩
              have n3_ : Aside0 (w.heap.size ≤ gb241) := ⟨h3_⟩
              have n4_ : Aside0 (w.heap.size ≤ gb241) := ⟨h4_⟩
              have n5_ : Aside0 (g225 ≠ gb241) := ⟨h5_⟩
              have n6_ : Aside0 (gb241 ≠ g225) := ⟨h6_⟩
              have n7_ : Aside0 (gb221 ≠ gb241) := ⟨h7_⟩
              have n8_ : Aside0 (gb241 ≠ gb221) := ⟨h8_⟩
              have n9_ : Aside0 (gb222 ≠ gb241) := ⟨h9_⟩
              have n10_ : Aside0 (gb241 ≠ gb222) := ⟨h10_⟩
              have n11_ : Aside0 (IsS60 w w112 g225 t224) := ⟨h11_⟩
              have n12_ : Aside0 (Below w.heap.size w w112) := ⟨h12_⟩
              clear BK221
              clear BK222
              clear HI225
              clear HB
              clear h0_ h1_ h2_ h3_ h4_ h5_ h6_ h7_ h8_ h9_ h10_ h11_ h12_
              have BK221 := n0_
              have BK222 := n1_
              have BK241 := n2_
              have GW241 := n3_
              have GE241 := n4_
              have NB225_241 := n5_
              have NB241_225 := n6_
              have NB221_241 := n7_
              have NB241_221 := n8_
              have NB222_241 := n9_
              have NB241_222 := n10_
              have HI225 := n11_
              have HB := n12_
              clear n0_ n1_ n2_ n3_ n4_ n5_ n6_ n7_ n8_ n9_ n10_ n11_ n12_
              have hHeld : w112.cell? ⟨gb221, 0, none⟩ = some (.int .i64 a0_0) ∧ w112.cell? ⟨gb221, 1, none⟩ = some (.int .i64 a0_1) ∧ w112.cell? ⟨gb221, 2, none⟩ = some (.int .i64 a0_2) ∧ w112.cell? ⟨gb221, 3, none⟩ = some (.int .i64 a0_3) ∧ w112.cell? ⟨gb221, 4, none⟩ = some (.int .i64 a0_4) ∧ w112.cell? ⟨gb222, 0, none⟩ = some (.int .i64 a1_0) ∧ w112.cell? ⟨gb222, 1, none⟩ = some (.int .i64 a1_1) ∧ w112.cell? ⟨gb222, 2, none⟩ = some (.int .i64 a1_2) ∧ w112.cell? ⟨gb222, 3, none⟩ = some (.int .i64 a1_3) ∧ w112.cell? ⟨gb222, 4, none⟩ = some (.int .i64 a1_4) := hS_
              refine norm_ (a' := ?_) ?_ ?_
              rotate_left
              ·
               simp only [putAll, Act.put, sB, sZ, sS]
               rfl
              refine two_ (i := 11) (j := 24) (Ni := some 57) (Nj := some 8) #[true,true,true,true,true,true,true,true,true,true,true,true,true,true,true,true,true,true,true,true,true,true,true,false,false,true,false,false] #[true,true,true,true,true,true,true,true,true,true,true,false,true,true,true,true,true,true,true,true,true,true,true,false,true,true,false,false] rfl rfl rfl rfl (two_of HT_.out (by kernel_rfl)) (by decide) (by decide) (fun K hK => ?_) (fun K hK => ?_)
              ·
               skip
               refine goes_ Tryd.func10 (by kernel_rfl) rfl #[.pointer (some ⟨g225, 0, none⟩), .int .i64 a0_0, .int .i64 a0_2, .int .i64 a0_3, .int .i64 a0_4, .int .i64 a0_1] (by rfl) rfl rfl (by (try simp only [List.map_toArray, List.map_cons, List.map_nil]); first | done | rfl | (simp only [List.length_drop, List.length_take]; rfl)) ?_
               with_reducible refine (card_Make.calls (hrG := ?sideG) k g225 t224 a0_0 a0_2 a0_3 a0_4 a0_1 t226 t227 t228 t229 t230 t231 t232 w _ ?side1 ?side2 A54.out).mono ?_
               (case sideG => (first | (with_reducible exact HRG.out) | exact TabG.below HRG.out (by repeat (first | (with_reducible first | exact HB.out | apply below_alloc | apply pw_below_drewN | apply below_drew1 | refine bS ?_ (IsS60.ge HI225.out) | refine bS ?_ GE221.out | refine bS ?_ GE222.out | refine bS ?_ GE240.out | refine bS ?_ GE241.out) | (with_reducible exact Below.refl _ _)))))
               (case side1 => repeat (first | (with_reducible first | exact HI225.out | apply IsS60.alloc | apply IsS60.drewN | apply IsS60.drew | apply IsS60.set_0 | (focus (refine IsS60.far ?_ ?_ _; rotate_left; (focus ((repeat (first | (with_reducible exact Nsty.of BK221.out rfl) | apply Nsty.set | apply Nsty.drewN | apply Nsty.drew | apply Nsty.alloc)); done)))) | (focus (refine IsS60.far ?_ ?_ _; rotate_left; (focus ((repeat (first | (with_reducible exact Nsty.of BK222.out rfl) | apply Nsty.set | apply Nsty.drewN | apply Nsty.drew | apply Nsty.alloc)); done)))) | (focus (refine IsS60.far ?_ ?_ _; rotate_left; (focus ((repeat (first | (with_reducible exact Nsty.of BK241.out rfl) | apply Nsty.set | apply Nsty.drewN | apply Nsty.drew | apply Nsty.alloc)); done))))) | exact HI225.out))
               (case side2 => repeat (first | (with_reducible first | exact HB.out | apply below_alloc | apply pw_below_drewN | apply below_drew1 | refine bS ?_ (IsS60.ge HI225.out) | refine bS ?_ GE221.out | refine bS ?_ GE222.out | refine bS ?_ GE241.out) | exact HB.out))
               rintro e w113 ⟨rfl, hi, hb, hk⟩
               refine ⟨_, rfl, ?_⟩
               have n0_ := mk0 (KeepSt.blk hk (g' := gb221) (o := .cells #[.int .i64 a0_0, .int .i64 a0_1, .int .i64 a0_2, .int .i64 a0_3, .int .i64 a0_4] 46 (0, 0)) (by (with_reducible repeat (first | refine kN ?_ _ | refine kD ?_ | refine kA ?_ _)); exact BK221.out) NB221_225.out rfl)
               have n1_ := mk0 (KeepSt.blk hk (g' := gb222) (o := .cells #[.int .i64 a1_0, .int .i64 a1_1, .int .i64 a1_2, .int .i64 a1_3, .int .i64 a1_4] 46 (0, 0)) (by (with_reducible repeat (first | refine kN ?_ _ | refine kD ?_ | refine kA ?_ _)); exact BK222.out) NB222_225.out rfl)
               have n2_ := mk0 (KeepSt.blk hk (g' := gb241) (o := .cells #[.int .i64 0, .int .i64 0, .int .i64 0, .int .i64 0, .int .i64 0, .int .i64 0] 30 (0, 0)) (by (with_reducible repeat (first | refine kN ?_ _ | refine kD ?_ | refine kA ?_ _)); exact BK241.out) NB241_225.out rfl)
               have n3_ := mk0 (hb)
               have n4_ := mk0 (hi)
               clear BK221
               clear BK222
               clear BK241
               clear HB
               clear HI225
               have BK221 := n0_
               have BK222 := n1_
               have BK241 := n2_
               have HB := n3_
               have HI225 := n4_
               clear n0_ n1_ n2_ n3_ n4_
               (try clear hb)
               (try clear hb2)
               (try clear hk)
               (try clear hi)
               refine hK.out _ _ ⟨(kC BK221.out 0).trans rfl, (kC BK221.out 1).trans rfl, (kC BK221.out 2).trans rfl, (kC BK221.out 3).trans rfl, (kC BK221.out 4).trans rfl, (kC BK222.out 0).trans rfl, (kC BK222.out 1).trans rfl, (kC BK222.out 2).trans rfl, (kC BK222.out 3).trans rfl, (kC BK222.out 4).trans rfl⟩ (fun hHeld => ?_)
               clear hK K
               refine norm_ (a' := ?_) ?_ ?_
               rotate_left
               ·
                show Act.put _ (some 57) _ = _
                simp only [Act.put, sB, sZ, sS, i64_w, i32_w]
                rfl
               exact norm_ (by first | (simp only [putAll, Act.put, sB, sZ, sS]; done) | (simp only [putAll, Act.put, sB, sZ, sS]; rfl)) (hJ11_25 (gb241) _ ⟨hHeld, (by (with_reducible repeat (first | refine kN ?_ _ | refine kD ?_ | refine kA ?_ _)); exact BK221.out), (by (with_reducible repeat (first | refine kN ?_ _ | refine kD ?_ | refine kA ?_ _)); exact BK222.out), (by (with_reducible repeat (first | refine kN ?_ _ | refine kD ?_ | refine kA ?_ _)); exact BK241.out), GW241.out, GE241.out, NB225_241.out, NB241_225.out, NB221_241.out, NB241_221.out, NB222_241.out, NB241_222.out, (by repeat (first | (with_reducible first | exact HI225.out | apply IsS60.alloc | apply IsS60.drewN | apply IsS60.drew | apply IsS60.set_0 | (focus (refine IsS60.far ?_ ?_ _; rotate_left; (focus ((repeat (first | (with_reducible exact Nsty.of BK221.out rfl) | apply Nsty.set | apply Nsty.drewN | apply Nsty.drew | apply Nsty.alloc)); done)))) | (focus (refine IsS60.far ?_ ?_ _; rotate_left; (focus ((repeat (first | (with_reducible exact Nsty.of BK222.out rfl) | apply Nsty.set | apply Nsty.drewN | apply Nsty.drew | apply Nsty.alloc)); done)))) | (focus (refine IsS60.far ?_ ?_ _; rotate_left; (focus ((repeat (first | (with_reducible exact Nsty.of BK241.out rfl) | apply Nsty.set | apply Nsty.drewN | apply Nsty.drew | apply Nsty.alloc)); done))))) | exact HI225.out)), (by repeat (first | (with_reducible first | exact HB.out | apply below_alloc | apply pw_below_drewN | apply below_drew1 | refine bS ?_ (IsS60.ge HI225.out) | refine bS ?_ GE221.out | refine bS ?_ GE222.out | refine bS ?_ GE241.out) | exact HB.out))⟩)
              skip
              refine box_step ?hg (N := 8) ?hd (cs := #[.int .i64 0, .int .i64 0, .int .i64 0, .int .i64 0, .int .i64 0, .int .i64 0]) (t := 30) ?hr ?_; (case hd => rfl); (case hg => rfl); (case hr => first | (go_simp; done) | (go_simp; rfl))
              intro gb240 hg w113 hbox hb
              have n0_ := mk0 (blk_below (g := gb221) (o := .cells #[.int .i64 a0_0, .int .i64 a0_1, .int .i64 a0_2, .int .i64 a0_3, .int .i64 a0_4] 46 (0, 0)) (by (with_reducible repeat (first | refine kN ?_ _ | refine kD ?_ | refine kA ?_ _)); exact BK221.out) hb)
              have n1_ := mk0 (blk_below (g := gb222) (o := .cells #[.int .i64 a1_0, .int .i64 a1_1, .int .i64 a1_2, .int .i64 a1_3, .int .i64 a1_4] 46 (0, 0)) (by (with_reducible repeat (first | refine kN ?_ _ | refine kD ?_ | refine kA ?_ _)); exact BK222.out) hb)
              have n2_ := mk0 (IsS60.below (by repeat (first | (with_reducible first | exact HI225.out | apply IsS60.alloc | apply IsS60.drewN | apply IsS60.drew | apply IsS60.set_0 | (focus (refine IsS60.far ?_ ?_ _; rotate_left; (focus ((repeat (first | (with_reducible exact Nsty.of BK221.out rfl) | apply Nsty.set | apply Nsty.drewN | apply Nsty.drew | apply Nsty.alloc)); done)))) | (focus (refine IsS60.far ?_ ?_ _; rotate_left; (focus ((repeat (first | (with_reducible exact Nsty.of BK222.out rfl) | apply Nsty.set | apply Nsty.drewN | apply Nsty.drew | apply Nsty.alloc)); done)))) | (focus (refine IsS60.far ?_ ?_ _; rotate_left; (focus ((repeat (first | (with_reducible exact Nsty.of BK241.out rfl) | apply Nsty.set | apply Nsty.drewN | apply Nsty.drew | apply Nsty.alloc)); done))))) | exact HI225.out)) hb)
              have n3_ := mk0 (blk_below (g := gb241) (o := .cells #[.int .i64 0, .int .i64 0, .int .i64 0, .int .i64 0, .int .i64 0, .int .i64 0] 30 (0, 0)) (by (with_reducible repeat (first | refine kN ?_ _ | refine kD ?_ | refine kA ?_ _)); exact BK241.out) hb)
              have n4_ := mk0 (below_step (by repeat (first | (with_reducible first | exact HB.out | apply below_alloc | apply pw_below_drewN | apply below_drew1 | refine bS ?_ (IsS60.ge HI225.out) | refine bS ?_ GE221.out | refine bS ?_ GE222.out | refine bS ?_ GE241.out) | exact HB.out)) hb)
              have n5_ := mk0 (hbox)
              have n6_ := mk0 ((by rw [hg]; exact (below_size (by repeat (first | (with_reducible first | exact HB.out | apply below_alloc | apply pw_below_drewN | apply below_drew1 | refine bS ?_ (IsS60.ge HI225.out) | refine bS ?_ GE221.out | refine bS ?_ GE222.out | refine bS ?_ GE241.out) | exact HB.out))) : w.heap.size ≤ gb240))
              have n7_ := mk0 ((by rw [hg]; exact (below_size (by repeat (first | (with_reducible first | exact HB.out | apply below_alloc | apply pw_below_drewN | apply below_drew1 | refine bS ?_ (IsS60.ge HI225.out) | refine bS ?_ GE221.out | refine bS ?_ GE222.out | refine bS ?_ GE241.out) | exact HB.out))) : w.heap.size ≤ gb240))
              have n8_ := mk0 ((by rw [hg]; exact Nat.ne_of_lt (blk_lt (g := gb221) (o := .cells #[.int .i64 a0_0, .int .i64 a0_1, .int .i64 a0_2, .int .i64 a0_3, .int .i64 a0_4] 46 (0, 0)) (by (with_reducible repeat (first | refine kN ?_ _ | refine kD ?_ | refine kA ?_ _)); exact BK221.out)) : gb221 ≠ gb240))
              have n9_ := mk0 ((by rw [hg]; exact Nat.ne_of_gt (blk_lt (g := gb221) (o := .cells #[.int .i64 a0_0, .int .i64 a0_1, .int .i64 a0_2, .int .i64 a0_3, .int .i64 a0_4] 46 (0, 0)) (by (with_reducible repeat (first | refine kN ?_ _ | refine kD ?_ | refine kA ?_ _)); exact BK221.out)) : gb240 ≠ gb221))
              have n10_ := mk0 ((by rw [hg]; exact Nat.ne_of_lt (blk_lt (g := gb222) (o := .cells #[.int .i64 a1_0, .int .i64 a1_1, .int .i64 a1_2, .int .i64 a1_3, .int .i64 a1_4] 46 (0, 0)) (by (with_reducible repeat (first | refine kN ?_ _ | refine kD ?_ | refine kA ?_ _)); exact BK222.out)) : gb222 ≠ gb240))
              have n11_ := mk0 ((by rw [hg]; exact Nat.ne_of_gt (blk_lt (g := gb222) (o := .cells #[.int .i64 a1_0, .int .i64 a1_1, .int .i64 a1_2, .int .i64 a1_3, .int .i64 a1_4] 46 (0, 0)) (by (with_reducible repeat (first | refine kN ?_ _ | refine kD ?_ | refine kA ?_ _)); exact BK222.out)) : gb240 ≠ gb222))
              have n12_ := mk0 ((by rw [hg]; exact Nat.ne_of_lt (blk_lt (g := gb241) (o := .cells #[.int .i64 0, .int .i64 0, .int .i64 0, .int .i64 0, .int .i64 0, .int .i64 0] 30 (0, 0)) (by (with_reducible repeat (first | refine kN ?_ _ | refine kD ?_ | refine kA ?_ _)); exact BK241.out)) : gb241 ≠ gb240))
              have n13_ := mk0 ((by rw [hg]; exact Nat.ne_of_gt (blk_lt (g := gb241) (o := .cells #[.int .i64 0, .int .i64 0, .int .i64 0, .int .i64 0, .int .i64 0, .int .i64 0] 30 (0, 0)) (by (with_reducible repeat (first | refine kN ?_ _ | refine kD ?_ | refine kA ?_ _)); exact BK241.out)) : gb240 ≠ gb241))
              have n14_ := mk0 ((by rw [hg]; exact Nat.ne_of_lt (IsS60.lt (show IsS60 w _ g225 t224 from by repeat (first | (with_reducible first | exact HI225.out | apply IsS60.alloc | apply IsS60.drewN | apply IsS60.drew | apply IsS60.set_0 | (focus (refine IsS60.far ?_ ?_ _; rotate_left; (focus ((repeat (first | (with_reducible exact Nsty.of BK221.out rfl) | apply Nsty.set | apply Nsty.drewN | apply Nsty.drew | apply Nsty.alloc)); done)))) | (focus (refine IsS60.far ?_ ?_ _; rotate_left; (focus ((repeat (first | (with_reducible exact Nsty.of BK222.out rfl) | apply Nsty.set | apply Nsty.drewN | apply Nsty.drew | apply Nsty.alloc)); done)))) | (focus (refine IsS60.far ?_ ?_ _; rotate_left; (focus ((repeat (first | (with_reducible exact Nsty.of BK241.out rfl) | apply Nsty.set | apply Nsty.drewN | apply Nsty.drew | apply Nsty.alloc)); done))))) | exact HI225.out))) : g225 ≠ gb240))
              have n15_ := mk0 ((by rw [hg]; exact Nat.ne_of_gt (IsS60.lt (show IsS60 w _ g225 t224 from by repeat (first | (with_reducible first | exact HI225.out | apply IsS60.alloc | apply IsS60.drewN | apply IsS60.drew | apply IsS60.set_0 | (focus (refine IsS60.far ?_ ?_ _; rotate_left; (focus ((repeat (first | (with_reducible exact Nsty.of BK221.out rfl) | apply Nsty.set | apply Nsty.drewN | apply Nsty.drew | apply Nsty.alloc)); done)))) | (focus (refine IsS60.far ?_ ?_ _; rotate_left; (focus ((repeat (first | (with_reducible exact Nsty.of BK222.out rfl) | apply Nsty.set | apply Nsty.drewN | apply Nsty.drew | apply Nsty.alloc)); done)))) | (focus (refine IsS60.far ?_ ?_ _; rotate_left; (focus ((repeat (first | (with_reducible exact Nsty.of BK241.out rfl) | apply Nsty.set | apply Nsty.drewN | apply Nsty.drew | apply Nsty.alloc)); done))))) | exact HI225.out))) : gb240 ≠ g225))
              clear BK221
              clear BK222
              clear HI225
              clear BK241
              clear HB
              have BK221 := n0_
              have BK222 := n1_
              have HI225 := n2_
              have BK241 := n3_
              have HB := n4_
              have BK240 := n5_
              have GW240 := n6_
              have GE240 := n7_
              have NB221_240 := n8_
              have NB240_221 := n9_
              have NB222_240 := n10_
              have NB240_222 := n11_
              have NB241_240 := n12_
              have NB240_241 := n13_
              have NB225_240 := n14_
              have NB240_225 := n15_
              clear n0_ n1_ n2_ n3_ n4_ n5_ n6_ n7_ n8_ n9_ n10_ n11_ n12_ n13_ n14_ n15_
              clear hb hbox hg
              refine hK.out _ _ ⟨(kC BK221.out 0).trans rfl, (kC BK221.out 1).trans rfl, (kC BK221.out 2).trans rfl, (kC BK221.out 3).trans rfl, (kC BK221.out 4).trans rfl, (kC BK222.out 0).trans rfl, (kC BK222.out 1).trans rfl, (kC BK222.out 2).trans rfl, (kC BK222.out 3).trans rfl, (kC BK222.out 4).trans rfl⟩ (fun hHeld => ?_)
              clear hK K
              refine norm_ (a' := ?_) ?_ ?_
              rotate_left
              ·
               show Act.put _ (some 8) _ = _
               simp only [Act.put, sB, sZ, sS, i64_w, i32_w]
               rfl
              exact norm_ (by first | (simp only [putAll, Act.put, sB, sZ, sS]; done) | (simp only [putAll, Act.put, sB, sZ, sS]; rfl)) (hJ24_25 (gb240, gb241) _ ⟨hHeld, (by (with_reducible repeat (first |refine kN ?_ _ |refine kD ?_ |refine kA ?_ _)); exact BK221.out), (by (with_reducible repeat (first |refine kN ?_ _ |refine kD ?_ |refine kA ?_ _)); exact BK222.out), (by (with_reducible repeat (first |refine kN ?_ _ |refine kD ?_ |refine kA ?_ _)); exact BK240.out), (by (with_reducible repeat (first |refine kN ?_ _ |refine kD ?_ |refine kA ?_ _)); exact BK241.out), GW240.out, GE240.out, NB225_240.out, NB240_225.out, NB221_240.out, NB240_221.out, NB222_240.out, NB240_222.out, NB241_240.out, NB240_241.out, GW241.out, GE241.out, NB225_241.out, NB241_225.out, NB221_241.out, NB241_221.out, NB222_241.out, NB241_222.out, (by repeat (first | (with_reducible first |exact HI225.out |apply IsS60.alloc |apply IsS60.drewN |apply IsS60.drew |apply IsS60.set_0 | (focus (refine IsS60.far ?_ ?_ _; rotate_left; (focus ((repeat (first | (with_reducible exact Nsty.of BK221.out rfl) |apply Nsty.set |apply Nsty.drewN |apply Nsty.drew |apply Nsty.alloc)); done)))) | (focus (refine IsS60.far ?_ ?_ _; rotate_left; (focus ((repeat (first | (with_reducible exact Nsty.of BK222.out rfl) |apply Nsty.set |apply Nsty.drewN |apply Nsty.drew |apply Nsty.alloc)); done)))) | (focus (refine IsS60.far ?_ ?_ _; rotate_left; (focus ((repeat (first | (with_reducible exact Nsty.of BK241.out rfl) |apply Nsty.set |apply Nsty.drewN |apply Nsty.drew |apply Nsty.alloc)); done)))) | (focus (refine IsS60.far ?_ ?_ _; rotate_left; (focus ((repeat (first | (with_reducible exact Nsty.of BK240.out rfl) |apply Nsty.set |apply Nsty.drewN |apply Nsty.drew |apply Nsty.alloc)); done))))) |exact HI225.out)), (by repeat (first | (with_reducible first |exact HB.out |apply below_alloc |apply pw_below_drewN |apply below_drew1 |refine bS ?_ (IsS60.ge HI225.out) |refine bS ?_ GE221.out |refine bS ?_ GE222.out |refine bS ?_ GE241.out |refine bS ?_ GE240.out) |exact HB.out))⟩)
             skip
             rintro gb240 w112 ⟨hS_, h0_, h1_, h2_, h3_, h4_, h5_, h6_, h7_, h8_, h9_, h10_, h11_, h12_⟩
             have n0_ : Aside0 (w112.heap[gb221]? = some (.cells #[.int .i64 a0_0, .int .i64 a0_1, .int .i64 a0_2, .int .i64 a0_3, .int .i64 a0_4] 46 (0, 0))) := ⟨h0_⟩
             have n1_ : Aside0 (w112.heap[gb222]? = some (.cells #[.int .i64 a1_0, .int .i64 a1_1, .int .i64 a1_2, .int .i64 a1_3, .int .i64 a1_4] 46 (0, 0))) := ⟨h1_⟩
             have n2_ : Aside0 (w112.heap[gb240]? = some (.cells #[.int .i64 0, .int .i64 0, .int .i64 0, .int .i64 0, .int .i64 0, .int .i64 0] 30 (0, 0))) := ⟨h2_⟩
             have n3_ : Aside0 (w.heap.size ≤ gb240) := ⟨h3_⟩
             have n4_ : Aside0 (w.heap.size ≤ gb240) := ⟨h4_⟩
             have n5_ : Aside0 (g225 ≠ gb240) := ⟨h5_⟩
             have n6_ : Aside0 (gb240 ≠ g225) := ⟨h6_⟩
             have n7_ : Aside0 (gb221 ≠ gb240) := ⟨h7_⟩
             have n8_ : Aside0 (gb240 ≠ gb221) := ⟨h8_⟩
             have n9_ : Aside0 (gb222 ≠ gb240) := ⟨h9_⟩
             have n10_ : Aside0 (gb240 ≠ gb222) := ⟨h10_⟩
             have n11_ : Aside0 (IsS60 w w112 g225 t224) := ⟨h11_⟩
             have n12_ : Aside0 (Below w.heap.size w w112) := ⟨h12_⟩
             clear BK221
             clear BK222
             clear HI225
             clear HB
             clear h0_ h1_ h2_ h3_ h4_ h5_ h6_ h7_ h8_ h9_ h10_ h11_ h12_
             have BK221 := n0_
             have BK222 := n1_
             have BK240 := n2_
             have GW240 := n3_
             have GE240 := n4_
             have NB225_240 := n5_
             have NB240_225 := n6_
             have NB221_240 := n7_
             have NB240_221 := n8_
             have NB222_240 := n9_
             have NB240_222 := n10_
             have HI225 := n11_
             have HB := n12_
             clear n0_ n1_ n2_ n3_ n4_ n5_ n6_ n7_ n8_ n9_ n10_ n11_ n12_
             have hHeld : w112.cell? ⟨gb221, 0, none⟩ = some (.int .i64 a0_0) ∧ w112.cell? ⟨gb221, 1, none⟩ = some (.int .i64 a0_1) ∧ w112.cell? ⟨gb221, 2, none⟩ = some (.int .i64 a0_2) ∧ w112.cell? ⟨gb221, 3, none⟩ = some (.int .i64 a0_3) ∧ w112.cell? ⟨gb221, 4, none⟩ = some (.int .i64 a0_4) ∧ w112.cell? ⟨gb222, 0, none⟩ = some (.int .i64 a1_0) ∧ w112.cell? ⟨gb222, 1, none⟩ = some (.int .i64 a1_1) ∧ w112.cell? ⟨gb222, 2, none⟩ = some (.int .i64 a1_2) ∧ w112.cell? ⟨gb222, 3, none⟩ = some (.int .i64 a1_3) ∧ w112.cell? ⟨gb222, 4, none⟩ = some (.int .i64 a1_4) := hS_
             refine norm_ (a' := ?_) ?_ ?_
             rotate_left
             ·
              simp only [putAll, Act.put, sB, sZ, sS]
              rfl
             refine two_ (i := 11) (j := 25) (Ni := some 57) (Nj := some 9) #[true,true,true,true,true,true,true,true,true,true,true,true,true,true,true,true,true,true,true,true,true,true,true,false,true,false,false,false] #[true,true,true,true,true,true,true,true,true,true,true,false,true,true,true,true,true,true,true,true,true,true,true,false,true,true,false,false] rfl rfl rfl rfl (two_of HT_.out (by kernel_rfl)) (by decide) (by decide) (fun K hK => ?_) (fun K hK => ?_)
             ·
              skip
              refine goes_ Tryd.func10 (by kernel_rfl) rfl #[.pointer (some ⟨g225, 0, none⟩), .int .i64 a0_0, .int .i64 a0_2, .int .i64 a0_3, .int .i64 a0_4, .int .i64 a0_1] (by rfl) rfl rfl (by (try simp only [List.map_toArray, List.map_cons, List.map_nil]); first | done | rfl | (simp only [List.length_drop, List.length_take]; rfl)) ?_
              with_reducible refine (card_Make.calls (hrG := ?sideG) k g225 t224 a0_0 a0_2 a0_3 a0_4 a0_1 t226 t227 t228 t229 t230 t231 t232 w _ ?side1 ?side2 A54.out).mono ?_
              (case sideG => (first | (with_reducible exact HRG.out) | exact TabG.below HRG.out (by repeat (first | (with_reducible first | exact HB.out | apply below_alloc | apply pw_below_drewN | apply below_drew1 | refine bS ?_ (IsS60.ge HI225.out) | refine bS ?_ GE221.out | refine bS ?_ GE222.out | refine bS ?_ GE240.out | refine bS ?_ GE241.out) | (with_reducible exact Below.refl _ _)))))
              (case side1 => repeat (first | (with_reducible first | exact HI225.out | apply IsS60.alloc | apply IsS60.drewN | apply IsS60.drew | apply IsS60.set_0 | (focus (refine IsS60.far ?_ ?_ _; rotate_left; (focus ((repeat (first | (with_reducible exact Nsty.of BK221.out rfl) | apply Nsty.set | apply Nsty.drewN | apply Nsty.drew | apply Nsty.alloc)); done)))) | (focus (refine IsS60.far ?_ ?_ _; rotate_left; (focus ((repeat (first | (with_reducible exact Nsty.of BK222.out rfl) | apply Nsty.set | apply Nsty.drewN | apply Nsty.drew | apply Nsty.alloc)); done)))) | (focus (refine IsS60.far ?_ ?_ _; rotate_left; (focus ((repeat (first | (with_reducible exact Nsty.of BK240.out rfl) | apply Nsty.set | apply Nsty.drewN | apply Nsty.drew | apply Nsty.alloc)); done))))) | exact HI225.out))
              (case side2 => repeat (first | (with_reducible first | exact HB.out | apply below_alloc | apply pw_below_drewN | apply below_drew1 | refine bS ?_ (IsS60.ge HI225.out) | refine bS ?_ GE221.out | refine bS ?_ GE222.out | refine bS ?_ GE240.out) | exact HB.out))
              rintro e w113 ⟨rfl, hi, hb, hk⟩
              refine ⟨_, rfl, ?_⟩
              have n0_ := mk0 (KeepSt.blk hk (g' := gb221) (o := .cells #[.int .i64 a0_0, .int .i64 a0_1, .int .i64 a0_2, .int .i64 a0_3, .int .i64 a0_4] 46 (0, 0)) (by (with_reducible repeat (first | refine kN ?_ _ | refine kD ?_ | refine kA ?_ _)); exact BK221.out) NB221_225.out rfl)
              have n1_ := mk0 (KeepSt.blk hk (g' := gb222) (o := .cells #[.int .i64 a1_0, .int .i64 a1_1, .int .i64 a1_2, .int .i64 a1_3, .int .i64 a1_4] 46 (0, 0)) (by (with_reducible repeat (first | refine kN ?_ _ | refine kD ?_ | refine kA ?_ _)); exact BK222.out) NB222_225.out rfl)
              have n2_ := mk0 (KeepSt.blk hk (g' := gb240) (o := .cells #[.int .i64 0, .int .i64 0, .int .i64 0, .int .i64 0, .int .i64 0, .int .i64 0] 30 (0, 0)) (by (with_reducible repeat (first | refine kN ?_ _ | refine kD ?_ | refine kA ?_ _)); exact BK240.out) NB240_225.out rfl)
              have n3_ := mk0 (hb)
              have n4_ := mk0 (hi)
              clear BK221
              clear BK222
              clear BK240
              clear HB
              clear HI225
              have BK221 := n0_
              have BK222 := n1_
              have BK240 := n2_
              have HB := n3_
              have HI225 := n4_
              clear n0_ n1_ n2_ n3_ n4_
              (try clear hb)
              (try clear hb2)
              (try clear hk)
              (try clear hi)
              refine hK.out _ _ ⟨(kC BK221.out 0).trans rfl, (kC BK221.out 1).trans rfl, (kC BK221.out 2).trans rfl, (kC BK221.out 3).trans rfl, (kC BK221.out 4).trans rfl, (kC BK222.out 0).trans rfl, (kC BK222.out 1).trans rfl, (kC BK222.out 2).trans rfl, (kC BK222.out 3).trans rfl, (kC BK222.out 4).trans rfl⟩ (fun hHeld => ?_)
              clear hK K
              refine norm_ (a' := ?_) ?_ ?_
              rotate_left
              ·
               show Act.put _ (some 57) _ = _
               simp only [Act.put, sB, sZ, sS, i64_w, i32_w]
               rfl
              exact norm_ (by first | (simp only [putAll, Act.put, sB, sZ, sS]; done) | (simp only [putAll, Act.put, sB, sZ, sS]; rfl)) (hJ11_24 (gb240) _ ⟨hHeld, (by (with_reducible repeat (first | refine kN ?_ _ | refine kD ?_ | refine kA ?_ _)); exact BK221.out), (by (with_reducible repeat (first | refine kN ?_ _ | refine kD ?_ | refine kA ?_ _)); exact BK222.out), (by (with_reducible repeat (first | refine kN ?_ _ | refine kD ?_ | refine kA ?_ _)); exact BK240.out), GW240.out, GE240.out, NB225_240.out, NB240_225.out, NB221_240.out, NB240_221.out, NB222_240.out, NB240_222.out, (by repeat (first | (with_reducible first | exact HI225.out | apply IsS60.alloc | apply IsS60.drewN | apply IsS60.drew | apply IsS60.set_0 | (focus (refine IsS60.far ?_ ?_ _; rotate_left; (focus ((repeat (first | (with_reducible exact Nsty.of BK221.out rfl) | apply Nsty.set | apply Nsty.drewN | apply Nsty.drew | apply Nsty.alloc)); done)))) | (focus (refine IsS60.far ?_ ?_ _; rotate_left; (focus ((repeat (first | (with_reducible exact Nsty.of BK222.out rfl) | apply Nsty.set | apply Nsty.drewN | apply Nsty.drew | apply Nsty.alloc)); done)))) | (focus (refine IsS60.far ?_ ?_ _; rotate_left; (focus ((repeat (first | (with_reducible exact Nsty.of BK240.out rfl) | apply Nsty.set | apply Nsty.drewN | apply Nsty.drew | apply Nsty.alloc)); done))))) | exact HI225.out)), (by repeat (first | (with_reducible first | exact HB.out | apply below_alloc | apply pw_below_drewN | apply below_drew1 | refine bS ?_ (IsS60.ge HI225.out) | refine bS ?_ GE221.out | refine bS ?_ GE222.out | refine bS ?_ GE240.out) | exact HB.out))⟩)
             skip
             refine box_step ?hg (N := 9) ?hd (cs := #[.int .i64 0, .int .i64 0, .int .i64 0, .int .i64 0, .int .i64 0, .int .i64 0]) (t := 30) ?hr ?_; (case hd => rfl); (case hg => rfl); (case hr => first | (go_simp; done) | (go_simp; rfl))
             intro gb241 hg w113 hbox hb
             have n0_ := mk0 (blk_below (g := gb221) (o := .cells #[.int .i64 a0_0, .int .i64 a0_1, .int .i64 a0_2, .int .i64 a0_3, .int .i64 a0_4] 46 (0, 0)) (by (with_reducible repeat (first | refine kN ?_ _ | refine kD ?_ | refine kA ?_ _)); exact BK221.out) hb)
             have n1_ := mk0 (blk_below (g := gb222) (o := .cells #[.int .i64 a1_0, .int .i64 a1_1, .int .i64 a1_2, .int .i64 a1_3, .int .i64 a1_4] 46 (0, 0)) (by (with_reducible repeat (first | refine kN ?_ _ | refine kD ?_ | refine kA ?_ _)); exact BK222.out) hb)
             have n2_ := mk0 (IsS60.below (by repeat (first | (with_reducible first | exact HI225.out | apply IsS60.alloc | apply IsS60.drewN | apply IsS60.drew | apply IsS60.set_0 | (focus (refine IsS60.far ?_ ?_ _; rotate_left; (focus ((repeat (first | (with_reducible exact Nsty.of BK221.out rfl) | apply Nsty.set | apply Nsty.drewN | apply Nsty.drew | apply Nsty.alloc)); done)))) | (focus (refine IsS60.far ?_ ?_ _; rotate_left; (focus ((repeat (first | (with_reducible exact Nsty.of BK222.out rfl) | apply Nsty.set | apply Nsty.drewN | apply Nsty.drew | apply Nsty.alloc)); done)))) | (focus (refine IsS60.far ?_ ?_ _; rotate_left; (focus ((repeat (first | (with_reducible exact Nsty.of BK240.out rfl) | apply Nsty.set | apply Nsty.drewN | apply Nsty.drew | apply Nsty.alloc)); done))))) | exact HI225.out)) hb)
             have n3_ := mk0 (blk_below (g := gb240) (o := .cells #[.int .i64 0, .int .i64 0, .int .i64 0, .int .i64 0, .int .i64 0, .int .i64 0] 30 (0, 0)) (by (with_reducible repeat (first | refine kN ?_ _ | refine kD ?_ | refine kA ?_ _)); exact BK240.out) hb)
             have n4_ := mk0 (below_step (by repeat (first | (with_reducible first | exact HB.out | apply below_alloc | apply pw_below_drewN | apply below_drew1 | refine bS ?_ (IsS60.ge HI225.out) | refine bS ?_ GE221.out | refine bS ?_ GE222.out | refine bS ?_ GE240.out) | exact HB.out)) hb)
             have n5_ := mk0 (hbox)
             have n6_ := mk0 ((by rw [hg]; exact (below_size (by repeat (first | (with_reducible first | exact HB.out | apply below_alloc | apply pw_below_drewN | apply below_drew1 | refine bS ?_ (IsS60.ge HI225.out) | refine bS ?_ GE221.out | refine bS ?_ GE222.out | refine bS ?_ GE240.out) | exact HB.out))) : w.heap.size ≤ gb241))
             have n7_ := mk0 ((by rw [hg]; exact (below_size (by repeat (first | (with_reducible first | exact HB.out | apply below_alloc | apply pw_below_drewN | apply below_drew1 | refine bS ?_ (IsS60.ge HI225.out) | refine bS ?_ GE221.out | refine bS ?_ GE222.out | refine bS ?_ GE240.out) | exact HB.out))) : w.heap.size ≤ gb241))
             have n8_ := mk0 ((by rw [hg]; exact Nat.ne_of_lt (blk_lt (g := gb221) (o := .cells #[.int .i64 a0_0, .int .i64 a0_1, .int .i64 a0_2, .int .i64 a0_3, .int .i64 a0_4] 46 (0, 0)) (by (with_reducible repeat (first | refine kN ?_ _ | refine kD ?_ | refine kA ?_ _)); exact BK221.out)) : gb221 ≠ gb241))
             have n9_ := mk0 ((by rw [hg]; exact Nat.ne_of_gt (blk_lt (g := gb221) (o := .cells #[.int .i64 a0_0, .int .i64 a0_1, .int .i64 a0_2, .int .i64 a0_3, .int .i64 a0_4] 46 (0, 0)) (by (with_reducible repeat (first | refine kN ?_ _ | refine kD ?_ | refine kA ?_ _)); exact BK221.out)) : gb241 ≠ gb221))
             have n10_ := mk0 ((by rw [hg]; exact Nat.ne_of_lt (blk_lt (g := gb222) (o := .cells #[.int .i64 a1_0, .int .i64 a1_1, .int .i64 a1_2, .int .i64 a1_3, .int .i64 a1_4] 46 (0, 0)) (by (with_reducible repeat (first | refine kN ?_ _ | refine kD ?_ | refine kA ?_ _)); exact BK222.out)) : gb222 ≠ gb241))
             have n11_ := mk0 ((by rw [hg]; exact Nat.ne_of_gt (blk_lt (g := gb222) (o := .cells #[.int .i64 a1_0, .int .i64 a1_1, .int .i64 a1_2, .int .i64 a1_3, .int .i64 a1_4] 46 (0, 0)) (by (with_reducible repeat (first | refine kN ?_ _ | refine kD ?_ | refine kA ?_ _)); exact BK222.out)) : gb241 ≠ gb222))
             have n12_ := mk0 ((by rw [hg]; exact Nat.ne_of_lt (blk_lt (g := gb240) (o := .cells #[.int .i64 0, .int .i64 0, .int .i64 0, .int .i64 0, .int .i64 0, .int .i64 0] 30 (0, 0)) (by (with_reducible repeat (first | refine kN ?_ _ | refine kD ?_ | refine kA ?_ _)); exact BK240.out)) : gb240 ≠ gb241))
             have n13_ := mk0 ((by rw [hg]; exact Nat.ne_of_gt (blk_lt (g := gb240) (o := .cells #[.int .i64 0, .int .i64 0, .int .i64 0, .int .i64 0, .int .i64 0, .int .i64 0] 30 (0, 0)) (by (with_reducible repeat (first | refine kN ?_ _ | refine kD ?_ | refine kA ?_ _)); exact BK240.out)) : gb241 ≠ gb240))
             have n14_ := mk0 ((by rw [hg]; exact Nat.ne_of_lt (IsS60.lt (show IsS60 w _ g225 t224 from by repeat (first | (with_reducible first | exact HI225.out | apply IsS60.alloc | apply IsS60.drewN | apply IsS60.drew | apply IsS60.set_0 | (focus (refine IsS60.far ?_ ?_ _; rotate_left; (focus ((repeat (first | (with_reducible exact Nsty.of BK221.out rfl) | apply Nsty.set | apply Nsty.drewN | apply Nsty.drew | apply Nsty.alloc)); done)))) | (focus (refine IsS60.far ?_ ?_ _; rotate_left; (focus ((repeat (first | (with_reducible exact Nsty.of BK222.out rfl) | apply Nsty.set | apply Nsty.drewN | apply Nsty.drew | apply Nsty.alloc)); done)))) | (focus (refine IsS60.far ?_ ?_ _; rotate_left; (focus ((repeat (first | (with_reducible exact Nsty.of BK240.out rfl) | apply Nsty.set | apply Nsty.drewN | apply Nsty.drew | apply Nsty.alloc)); done))))) | exact HI225.out))) : g225 ≠ gb241))
             have n15_ := mk0 ((by rw [hg]; exact Nat.ne_of_gt (IsS60.lt (show IsS60 w _ g225 t224 from by repeat (first | (with_reducible first | exact HI225.out | apply IsS60.alloc | apply IsS60.drewN | apply IsS60.drew | apply IsS60.set_0 | (focus (refine IsS60.far ?_ ?_ _; rotate_left; (focus ((repeat (first | (with_reducible exact Nsty.of BK221.out rfl) | apply Nsty.set | apply Nsty.drewN | apply Nsty.drew | apply Nsty.alloc)); done)))) | (focus (refine IsS60.far ?_ ?_ _; rotate_left; (focus ((repeat (first | (with_reducible exact Nsty.of BK222.out rfl) | apply Nsty.set | apply Nsty.drewN | apply Nsty.drew | apply Nsty.alloc)); done)))) | (focus (refine IsS60.far ?_ ?_ _; rotate_left; (focus ((repeat (first | (with_reducible exact Nsty.of BK240.out rfl) | apply Nsty.set | apply Nsty.drewN | apply Nsty.drew | apply Nsty.alloc)); done))))) | exact HI225.out))) : gb241 ≠ g225))
             clear BK221
             clear BK222
             clear HI225
             clear BK240
             clear HB
             have BK221 := n0_
             have BK222 := n1_
             have HI225 := n2_
             have BK240 := n3_
             have HB := n4_
             have BK241 := n5_
             have GW241 := n6_
             have GE241 := n7_
             have NB221_241 := n8_
             have NB241_221 := n9_
             have NB222_241 := n10_
             have NB241_222 := n11_
             have NB240_241 := n12_
             have NB241_240 := n13_
             have NB225_241 := n14_
             have NB241_225 := n15_
             clear n0_ n1_ n2_ n3_ n4_ n5_ n6_ n7_ n8_ n9_ n10_ n11_ n12_ n13_ n14_ n15_
             clear hb hbox hg
             refine hK.out _ _ ⟨(kC BK221.out 0).trans rfl, (kC BK221.out 1).trans rfl, (kC BK221.out 2).trans rfl, (kC BK221.out 3).trans rfl, (kC BK221.out 4).trans rfl, (kC BK222.out 0).trans rfl, (kC BK222.out 1).trans rfl, (kC BK222.out 2).trans rfl, (kC BK222.out 3).trans rfl, (kC BK222.out 4).trans rfl⟩ (fun hHeld => ?_)
             clear hK K
             refine norm_ (a' := ?_) ?_ ?_
             rotate_left
             ·
              show Act.put _ (some 9) _ = _
              simp only [Act.put, sB, sZ, sS, i64_w, i32_w]
              rfl
             exact norm_ (by first | (simp only [putAll, Act.put, sB, sZ, sS]; done) | (simp only [putAll, Act.put, sB, sZ, sS]; rfl)) (hJ24_25 (gb240, gb241) _ ⟨hHeld, (by (with_reducible repeat (first |refine kN ?_ _ |refine kD ?_ |refine kA ?_ _)); exact BK221.out), (by (with_reducible repeat (first |refine kN ?_ _ |refine kD ?_ |refine kA ?_ _)); exact BK222.out), (by (with_reducible repeat (first |refine kN ?_ _ |refine kD ?_ |refine kA ?_ _)); exact BK240.out), (by (with_reducible repeat (first |refine kN ?_ _ |refine kD ?_ |refine kA ?_ _)); exact BK241.out), GW240.out, GE240.out, NB225_240.out, NB240_225.out, NB221_240.out, NB240_221.out, NB222_240.out, NB240_222.out, NB241_240.out, NB240_241.out, GW241.out, GE241.out, NB225_241.out, NB241_225.out, NB221_241.out, NB241_221.out, NB222_241.out, NB241_222.out, (by repeat (first | (with_reducible first |exact HI225.out |apply IsS60.alloc |apply IsS60.drewN |apply IsS60.drew |apply IsS60.set_0 | (focus (refine IsS60.far ?_ ?_ _; rotate_left; (focus ((repeat (first | (with_reducible exact Nsty.of BK221.out rfl) |apply Nsty.set |apply Nsty.drewN |apply Nsty.drew |apply Nsty.alloc)); done)))) | (focus (refine IsS60.far ?_ ?_ _; rotate_left; (focus ((repeat (first | (with_reducible exact Nsty.of BK222.out rfl) |apply Nsty.set |apply Nsty.drewN |apply Nsty.drew |apply Nsty.alloc)); done)))) | (focus (refine IsS60.far ?_ ?_ _; rotate_left; (focus ((repeat (first | (with_reducible exact Nsty.of BK240.out rfl) |apply Nsty.set |apply Nsty.drewN |apply Nsty.drew |apply Nsty.alloc)); done)))) | (focus (refine IsS60.far ?_ ?_ _; rotate_left; (focus ((repeat (first | (with_reducible exact Nsty.of BK241.out rfl) |apply Nsty.set |apply Nsty.drewN |apply Nsty.drew |apply Nsty.alloc)); done))))) |exact HI225.out)), (by repeat (first | (with_reducible first |exact HB.out |apply below_alloc |apply pw_below_drewN |apply below_drew1 |refine bS ?_ (IsS60.ge HI225.out) |refine bS ?_ GE221.out |refine bS ?_ GE222.out |refine bS ?_ GE240.out |refine bS ?_ GE241.out) |exact HB.out))⟩)
            skip
            rintro _ w112 ⟨hS_, h0_, h1_, h2_, h3_⟩
            have n0_ : Aside0 (w112.heap[gb221]? = some (.cells #[.int .i64 a0_0, .int .i64 a0_1, .int .i64 a0_2, .int .i64 a0_3, .int .i64 a0_4] 46 (0, 0))) := ⟨h0_⟩
            have n1_ : Aside0 (w112.heap[gb222]? = some (.cells #[.int .i64 a1_0, .int .i64 a1_1, .int .i64 a1_2, .int .i64 a1_3, .int .i64 a1_4] 46 (0, 0))) := ⟨h1_⟩
            have n2_ : Aside0 (IsS60 w w112 g225 t232) := ⟨h2_⟩
            have n3_ : Aside0 (Below w.heap.size w w112) := ⟨h3_⟩
            clear BK221
            clear BK222
            clear HI225
            clear HB
            clear h0_ h1_ h2_ h3_
            have BK221 := n0_
            have BK222 := n1_
            have HI225 := n2_
            have HB := n3_
            clear n0_ n1_ n2_ n3_
            have hHeld : w112.cell? ⟨gb221, 0, none⟩ = some (.int .i64 a0_0) ∧ w112.cell? ⟨gb221, 1, none⟩ = some (.int .i64 a0_1) ∧ w112.cell? ⟨gb221, 2, none⟩ = some (.int .i64 a0_2) ∧ w112.cell? ⟨gb221, 3, none⟩ = some (.int .i64 a0_3) ∧ w112.cell? ⟨gb221, 4, none⟩ = some (.int .i64 a0_4) ∧ w112.cell? ⟨gb222, 0, none⟩ = some (.int .i64 a1_0) ∧ w112.cell? ⟨gb222, 1, none⟩ = some (.int .i64 a1_1) ∧ w112.cell? ⟨gb222, 2, none⟩ = some (.int .i64 a1_2) ∧ w112.cell? ⟨gb222, 3, none⟩ = some (.int .i64 a1_3) ∧ w112.cell? ⟨gb222, 4, none⟩ = some (.int .i64 a1_4) := hS_
            refine norm_ (a' := ?_) ?_ ?_
            rotate_left
            ·
             simp only [putAll, Act.put, sB, sZ, sS]
             rfl
            refine three_ (i := 23) (j := 24) (k := 25) (Ni := some 69) (Nj := some 8) (Nk := some 9) #[true,true,true,true,true,true,true,true,true,true,true,true,true,true,true,true,true,true,true,true,true,true,true,true,false,false,false,false] #[true,true,true,true,true,true,true,true,true,true,true,true,true,true,true,true,true,true,true,true,true,true,true,false,true,false,false,false] #[true,true,true,true,true,true,true,true,true,true,true,true,true,true,true,true,true,true,true,true,true,true,true,false,false,true,false,false] rfl rfl rfl rfl rfl rfl (three_of HT_.out (by kernel_rfl)) (by decide) (by decide) (by decide) (fun K hK => ?_) (fun K hK => ?_) (fun K hK => ?_)
            ·
             skip
             refine goes_ Tryd.func10 (by kernel_rfl) rfl #[.pointer (some ⟨g225, 0, none⟩), .int .i64 a1_0, .int .i64 a1_2, .int .i64 a1_3, .int .i64 a1_4, .int .i64 a1_1] (by rfl) rfl rfl (by (try simp only [List.map_toArray, List.map_cons, List.map_nil]); first | done | rfl | (simp only [List.length_drop, List.length_take]; rfl)) ?_
             with_reducible refine (card_Make.calls (hrG := ?sideG) k g225 t232 a1_0 a1_2 a1_3 a1_4 a1_1 t233 t234 t235 t236 t237 t238 t239 w _ ?side1 ?side2 A55.out).mono ?_
             (case sideG => (first | (with_reducible exact HRG.out) | exact TabG.below HRG.out (by repeat (first | (with_reducible first | exact HB.out | apply below_alloc | apply pw_below_drewN | apply below_drew1 | refine bS ?_ (IsS60.ge HI225.out) | refine bS ?_ GE221.out | refine bS ?_ GE222.out | refine bS ?_ GE240.out | refine bS ?_ GE241.out) | (with_reducible exact Below.refl _ _)))))
             (case side1 => repeat (first | (with_reducible first | exact HI225.out | apply IsS60.alloc | apply IsS60.drewN | apply IsS60.drew | apply IsS60.set_0 | (focus (refine IsS60.far ?_ ?_ _; rotate_left; (focus ((repeat (first | (with_reducible exact Nsty.of BK221.out rfl) | apply Nsty.set | apply Nsty.drewN | apply Nsty.drew | apply Nsty.alloc)); done)))) | (focus (refine IsS60.far ?_ ?_ _; rotate_left; (focus ((repeat (first | (with_reducible exact Nsty.of BK222.out rfl) | apply Nsty.set | apply Nsty.drewN | apply Nsty.drew | apply Nsty.alloc)); done))))) | exact HI225.out))
             (case side2 => repeat (first | (with_reducible first | exact HB.out | apply below_alloc | apply pw_below_drewN | apply below_drew1 | refine bS ?_ (IsS60.ge HI225.out) | refine bS ?_ GE221.out | refine bS ?_ GE222.out) | exact HB.out))
             rintro e w113 ⟨rfl, hi, hb, hk⟩
             refine ⟨_, rfl, ?_⟩
             have n0_ := mk0 (KeepSt.blk hk (g' := gb221) (o := .cells #[.int .i64 a0_0, .int .i64 a0_1, .int .i64 a0_2, .int .i64 a0_3, .int .i64 a0_4] 46 (0, 0)) (by (with_reducible repeat (first | refine kN ?_ _ | refine kD ?_ | refine kA ?_ _)); exact BK221.out) NB221_225.out rfl)
             have n1_ := mk0 (KeepSt.blk hk (g' := gb222) (o := .cells #[.int .i64 a1_0, .int .i64 a1_1, .int .i64 a1_2, .int .i64 a1_3, .int .i64 a1_4] 46 (0, 0)) (by (with_reducible repeat (first | refine kN ?_ _ | refine kD ?_ | refine kA ?_ _)); exact BK222.out) NB222_225.out rfl)
             have n2_ := mk0 (hb)
             have n3_ := mk0 (hi)
             clear BK221
             clear BK222
             clear HB
             clear HI225
             have BK221 := n0_
             have BK222 := n1_
             have HB := n2_
             have HI225 := n3_
             clear n0_ n1_ n2_ n3_
             (try clear hb)
             (try clear hb2)
             (try clear hk)
             (try clear hi)
             refine hK.out _ _ ⟨(kC BK221.out 0).trans rfl, (kC BK221.out 1).trans rfl, (kC BK221.out 2).trans rfl, (kC BK221.out 3).trans rfl, (kC BK221.out 4).trans rfl, (kC BK222.out 0).trans rfl, (kC BK222.out 1).trans rfl, (kC BK222.out 2).trans rfl, (kC BK222.out 3).trans rfl, (kC BK222.out 4).trans rfl⟩ (fun hHeld => ?_)
             clear hK K
             refine norm_ (a' := ?_) ?_ ?_
             rotate_left
             ·
              show Act.put _ (some 69) _ = _
              simp only [Act.put, sB, sZ, sS, i64_w, i32_w]
              rfl
             exact norm_ (by first | (simp only [putAll, Act.put, sB, sZ, sS]; done) | (simp only [putAll, Act.put, sB, sZ, sS]; rfl)) (hJ11_23 () _ ⟨hHeld, (by (with_reducible repeat (first | refine kN ?_ _ | refine kD ?_ | refine kA ?_ _)); exact BK221.out), (by (with_reducible repeat (first | refine kN ?_ _ | refine kD ?_ | refine kA ?_ _)); exact BK222.out), (by repeat (first | (with_reducible first | exact HI225.out | apply IsS60.alloc | apply IsS60.drewN | apply IsS60.drew | apply IsS60.set_0 | (focus (refine IsS60.far ?_ ?_ _; rotate_left; (focus ((repeat (first | (with_reducible exact Nsty.of BK221.out rfl) | apply Nsty.set | apply Nsty.drewN | apply Nsty.drew | apply Nsty.alloc)); done)))) | (focus (refine IsS60.far ?_ ?_ _; rotate_left; (focus ((repeat (first | (with_reducible exact Nsty.of BK222.out rfl) | apply Nsty.set | apply Nsty.drewN | apply Nsty.drew | apply Nsty.alloc)); done))))) | exact HI225.out)), (by repeat (first | (with_reducible first | exact HB.out | apply below_alloc | apply pw_below_drewN | apply below_drew1 | refine bS ?_ (IsS60.ge HI225.out) | refine bS ?_ GE221.out | refine bS ?_ GE222.out) | exact HB.out))⟩)
            ·
             skip
             refine box_step ?hg (N := 8) ?hd (cs := #[.int .i64 0, .int .i64 0, .int .i64 0, .int .i64 0, .int .i64 0, .int .i64 0]) (t := 30) ?hr ?_; (case hd => rfl); (case hg => rfl); (case hr => first | (go_simp; done) | (go_simp; rfl))
             intro gb240 hg w113 hbox hb
             have n0_ := mk0 (blk_below (g := gb221) (o := .cells #[.int .i64 a0_0, .int .i64 a0_1, .int .i64 a0_2, .int .i64 a0_3, .int .i64 a0_4] 46 (0, 0)) (by (with_reducible repeat (first | refine kN ?_ _ | refine kD ?_ | refine kA ?_ _)); exact BK221.out) hb)
             have n1_ := mk0 (blk_below (g := gb222) (o := .cells #[.int .i64 a1_0, .int .i64 a1_1, .int .i64 a1_2, .int .i64 a1_3, .int .i64 a1_4] 46 (0, 0)) (by (with_reducible repeat (first | refine kN ?_ _ | refine kD ?_ | refine kA ?_ _)); exact BK222.out) hb)
             have n2_ := mk0 (IsS60.below (by repeat (first | (with_reducible first | exact HI225.out | apply IsS60.alloc | apply IsS60.drewN | apply IsS60.drew | apply IsS60.set_0 | (focus (refine IsS60.far ?_ ?_ _; rotate_left; (focus ((repeat (first | (with_reducible exact Nsty.of BK221.out rfl) | apply Nsty.set | apply Nsty.drewN | apply Nsty.drew | apply Nsty.alloc)); done)))) | (focus (refine IsS60.far ?_ ?_ _; rotate_left; (focus ((repeat (first | (with_reducible exact Nsty.of BK222.out rfl) | apply Nsty.set | apply Nsty.drewN | apply Nsty.drew | apply Nsty.alloc)); done))))) | exact HI225.out)) hb)
             have n3_ := mk0 (below_step (by repeat (first | (with_reducible first | exact HB.out | apply below_alloc | apply pw_below_drewN | apply below_drew1 | refine bS ?_ (IsS60.ge HI225.out) | refine bS ?_ GE221.out | refine bS ?_ GE222.out) | exact HB.out)) hb)
             have n4_ := mk0 (hbox)
             have n5_ := mk0 ((by rw [hg]; exact (below_size (by repeat (first | (with_reducible first | exact HB.out | apply below_alloc | apply pw_below_drewN | apply below_drew1 | refine bS ?_ (IsS60.ge HI225.out) | refine bS ?_ GE221.out | refine bS ?_ GE222.out) | exact HB.out))) : w.heap.size ≤ gb240))
             have n6_ := mk0 ((by rw [hg]; exact (below_size (by repeat (first | (with_reducible first | exact HB.out | apply below_alloc | apply pw_below_drewN | apply below_drew1 | refine bS ?_ (IsS60.ge HI225.out) | refine bS ?_ GE221.out | refine bS ?_ GE222.out) | exact HB.out))) : w.heap.size ≤ gb240))
             have n7_ := mk0 ((by rw [hg]; exact Nat.ne_of_lt (blk_lt (g := gb221) (o := .cells #[.int .i64 a0_0, .int .i64 a0_1, .int .i64 a0_2, .int .i64 a0_3, .int .i64 a0_4] 46 (0, 0)) (by (with_reducible repeat (first | refine kN ?_ _ | refine kD ?_ | refine kA ?_ _)); exact BK221.out)) : gb221 ≠ gb240))
             have n8_ := mk0 ((by rw [hg]; exact Nat.ne_of_gt (blk_lt (g := gb221) (o := .cells #[.int .i64 a0_0, .int .i64 a0_1, .int .i64 a0_2, .int .i64 a0_3, .int .i64 a0_4] 46 (0, 0)) (by (with_reducible repeat (first | refine kN ?_ _ | refine kD ?_ | refine kA ?_ _)); exact BK221.out)) : gb240 ≠ gb221))
             have n9_ := mk0 ((by rw [hg]; exact Nat.ne_of_lt (blk_lt (g := gb222) (o := .cells #[.int .i64 a1_0, .int .i64 a1_1, .int .i64 a1_2, .int .i64 a1_3, .int .i64 a1_4] 46 (0, 0)) (by (with_reducible repeat (first | refine kN ?_ _ | refine kD ?_ | refine kA ?_ _)); exact BK222.out)) : gb222 ≠ gb240))
             have n10_ := mk0 ((by rw [hg]; exact Nat.ne_of_gt (blk_lt (g := gb222) (o := .cells #[.int .i64 a1_0, .int .i64 a1_1, .int .i64 a1_2, .int .i64 a1_3, .int .i64 a1_4] 46 (0, 0)) (by (with_reducible repeat (first | refine kN ?_ _ | refine kD ?_ | refine kA ?_ _)); exact BK222.out)) : gb240 ≠ gb222))
             have n11_ := mk0 ((by rw [hg]; exact Nat.ne_of_lt (IsS60.lt (show IsS60 w _ g225 t232 from by repeat (first | (with_reducible first | exact HI225.out | apply IsS60.alloc | apply IsS60.drewN | apply IsS60.drew | apply IsS60.set_0 | (focus (refine IsS60.far ?_ ?_ _; rotate_left; (focus ((repeat (first | (with_reducible exact Nsty.of BK221.out rfl) | apply Nsty.set | apply Nsty.drewN | apply Nsty.drew | apply Nsty.alloc)); done)))) | (focus (refine IsS60.far ?_ ?_ _; rotate_left; (focus ((repeat (first | (with_reducible exact Nsty.of BK222.out rfl) | apply Nsty.set | apply Nsty.drewN | apply Nsty.drew | apply Nsty.alloc)); done))))) | exact HI225.out))) : g225 ≠ gb240))
             have n12_ := mk0 ((by rw [hg]; exact Nat.ne_of_gt (IsS60.lt (show IsS60 w _ g225 t232 from by repeat (first | (with_reducible first | exact HI225.out | apply IsS60.alloc | apply IsS60.drewN | apply IsS60.drew | apply IsS60.set_0 | (focus (refine IsS60.far ?_ ?_ _; rotate_left; (focus ((repeat (first | (with_reducible exact Nsty.of BK221.out rfl) | apply Nsty.set | apply Nsty.drewN | apply Nsty.drew | apply Nsty.alloc)); done)))) | (focus (refine IsS60.far ?_ ?_ _; rotate_left; (focus ((repeat (first | (with_reducible exact Nsty.of BK222.out rfl) | apply Nsty.set | apply Nsty.drewN | apply Nsty.drew | apply Nsty.alloc)); done))))) | exact HI225.out))) : gb240 ≠ g225))
             clear BK221
             clear BK222
             clear HI225
             clear HB
             have BK221 := n0_
             have BK222 := n1_
             have HI225 := n2_
             have HB := n3_
             have BK240 := n4_
             have GW240 := n5_
             have GE240 := n6_
             have NB221_240 := n7_
             have NB240_221 := n8_
             have NB222_240 := n9_
             have NB240_222 := n10_
             have NB225_240 := n11_
             have NB240_225 := n12_
             clear n0_ n1_ n2_ n3_ n4_ n5_ n6_ n7_ n8_ n9_ n10_ n11_ n12_
             clear hb hbox hg
             refine hK.out _ _ ⟨(kC BK221.out 0).trans rfl, (kC BK221.out 1).trans rfl, (kC BK221.out 2).trans rfl, (kC BK221.out 3).trans rfl, (kC BK221.out 4).trans rfl, (kC BK222.out 0).trans rfl, (kC BK222.out 1).trans rfl, (kC BK222.out 2).trans rfl, (kC BK222.out 3).trans rfl, (kC BK222.out 4).trans rfl⟩ (fun hHeld => ?_)
             clear hK K
             refine norm_ (a' := ?_) ?_ ?_
             rotate_left
             ·
              show Act.put _ (some 8) _ = _
              simp only [Act.put, sB, sZ, sS, i64_w, i32_w]
              rfl
             exact norm_ (by first | (simp only [putAll, Act.put, sB, sZ, sS]; done) | (simp only [putAll, Act.put, sB, sZ, sS]; rfl)) (hJ11_24 (gb240) _ ⟨hHeld, (by (with_reducible repeat (first | refine kN ?_ _ | refine kD ?_ | refine kA ?_ _)); exact BK221.out), (by (with_reducible repeat (first | refine kN ?_ _ | refine kD ?_ | refine kA ?_ _)); exact BK222.out), (by (with_reducible repeat (first | refine kN ?_ _ | refine kD ?_ | refine kA ?_ _)); exact BK240.out), GW240.out, GE240.out, NB225_240.out, NB240_225.out, NB221_240.out, NB240_221.out, NB222_240.out, NB240_222.out, (by repeat (first | (with_reducible first | exact HI225.out | apply IsS60.alloc | apply IsS60.drewN | apply IsS60.drew | apply IsS60.set_0 | (focus (refine IsS60.far ?_ ?_ _; rotate_left; (focus ((repeat (first | (with_reducible exact Nsty.of BK221.out rfl) | apply Nsty.set | apply Nsty.drewN | apply Nsty.drew | apply Nsty.alloc)); done)))) | (focus (refine IsS60.far ?_ ?_ _; rotate_left; (focus ((repeat (first | (with_reducible exact Nsty.of BK222.out rfl) | apply Nsty.set | apply Nsty.drewN | apply Nsty.drew | apply Nsty.alloc)); done)))) | (focus (refine IsS60.far ?_ ?_ _; rotate_left; (focus ((repeat (first | (with_reducible exact Nsty.of BK240.out rfl) | apply Nsty.set | apply Nsty.drewN | apply Nsty.drew | apply Nsty.alloc)); done))))) | exact HI225.out)), (by repeat (first | (with_reducible first | exact HB.out | apply below_alloc | apply pw_below_drewN | apply below_drew1 | refine bS ?_ (IsS60.ge HI225.out) | refine bS ?_ GE221.out | refine bS ?_ GE222.out | refine bS ?_ GE240.out) | exact HB.out))⟩)
            skip
            refine box_step ?hg (N := 9) ?hd (cs := #[.int .i64 0, .int .i64 0, .int .i64 0, .int .i64 0, .int .i64 0, .int .i64 0]) (t := 30) ?hr ?_; (case hd => rfl); (case hg => rfl); (case hr => first | (go_simp; done) | (go_simp; rfl))
            intro gb241 hg w113 hbox hb
            have n0_ := mk0 (blk_below (g := gb221) (o := .cells #[.int .i64 a0_0, .int .i64 a0_1, .int .i64 a0_2, .int .i64 a0_3, .int .i64 a0_4] 46 (0, 0)) (by (with_reducible repeat (first | refine kN ?_ _ | refine kD ?_ | refine kA ?_ _)); exact BK221.out) hb)
            have n1_ := mk0 (blk_below (g := gb222) (o := .cells #[.int .i64 a1_0, .int .i64 a1_1, .int .i64 a1_2, .int .i64 a1_3, .int .i64 a1_4] 46 (0, 0)) (by (with_reducible repeat (first | refine kN ?_ _ | refine kD ?_ | refine kA ?_ _)); exact BK222.out) hb)
            have n2_ := mk0 (IsS60.below (by repeat (first | (with_reducible first | exact HI225.out | apply IsS60.alloc | apply IsS60.drewN | apply IsS60.drew | apply IsS60.set_0 | (focus (refine IsS60.far ?_ ?_ _; rotate_left; (focus ((repeat (first | (with_reducible exact Nsty.of BK221.out rfl) | apply Nsty.set | apply Nsty.drewN | apply Nsty.drew | apply Nsty.alloc)); done)))) | (focus (refine IsS60.far ?_ ?_ _; rotate_left; (focus ((repeat (first | (with_reducible exact Nsty.of BK222.out rfl) | apply Nsty.set | apply Nsty.drewN | apply Nsty.drew | apply Nsty.alloc)); done))))) | exact HI225.out)) hb)
            have n3_ := mk0 (below_step (by repeat (first | (with_reducible first | exact HB.out | apply below_alloc | apply pw_below_drewN | apply below_drew1 | refine bS ?_ (IsS60.ge HI225.out) | refine bS ?_ GE221.out | refine bS ?_ GE222.out) | exact HB.out)) hb)
            have n4_ := mk0 (hbox)
            have n5_ := mk0 ((by rw [hg]; exact (below_size (by repeat (first | (with_reducible first | exact HB.out | apply below_alloc | apply pw_below_drewN | apply below_drew1 | refine bS ?_ (IsS60.ge HI225.out) | refine bS ?_ GE221.out | refine bS ?_ GE222.out) | exact HB.out))) : w.heap.size ≤ gb241))
            have n6_ := mk0 ((by rw [hg]; exact (below_size (by repeat (first | (with_reducible first | exact HB.out | apply below_alloc | apply pw_below_drewN | apply below_drew1 | refine bS ?_ (IsS60.ge HI225.out) | refine bS ?_ GE221.out | refine bS ?_ GE222.out) | exact HB.out))) : w.heap.size ≤ gb241))
            have n7_ := mk0 ((by rw [hg]; exact Nat.ne_of_lt (blk_lt (g := gb221) (o := .cells #[.int .i64 a0_0, .int .i64 a0_1, .int .i64 a0_2, .int .i64 a0_3, .int .i64 a0_4] 46 (0, 0)) (by (with_reducible repeat (first | refine kN ?_ _ | refine kD ?_ | refine kA ?_ _)); exact BK221.out)) : gb221 ≠ gb241))
            have n8_ := mk0 ((by rw [hg]; exact Nat.ne_of_gt (blk_lt (g := gb221) (o := .cells #[.int .i64 a0_0, .int .i64 a0_1, .int .i64 a0_2, .int .i64 a0_3, .int .i64 a0_4] 46 (0, 0)) (by (with_reducible repeat (first | refine kN ?_ _ | refine kD ?_ | refine kA ?_ _)); exact BK221.out)) : gb241 ≠ gb221))
            have n9_ := mk0 ((by rw [hg]; exact Nat.ne_of_lt (blk_lt (g := gb222) (o := .cells #[.int .i64 a1_0, .int .i64 a1_1, .int .i64 a1_2, .int .i64 a1_3, .int .i64 a1_4] 46 (0, 0)) (by (with_reducible repeat (first | refine kN ?_ _ | refine kD ?_ | refine kA ?_ _)); exact BK222.out)) : gb222 ≠ gb241))
            have n10_ := mk0 ((by rw [hg]; exact Nat.ne_of_gt (blk_lt (g := gb222) (o := .cells #[.int .i64 a1_0, .int .i64 a1_1, .int .i64 a1_2, .int .i64 a1_3, .int .i64 a1_4] 46 (0, 0)) (by (with_reducible repeat (first | refine kN ?_ _ | refine kD ?_ | refine kA ?_ _)); exact BK222.out)) : gb241 ≠ gb222))
            have n11_ := mk0 ((by rw [hg]; exact Nat.ne_of_lt (IsS60.lt (show IsS60 w _ g225 t232 from by repeat (first | (with_reducible first | exact HI225.out | apply IsS60.alloc | apply IsS60.drewN | apply IsS60.drew | apply IsS60.set_0 | (focus (refine IsS60.far ?_ ?_ _; rotate_left; (focus ((repeat (first | (with_reducible exact Nsty.of BK221.out rfl) | apply Nsty.set | apply Nsty.drewN | apply Nsty.drew | apply Nsty.alloc)); done)))) | (focus (refine IsS60.far ?_ ?_ _; rotate_left; (focus ((repeat (first | (with_reducible exact Nsty.of BK222.out rfl) | apply Nsty.set | apply Nsty.drewN | apply Nsty.drew | apply Nsty.alloc)); done))))) | exact HI225.out))) : g225 ≠ gb241))
            have n12_ := mk0 ((by rw [hg]; exact Nat.ne_of_gt (IsS60.lt (show IsS60 w _ g225 t232 from by repeat (first | (with_reducible first | exact HI225.out | apply IsS60.alloc | apply IsS60.drewN | apply IsS60.drew | apply IsS60.set_0 | (focus (refine IsS60.far ?_ ?_ _; rotate_left; (focus ((repeat (first | (with_reducible exact Nsty.of BK221.out rfl) | apply Nsty.set | apply Nsty.drewN | apply Nsty.drew | apply Nsty.alloc)); done)))) | (focus (refine IsS60.far ?_ ?_ _; rotate_left; (focus ((repeat (first | (with_reducible exact Nsty.of BK222.out rfl) | apply Nsty.set | apply Nsty.drewN | apply Nsty.drew | apply Nsty.alloc)); done))))) | exact HI225.out))) : gb241 ≠ g225))
            clear BK221
            clear BK222
            clear HI225
            clear HB
            have BK221 := n0_
            have BK222 := n1_
            have HI225 := n2_
            have HB := n3_
            have BK241 := n4_
            have GW241 := n5_
            have GE241 := n6_
            have NB221_241 := n7_
            have NB241_221 := n8_
            have NB222_241 := n9_
            have NB241_222 := n10_
            have NB225_241 := n11_
            have NB241_225 := n12_
            clear n0_ n1_ n2_ n3_ n4_ n5_ n6_ n7_ n8_ n9_ n10_ n11_ n12_
            clear hb hbox hg
            refine hK.out _ _ ⟨(kC BK221.out 0).trans rfl, (kC BK221.out 1).trans rfl, (kC BK221.out 2).trans rfl, (kC BK221.out 3).trans rfl, (kC BK221.out 4).trans rfl, (kC BK222.out 0).trans rfl, (kC BK222.out 1).trans rfl, (kC BK222.out 2).trans rfl, (kC BK222.out 3).trans rfl, (kC BK222.out 4).trans rfl⟩ (fun hHeld => ?_)
            clear hK K
            refine norm_ (a' := ?_) ?_ ?_
            rotate_left
            ·
             show Act.put _ (some 9) _ = _
             simp only [Act.put, sB, sZ, sS, i64_w, i32_w]
             rfl
            exact norm_ (by first | (simp only [putAll, Act.put, sB, sZ, sS]; done) | (simp only [putAll, Act.put, sB, sZ, sS]; rfl)) (hJ11_25 (gb241) _ ⟨hHeld, (by (with_reducible repeat (first | refine kN ?_ _ | refine kD ?_ | refine kA ?_ _)); exact BK221.out), (by (with_reducible repeat (first | refine kN ?_ _ | refine kD ?_ | refine kA ?_ _)); exact BK222.out), (by (with_reducible repeat (first | refine kN ?_ _ | refine kD ?_ | refine kA ?_ _)); exact BK241.out), GW241.out, GE241.out, NB225_241.out, NB241_225.out, NB221_241.out, NB241_221.out, NB222_241.out, NB241_222.out, (by repeat (first | (with_reducible first | exact HI225.out | apply IsS60.alloc | apply IsS60.drewN | apply IsS60.drew | apply IsS60.set_0 | (focus (refine IsS60.far ?_ ?_ _; rotate_left; (focus ((repeat (first | (with_reducible exact Nsty.of BK221.out rfl) | apply Nsty.set | apply Nsty.drewN | apply Nsty.drew | apply Nsty.alloc)); done)))) | (focus (refine IsS60.far ?_ ?_ _; rotate_left; (focus ((repeat (first | (with_reducible exact Nsty.of BK222.out rfl) | apply Nsty.set | apply Nsty.drewN | apply Nsty.drew | apply Nsty.alloc)); done)))) | (focus (refine IsS60.far ?_ ?_ _; rotate_left; (focus ((repeat (first | (with_reducible exact Nsty.of BK241.out rfl) | apply Nsty.set | apply Nsty.drewN | apply Nsty.drew | apply Nsty.alloc)); done))))) | exact HI225.out)), (by repeat (first | (with_reducible first | exact HB.out | apply below_alloc | apply pw_below_drewN | apply below_drew1 | refine bS ?_ (IsS60.ge HI225.out) | refine bS ?_ GE221.out | refine bS ?_ GE222.out | refine bS ?_ GE241.out) | exact HB.out))⟩)
           skip
           rintro ⟨gb240, gb241⟩ w113 ⟨hS_, h0_, h1_, h2_, h3_, h4_, h5_, h6_, h7_, h8_, h9_, h10_, h11_, h12_, h13_, h14_, h15_, h16_, h17_, h18_, h19_, h20_, h21_, h22_, h23_⟩
           have n0_ : Aside0 (w113.heap[gb221]? = some (.cells #[.int .i64 a0_0, .int .i64 a0_1, .int .i64 a0_2, .int .i64 a0_3, .int .i64 a0_4] 46 (0, 0))) := ⟨h0_⟩
           have n1_ : Aside0 (w113.heap[gb222]? = some (.cells #[.int .i64 a1_0, .int .i64 a1_1, .int .i64 a1_2, .int .i64 a1_3, .int .i64 a1_4] 46 (0, 0))) := ⟨h1_⟩
           have n2_ : Aside0 (w113.heap[gb240]? = some (.cells #[.int .i64 0, .int .i64 0, .int .i64 0, .int .i64 0, .int .i64 0, .int .i64 0] 30 (0, 0))) := ⟨h2_⟩
           have n3_ : Aside0 (w113.heap[gb241]? = some (.cells #[.int .i64 0, .int .i64 0, .int .i64 0, .int .i64 0, .int .i64 0, .int .i64 0] 30 (0, 0))) := ⟨h3_⟩
           have n4_ : Aside0 (w.heap.size ≤ gb240) := ⟨h4_⟩
           have n5_ : Aside0 (w.heap.size ≤ gb240) := ⟨h5_⟩
           have n6_ : Aside0 (g225 ≠ gb240) := ⟨h6_⟩
           have n7_ : Aside0 (gb240 ≠ g225) := ⟨h7_⟩
           have n8_ : Aside0 (gb221 ≠ gb240) := ⟨h8_⟩
           have n9_ : Aside0 (gb240 ≠ gb221) := ⟨h9_⟩
           have n10_ : Aside0 (gb222 ≠ gb240) := ⟨h10_⟩
           have n11_ : Aside0 (gb240 ≠ gb222) := ⟨h11_⟩
           have n12_ : Aside0 (gb241 ≠ gb240) := ⟨h12_⟩
           have n13_ : Aside0 (gb240 ≠ gb241) := ⟨h13_⟩
           have n14_ : Aside0 (w.heap.size ≤ gb241) := ⟨h14_⟩
           have n15_ : Aside0 (w.heap.size ≤ gb241) := ⟨h15_⟩
           have n16_ : Aside0 (g225 ≠ gb241) := ⟨h16_⟩
           have n17_ : Aside0 (gb241 ≠ g225) := ⟨h17_⟩
           have n18_ : Aside0 (gb221 ≠ gb241) := ⟨h18_⟩
           have n19_ : Aside0 (gb241 ≠ gb221) := ⟨h19_⟩
           have n20_ : Aside0 (gb222 ≠ gb241) := ⟨h20_⟩
           have n21_ : Aside0 (gb241 ≠ gb222) := ⟨h21_⟩
           have n22_ : Aside0 (IsS60 w w113 g225 t224) := ⟨h22_⟩
           have n23_ : Aside0 (Below w.heap.size w w113) := ⟨h23_⟩
           clear BK221
           clear BK222
           clear HI225
           clear HB
           clear h0_ h1_ h2_ h3_ h4_ h5_ h6_ h7_ h8_ h9_ h10_ h11_ h12_ h13_ h14_ h15_ h16_ h17_ h18_ h19_ h20_ h21_ h22_ h23_
           have BK221 := n0_
           have BK222 := n1_
           have BK240 := n2_
           have BK241 := n3_
           have GW240 := n4_
           have GE240 := n5_
           have NB225_240 := n6_
           have NB240_225 := n7_
           have NB221_240 := n8_
           have NB240_221 := n9_
           have NB222_240 := n10_
           have NB240_222 := n11_
           have NB241_240 := n12_
           have NB240_241 := n13_
           have GW241 := n14_
           have GE241 := n15_
           have NB225_241 := n16_
           have NB241_225 := n17_
           have NB221_241 := n18_
           have NB241_221 := n19_
           have NB222_241 := n20_
           have NB241_222 := n21_
           have HI225 := n22_
           have HB := n23_
           clear n0_ n1_ n2_ n3_ n4_ n5_ n6_ n7_ n8_ n9_ n10_ n11_ n12_ n13_ n14_ n15_ n16_ n17_ n18_ n19_ n20_ n21_ n22_ n23_
           have hHeld : w113.cell? ⟨gb221, 0, none⟩ = some (.int .i64 a0_0) ∧ w113.cell? ⟨gb221, 1, none⟩ = some (.int .i64 a0_1) ∧ w113.cell? ⟨gb221, 2, none⟩ = some (.int .i64 a0_2) ∧ w113.cell? ⟨gb221, 3, none⟩ = some (.int .i64 a0_3) ∧ w113.cell? ⟨gb221, 4, none⟩ = some (.int .i64 a0_4) ∧ w113.cell? ⟨gb222, 0, none⟩ = some (.int .i64 a1_0) ∧ w113.cell? ⟨gb222, 1, none⟩ = some (.int .i64 a1_1) ∧ w113.cell? ⟨gb222, 2, none⟩ = some (.int .i64 a1_2) ∧ w113.cell? ⟨gb222, 3, none⟩ = some (.int .i64 a1_3) ∧ w113.cell? ⟨gb222, 4, none⟩ = some (.int .i64 a1_4) := hS_
           refine norm_ (a' := ?_) ?_ ?_
           rotate_left
           ·
            simp only [putAll, Act.put, sB, sZ, sS]
            rfl
           refine one_ (i := 11) (N := some 57) #[true,true,true,true,true,true,true,true,true,true,true,true,true,true,true,true,true,true,true,true,true,true,true,false,true,true,false,false] rfl rfl (one_of HT_.out (by kernel_rfl)) (by decide) (fun K hK => ?_)
           refine goes_ Tryd.func10 (by kernel_rfl) rfl #[.pointer (some ⟨g225, 0, none⟩), .int .i64 a0_0, .int .i64 a0_2, .int .i64 a0_3, .int .i64 a0_4, .int .i64 a0_1] (by rfl) rfl rfl (by (try simp only [List.map_toArray, List.map_cons, List.map_nil]); first | done | rfl | (simp only [List.length_drop, List.length_take]; rfl)) ?_
           with_reducible refine (card_Make.calls (hrG := ?sideG) k g225 t224 a0_0 a0_2 a0_3 a0_4 a0_1 t226 t227 t228 t229 t230 t231 t232 w _ ?side1 ?side2 A54.out).mono ?_
           (case sideG => (first | (with_reducible exact HRG.out) | exact TabG.below HRG.out (by repeat (first | (with_reducible first | exact HB.out | apply below_alloc | apply pw_below_drewN | apply below_drew1 | refine bS ?_ (IsS60.ge HI225.out) | refine bS ?_ GE221.out | refine bS ?_ GE222.out | refine bS ?_ GE240.out | refine bS ?_ GE241.out) | (with_reducible exact Below.refl _ _)))))
           (case side1 => repeat (first | (with_reducible first | exact HI225.out | apply IsS60.alloc | apply IsS60.drewN | apply IsS60.drew | apply IsS60.set_0 | (focus (refine IsS60.far ?_ ?_ _; rotate_left; (focus ((repeat (first | (with_reducible exact Nsty.of BK221.out rfl) | apply Nsty.set | apply Nsty.drewN | apply Nsty.drew | apply Nsty.alloc)); done)))) | (focus (refine IsS60.far ?_ ?_ _; rotate_left; (focus ((repeat (first | (with_reducible exact Nsty.of BK222.out rfl) | apply Nsty.set | apply Nsty.drewN | apply Nsty.drew | apply Nsty.alloc)); done)))) | (focus (refine IsS60.far ?_ ?_ _; rotate_left; (focus ((repeat (first | (with_reducible exact Nsty.of BK240.out rfl) | apply Nsty.set | apply Nsty.drewN | apply Nsty.drew | apply Nsty.alloc)); done)))) | (focus (refine IsS60.far ?_ ?_ _; rotate_left; (focus ((repeat (first | (with_reducible exact Nsty.of BK241.out rfl) | apply Nsty.set | apply Nsty.drewN | apply Nsty.drew | apply Nsty.alloc)); done))))) | exact HI225.out))
           (case side2 => repeat (first | (with_reducible first | exact HB.out | apply below_alloc | apply pw_below_drewN | apply below_drew1 | refine bS ?_ (IsS60.ge HI225.out) | refine bS ?_ GE221.out | refine bS ?_ GE222.out | refine bS ?_ GE240.out | refine bS ?_ GE241.out) | exact HB.out))
           rintro e w114 ⟨rfl, hi, hb, hk⟩
           refine ⟨_, rfl, ?_⟩
           have n0_ := mk0 (KeepSt.blk hk (g' := gb221) (o := .cells #[.int .i64 a0_0, .int .i64 a0_1, .int .i64 a0_2, .int .i64 a0_3, .int .i64 a0_4] 46 (0, 0)) (by (with_reducible repeat (first | refine kN ?_ _ | refine kD ?_ | refine kA ?_ _)); exact BK221.out) NB221_225.out rfl)
           have n1_ := mk0 (KeepSt.blk hk (g' := gb222) (o := .cells #[.int .i64 a1_0, .int .i64 a1_1, .int .i64 a1_2, .int .i64 a1_3, .int .i64 a1_4] 46 (0, 0)) (by (with_reducible repeat (first | refine kN ?_ _ | refine kD ?_ | refine kA ?_ _)); exact BK222.out) NB222_225.out rfl)
           have n2_ := mk0 (KeepSt.blk hk (g' := gb240) (o := .cells #[.int .i64 0, .int .i64 0, .int .i64 0, .int .i64 0, .int .i64 0, .int .i64 0] 30 (0, 0)) (by (with_reducible repeat (first | refine kN ?_ _ | refine kD ?_ | refine kA ?_ _)); exact BK240.out) NB240_225.out rfl)
           have n3_ := mk0 (KeepSt.blk hk (g' := gb241) (o := .cells #[.int .i64 0, .int .i64 0, .int .i64 0, .int .i64 0, .int .i64 0, .int .i64 0] 30 (0, 0)) (by (with_reducible repeat (first | refine kN ?_ _ | refine kD ?_ | refine kA ?_ _)); exact BK241.out) NB241_225.out rfl)
           have n4_ := mk0 (hb)
           have n5_ := mk0 (hi)
           clear BK221
           clear BK222
           clear BK240
           clear BK241
           clear HB
           clear HI225
           have BK221 := n0_
           have BK222 := n1_
           have BK240 := n2_
           have BK241 := n3_
           have HB := n4_
           have HI225 := n5_
           clear n0_ n1_ n2_ n3_ n4_ n5_
           (try clear hb)
           (try clear hb2)
           (try clear hk)
           (try clear hi)
           refine hK.out _ _ ⟨(kC BK221.out 0).trans rfl, (kC BK221.out 1).trans rfl, (kC BK221.out 2).trans rfl, (kC BK221.out 3).trans rfl, (kC BK221.out 4).trans rfl, (kC BK222.out 0).trans rfl, (kC BK222.out 1).trans rfl, (kC BK222.out 2).trans rfl, (kC BK222.out 3).trans rfl, (kC BK222.out 4).trans rfl⟩ (fun hHeld => ?_)
           clear hK K
           refine norm_ (a' := ?_) ?_ ?_
           rotate_left
           ·
            show Act.put _ (some 57) _ = _
            simp only [Act.put, sB, sZ, sS, i64_w, i32_w]
            rfl
           exact norm_ (by first | (simp only [putAll, Act.put, sB, sZ, sS]; done) | (simp only [putAll, Act.put, sB, sZ, sS]; rfl)) (hJ11_24_25 (gb240, gb241) _ ⟨hHeld, (by (with_reducible repeat (first |refine kN ?_ _ |refine kD ?_ |refine kA ?_ _)); exact BK221.out), (by (with_reducible repeat (first |refine kN ?_ _ |refine kD ?_ |refine kA ?_ _)); exact BK222.out), (by (with_reducible repeat (first |refine kN ?_ _ |refine kD ?_ |refine kA ?_ _)); exact BK240.out), (by (with_reducible repeat (first |refine kN ?_ _ |refine kD ?_ |refine kA ?_ _)); exact BK241.out), GW240.out, GE240.out, NB225_240.out, NB240_225.out, NB221_240.out, NB240_221.out, NB222_240.out, NB240_222.out, NB241_240.out, NB240_241.out, GW241.out, GE241.out, NB225_241.out, NB241_225.out, NB221_241.out, NB241_221.out, NB222_241.out, NB241_222.out, (by repeat (first | (with_reducible first |exact HI225.out |apply IsS60.alloc |apply IsS60.drewN |apply IsS60.drew |apply IsS60.set_0 | (focus (refine IsS60.far ?_ ?_ _; rotate_left; (focus ((repeat (first | (with_reducible exact Nsty.of BK221.out rfl) |apply Nsty.set |apply Nsty.drewN |apply Nsty.drew |apply Nsty.alloc)); done)))) | (focus (refine IsS60.far ?_ ?_ _; rotate_left; (focus ((repeat (first | (with_reducible exact Nsty.of BK222.out rfl) |apply Nsty.set |apply Nsty.drewN |apply Nsty.drew |apply Nsty.alloc)); done)))) | (focus (refine IsS60.far ?_ ?_ _; rotate_left; (focus ((repeat (first | (with_reducible exact Nsty.of BK240.out rfl) |apply Nsty.set |apply Nsty.drewN |apply Nsty.drew |apply Nsty.alloc)); done)))) | (focus (refine IsS60.far ?_ ?_ _; rotate_left; (focus ((repeat (first | (with_reducible exact Nsty.of BK241.out rfl) |apply Nsty.set |apply Nsty.drewN |apply Nsty.drew |apply Nsty.alloc)); done))))) |exact HI225.out)), (by repeat (first | (with_reducible first |exact HB.out |apply below_alloc |apply pw_below_drewN |apply below_drew1 |refine bS ?_ (IsS60.ge HI225.out) |refine bS ?_ GE221.out |refine bS ?_ GE222.out |refine bS ?_ GE240.out |refine bS ?_ GE241.out) |exact HB.out))⟩)
          skip
          rintro gb241 w113 ⟨hS_, h0_, h1_, h2_, h3_, h4_, h5_, h6_, h7_, h8_, h9_, h10_, h11_, h12_⟩
          have n0_ : Aside0 (w113.heap[gb221]? = some (.cells #[.int .i64 a0_0, .int .i64 a0_1, .int .i64 a0_2, .int .i64 a0_3, .int .i64 a0_4] 46 (0, 0))) := ⟨h0_⟩
          have n1_ : Aside0 (w113.heap[gb222]? = some (.cells #[.int .i64 a1_0, .int .i64 a1_1, .int .i64 a1_2, .int .i64 a1_3, .int .i64 a1_4] 46 (0, 0))) := ⟨h1_⟩
          have n2_ : Aside0 (w113.heap[gb241]? = some (.cells #[.int .i64 0, .int .i64 0, .int .i64 0, .int .i64 0, .int .i64 0, .int .i64 0] 30 (0, 0))) := ⟨h2_⟩
          have n3_ : Aside0 (w.heap.size ≤ gb241) := ⟨h3_⟩
          have n4_ : Aside0 (w.heap.size ≤ gb241) := ⟨h4_⟩
          have n5_ : Aside0 (g225 ≠ gb241) := ⟨h5_⟩
          have n6_ : Aside0 (gb241 ≠ g225) := ⟨h6_⟩
          have n7_ : Aside0 (gb221 ≠ gb241) := ⟨h7_⟩
          have n8_ : Aside0 (gb241 ≠ gb221) := ⟨h8_⟩
          have n9_ : Aside0 (gb222 ≠ gb241) := ⟨h9_⟩
          have n10_ : Aside0 (gb241 ≠ gb222) := ⟨h10_⟩
          have n11_ : Aside0 (IsS60 w w113 g225 t232) := ⟨h11_⟩
          have n12_ : Aside0 (Below w.heap.size w w113) := ⟨h12_⟩
          clear BK221
          clear BK222
          clear HI225
          clear HB
          clear h0_ h1_ h2_ h3_ h4_ h5_ h6_ h7_ h8_ h9_ h10_ h11_ h12_
          have BK221 := n0_
          have BK222 := n1_
          have BK241 := n2_
          have GW241 := n3_
          have GE241 := n4_
          have NB225_241 := n5_
          have NB241_225 := n6_
          have NB221_241 := n7_
          have NB241_221 := n8_
          have NB222_241 := n9_
          have NB241_222 := n10_
          have HI225 := n11_
          have HB := n12_
          clear n0_ n1_ n2_ n3_ n4_ n5_ n6_ n7_ n8_ n9_ n10_ n11_ n12_
          have hHeld : w113.cell? ⟨gb221, 0, none⟩ = some (.int .i64 a0_0) ∧ w113.cell? ⟨gb221, 1, none⟩ = some (.int .i64 a0_1) ∧ w113.cell? ⟨gb221, 2, none⟩ = some (.int .i64 a0_2) ∧ w113.cell? ⟨gb221, 3, none⟩ = some (.int .i64 a0_3) ∧ w113.cell? ⟨gb221, 4, none⟩ = some (.int .i64 a0_4) ∧ w113.cell? ⟨gb222, 0, none⟩ = some (.int .i64 a1_0) ∧ w113.cell? ⟨gb222, 1, none⟩ = some (.int .i64 a1_1) ∧ w113.cell? ⟨gb222, 2, none⟩ = some (.int .i64 a1_2) ∧ w113.cell? ⟨gb222, 3, none⟩ = some (.int .i64 a1_3) ∧ w113.cell? ⟨gb222, 4, none⟩ = some (.int .i64 a1_4) := hS_
          refine norm_ (a' := ?_) ?_ ?_
          rotate_left
          ·
           simp only [putAll, Act.put, sB, sZ, sS]
           rfl
          refine two_ (i := 23) (j := 24) (Ni := some 69) (Nj := some 8) #[true,true,true,true,true,true,true,true,true,true,true,true,true,true,true,true,true,true,true,true,true,true,true,true,false,true,false,false] #[true,true,true,true,true,true,true,true,true,true,true,true,true,true,true,true,true,true,true,true,true,true,true,false,true,true,false,false] rfl rfl rfl rfl (two_of HT_.out (by kernel_rfl)) (by decide) (by decide) (fun K hK => ?_) (fun K hK => ?_)
          ·
           skip
           refine goes_ Tryd.func10 (by kernel_rfl) rfl #[.pointer (some ⟨g225, 0, none⟩), .int .i64 a1_0, .int .i64 a1_2, .int .i64 a1_3, .int .i64 a1_4, .int .i64 a1_1] (by rfl) rfl rfl (by (try simp only [List.map_toArray, List.map_cons, List.map_nil]); first | done | rfl | (simp only [List.length_drop, List.length_take]; rfl)) ?_
           with_reducible refine (card_Make.calls (hrG := ?sideG) k g225 t232 a1_0 a1_2 a1_3 a1_4 a1_1 t233 t234 t235 t236 t237 t238 t239 w _ ?side1 ?side2 A55.out).mono ?_
           (case sideG => (first | (with_reducible exact HRG.out) | exact TabG.below HRG.out (by repeat (first | (with_reducible first | exact HB.out | apply below_alloc | apply pw_below_drewN | apply below_drew1 | refine bS ?_ (IsS60.ge HI225.out) | refine bS ?_ GE221.out | refine bS ?_ GE222.out | refine bS ?_ GE240.out | refine bS ?_ GE241.out) | (with_reducible exact Below.refl _ _)))))
           (case side1 => repeat (first | (with_reducible first | exact HI225.out | apply IsS60.alloc | apply IsS60.drewN | apply IsS60.drew | apply IsS60.set_0 | (focus (refine IsS60.far ?_ ?_ _; rotate_left; (focus ((repeat (first | (with_reducible exact Nsty.of BK221.out rfl) | apply Nsty.set | apply Nsty.drewN | apply Nsty.drew | apply Nsty.alloc)); done)))) | (focus (refine IsS60.far ?_ ?_ _; rotate_left; (focus ((repeat (first | (with_reducible exact Nsty.of BK222.out rfl) | apply Nsty.set | apply Nsty.drewN | apply Nsty.drew | apply Nsty.alloc)); done)))) | (focus (refine IsS60.far ?_ ?_ _; rotate_left; (focus ((repeat (first | (with_reducible exact Nsty.of BK241.out rfl) | apply Nsty.set | apply Nsty.drewN | apply Nsty.drew | apply Nsty.alloc)); done))))) | exact HI225.out))
           (case side2 => repeat (first | (with_reducible first | exact HB.out | apply below_alloc | apply pw_below_drewN | apply below_drew1 | refine bS ?_ (IsS60.ge HI225.out) | refine bS ?_ GE221.out | refine bS ?_ GE222.out | refine bS ?_ GE241.out) | exact HB.out))
           rintro e w114 ⟨rfl, hi, hb, hk⟩
           refine ⟨_, rfl, ?_⟩
           have n0_ := mk0 (KeepSt.blk hk (g' := gb221) (o := .cells #[.int .i64 a0_0, .int .i64 a0_1, .int .i64 a0_2, .int .i64 a0_3, .int .i64 a0_4] 46 (0, 0)) (by (with_reducible repeat (first | refine kN ?_ _ | refine kD ?_ | refine kA ?_ _)); exact BK221.out) NB221_225.out rfl)
           have n1_ := mk0 (KeepSt.blk hk (g' := gb222) (o := .cells #[.int .i64 a1_0, .int .i64 a1_1, .int .i64 a1_2, .int .i64 a1_3, .int .i64 a1_4] 46 (0, 0)) (by (with_reducible repeat (first | refine kN ?_ _ | refine kD ?_ | refine kA ?_ _)); exact BK222.out) NB222_225.out rfl)
           have n2_ := mk0 (KeepSt.blk hk (g' := gb241) (o := .cells #[.int .i64 0, .int .i64 0, .int .i64 0, .int .i64 0, .int .i64 0, .int .i64 0] 30 (0, 0)) (by (with_reducible repeat (first | refine kN ?_ _ | refine kD ?_ | refine kA ?_ _)); exact BK241.out) NB241_225.out rfl)
           have n3_ := mk0 (hb)
           have n4_ := mk0 (hi)
           clear BK221
           clear BK222
           clear BK241
           clear HB
           clear HI225
           have BK221 := n0_
           have BK222 := n1_
           have BK241 := n2_
           have HB := n3_
           have HI225 := n4_
           clear n0_ n1_ n2_ n3_ n4_
           (try clear hb)
           (try clear hb2)
           (try clear hk)
           (try clear hi)
           refine hK.out _ _ ⟨(kC BK221.out 0).trans rfl, (kC BK221.out 1).trans rfl, (kC BK221.out 2).trans rfl, (kC BK221.out 3).trans rfl, (kC BK221.out 4).trans rfl, (kC BK222.out 0).trans rfl, (kC BK222.out 1).trans rfl, (kC BK222.out 2).trans rfl, (kC BK222.out 3).trans rfl, (kC BK222.out 4).trans rfl⟩ (fun hHeld => ?_)
           clear hK K
           refine norm_ (a' := ?_) ?_ ?_
           rotate_left
           ·
            show Act.put _ (some 69) _ = _
            simp only [Act.put, sB, sZ, sS, i64_w, i32_w]
            rfl
           exact norm_ (by first | (simp only [putAll, Act.put, sB, sZ, sS]; done) | (simp only [putAll, Act.put, sB, sZ, sS]; rfl)) (hJ11_23_25 (gb241) _ ⟨hHeld, (by (with_reducible repeat (first | refine kN ?_ _ | refine kD ?_ | refine kA ?_ _)); exact BK221.out), (by (with_reducible repeat (first | refine kN ?_ _ | refine kD ?_ | refine kA ?_ _)); exact BK222.out), (by (with_reducible repeat (first | refine kN ?_ _ | refine kD ?_ | refine kA ?_ _)); exact BK241.out), GW241.out, GE241.out, NB225_241.out, NB241_225.out, NB221_241.out, NB241_221.out, NB222_241.out, NB241_222.out, (by repeat (first | (with_reducible first | exact HI225.out | apply IsS60.alloc | apply IsS60.drewN | apply IsS60.drew | apply IsS60.set_0 | (focus (refine IsS60.far ?_ ?_ _; rotate_left; (focus ((repeat (first | (with_reducible exact Nsty.of BK221.out rfl) | apply Nsty.set | apply Nsty.drewN | apply Nsty.drew | apply Nsty.alloc)); done)))) | (focus (refine IsS60.far ?_ ?_ _; rotate_left; (focus ((repeat (first | (with_reducible exact Nsty.of BK222.out rfl) | apply Nsty.set | apply Nsty.drewN | apply Nsty.drew | apply Nsty.alloc)); done)))) | (focus (refine IsS60.far ?_ ?_ _; rotate_left; (focus ((repeat (first | (with_reducible exact Nsty.of BK241.out rfl) | apply Nsty.set | apply Nsty.drewN | apply Nsty.drew | apply Nsty.alloc)); done))))) | exact HI225.out)), (by repeat (first | (with_reducible first | exact HB.out | apply below_alloc | apply pw_below_drewN | apply below_drew1 | refine bS ?_ (IsS60.ge HI225.out) | refine bS ?_ GE221.out | refine bS ?_ GE222.out | refine bS ?_ GE241.out) | exact HB.out))⟩)
          skip
          refine box_step ?hg (N := 8) ?hd (cs := #[.int .i64 0, .int .i64 0, .int .i64 0, .int .i64 0, .int .i64 0, .int .i64 0]) (t := 30) ?hr ?_; (case hd => rfl); (case hg => rfl); (case hr => first | (go_simp; done) | (go_simp; rfl))
          intro gb240 hg w114 hbox hb
          have n0_ := mk0 (blk_below (g := gb221) (o := .cells #[.int .i64 a0_0, .int .i64 a0_1, .int .i64 a0_2, .int .i64 a0_3, .int .i64 a0_4] 46 (0, 0)) (by (with_reducible repeat (first | refine kN ?_ _ | refine kD ?_ | refine kA ?_ _)); exact BK221.out) hb)
          have n1_ := mk0 (blk_below (g := gb222) (o := .cells #[.int .i64 a1_0, .int .i64 a1_1, .int .i64 a1_2, .int .i64 a1_3, .int .i64 a1_4] 46 (0, 0)) (by (with_reducible repeat (first | refine kN ?_ _ | refine kD ?_ | refine kA ?_ _)); exact BK222.out) hb)
          have n2_ := mk0 (IsS60.below (by repeat (first | (with_reducible first | exact HI225.out | apply IsS60.alloc | apply IsS60.drewN | apply IsS60.drew | apply IsS60.set_0 | (focus (refine IsS60.far ?_ ?_ _; rotate_left; (focus ((repeat (first | (with_reducible exact Nsty.of BK221.out rfl) | apply Nsty.set | apply Nsty.drewN | apply Nsty.drew | apply Nsty.alloc)); done)))) | (focus (refine IsS60.far ?_ ?_ _; rotate_left; (focus ((repeat (first | (with_reducible exact Nsty.of BK222.out rfl) | apply Nsty.set | apply Nsty.drewN | apply Nsty.drew | apply Nsty.alloc)); done)))) | (focus (refine IsS60.far ?_ ?_ _; rotate_left; (focus ((repeat (first | (with_reducible exact Nsty.of BK241.out rfl) | apply Nsty.set | apply Nsty.drewN | apply Nsty.drew | apply Nsty.alloc)); done))))) | exact HI225.out)) hb)
          have n3_ := mk0 (blk_below (g := gb241) (o := .cells #[.int .i64 0, .int .i64 0, .int .i64 0, .int .i64 0, .int .i64 0, .int .i64 0] 30 (0, 0)) (by (with_reducible repeat (first | refine kN ?_ _ | refine kD ?_ | refine kA ?_ _)); exact BK241.out) hb)
          have n4_ := mk0 (below_step (by repeat (first | (with_reducible first | exact HB.out | apply below_alloc | apply pw_below_drewN | apply below_drew1 | refine bS ?_ (IsS60.ge HI225.out) | refine bS ?_ GE221.out | refine bS ?_ GE222.out | refine bS ?_ GE241.out) | exact HB.out)) hb)
          have n5_ := mk0 (hbox)
          have n6_ := mk0 ((by rw [hg]; exact (below_size (by repeat (first | (with_reducible first | exact HB.out | apply below_alloc | apply pw_below_drewN | apply below_drew1 | refine bS ?_ (IsS60.ge HI225.out) | refine bS ?_ GE221.out | refine bS ?_ GE222.out | refine bS ?_ GE241.out) | exact HB.out))) : w.heap.size ≤ gb240))
          have n7_ := mk0 ((by rw [hg]; exact (below_size (by repeat (first | (with_reducible first | exact HB.out | apply below_alloc | apply pw_below_drewN | apply below_drew1 | refine bS ?_ (IsS60.ge HI225.out) | refine bS ?_ GE221.out | refine bS ?_ GE222.out | refine bS ?_ GE241.out) | exact HB.out))) : w.heap.size ≤ gb240))
          have n8_ := mk0 ((by rw [hg]; exact Nat.ne_of_lt (blk_lt (g := gb221) (o := .cells #[.int .i64 a0_0, .int .i64 a0_1, .int .i64 a0_2, .int .i64 a0_3, .int .i64 a0_4] 46 (0, 0)) (by (with_reducible repeat (first | refine kN ?_ _ | refine kD ?_ | refine kA ?_ _)); exact BK221.out)) : gb221 ≠ gb240))
          have n9_ := mk0 ((by rw [hg]; exact Nat.ne_of_gt (blk_lt (g := gb221) (o := .cells #[.int .i64 a0_0, .int .i64 a0_1, .int .i64 a0_2, .int .i64 a0_3, .int .i64 a0_4] 46 (0, 0)) (by (with_reducible repeat (first | refine kN ?_ _ | refine kD ?_ | refine kA ?_ _)); exact BK221.out)) : gb240 ≠ gb221))
          have n10_ := mk0 ((by rw [hg]; exact Nat.ne_of_lt (blk_lt (g := gb222) (o := .cells #[.int .i64 a1_0, .int .i64 a1_1, .int .i64 a1_2, .int .i64 a1_3, .int .i64 a1_4] 46 (0, 0)) (by (with_reducible repeat (first | refine kN ?_ _ | refine kD ?_ | refine kA ?_ _)); exact BK222.out)) : gb222 ≠ gb240))
          have n11_ := mk0 ((by rw [hg]; exact Nat.ne_of_gt (blk_lt (g := gb222) (o := .cells #[.int .i64 a1_0, .int .i64 a1_1, .int .i64 a1_2, .int .i64 a1_3, .int .i64 a1_4] 46 (0, 0)) (by (with_reducible repeat (first | refine kN ?_ _ | refine kD ?_ | refine kA ?_ _)); exact BK222.out)) : gb240 ≠ gb222))
          have n12_ := mk0 ((by rw [hg]; exact Nat.ne_of_lt (blk_lt (g := gb241) (o := .cells #[.int .i64 0, .int .i64 0, .int .i64 0, .int .i64 0, .int .i64 0, .int .i64 0] 30 (0, 0)) (by (with_reducible repeat (first | refine kN ?_ _ | refine kD ?_ | refine kA ?_ _)); exact BK241.out)) : gb241 ≠ gb240))
          have n13_ := mk0 ((by rw [hg]; exact Nat.ne_of_gt (blk_lt (g := gb241) (o := .cells #[.int .i64 0, .int .i64 0, .int .i64 0, .int .i64 0, .int .i64 0, .int .i64 0] 30 (0, 0)) (by (with_reducible repeat (first | refine kN ?_ _ | refine kD ?_ | refine kA ?_ _)); exact BK241.out)) : gb240 ≠ gb241))
          have n14_ := mk0 ((by rw [hg]; exact Nat.ne_of_lt (IsS60.lt (show IsS60 w _ g225 t232 from by repeat (first | (with_reducible first | exact HI225.out | apply IsS60.alloc | apply IsS60.drewN | apply IsS60.drew | apply IsS60.set_0 | (focus (refine IsS60.far ?_ ?_ _; rotate_left; (focus ((repeat (first | (with_reducible exact Nsty.of BK221.out rfl) | apply Nsty.set | apply Nsty.drewN | apply Nsty.drew | apply Nsty.alloc)); done)))) | (focus (refine IsS60.far ?_ ?_ _; rotate_left; (focus ((repeat (first | (with_reducible exact Nsty.of BK222.out rfl) | apply Nsty.set | apply Nsty.drewN | apply Nsty.drew | apply Nsty.alloc)); done)))) | (focus (refine IsS60.far ?_ ?_ _; rotate_left; (focus ((repeat (first | (with_reducible exact Nsty.of BK241.out rfl) | apply Nsty.set | apply Nsty.drewN | apply Nsty.drew | apply Nsty.alloc)); done))))) | exact HI225.out))) : g225 ≠ gb240))
          have n15_ := mk0 ((by rw [hg]; exact Nat.ne_of_gt (IsS60.lt (show IsS60 w _ g225 t232 from by repeat (first | (with_reducible first | exact HI225.out | apply IsS60.alloc | apply IsS60.drewN | apply IsS60.drew | apply IsS60.set_0 | (focus (refine IsS60.far ?_ ?_ _; rotate_left; (focus ((repeat (first | (with_reducible exact Nsty.of BK221.out rfl) | apply Nsty.set | apply Nsty.drewN | apply Nsty.drew | apply Nsty.alloc)); done)))) | (focus (refine IsS60.far ?_ ?_ _; rotate_left; (focus ((repeat (first | (with_reducible exact Nsty.of BK222.out rfl) | apply Nsty.set | apply Nsty.drewN | apply Nsty.drew | apply Nsty.alloc)); done)))) | (focus (refine IsS60.far ?_ ?_ _; rotate_left; (focus ((repeat (first | (with_reducible exact Nsty.of BK241.out rfl) | apply Nsty.set | apply Nsty.drewN | apply Nsty.drew | apply Nsty.alloc)); done))))) | exact HI225.out))) : gb240 ≠ g225))
          clear BK221
          clear BK222
          clear HI225
          clear BK241
          clear HB
          have BK221 := n0_
          have BK222 := n1_
          have HI225 := n2_
          have BK241 := n3_
          have HB := n4_
          have BK240 := n5_
          have GW240 := n6_
          have GE240 := n7_
          have NB221_240 := n8_
          have NB240_221 := n9_
          have NB222_240 := n10_
          have NB240_222 := n11_
          have NB241_240 := n12_
          have NB240_241 := n13_
          have NB225_240 := n14_
          have NB240_225 := n15_
          clear n0_ n1_ n2_ n3_ n4_ n5_ n6_ n7_ n8_ n9_ n10_ n11_ n12_ n13_ n14_ n15_
          clear hb hbox hg
          refine hK.out _ _ ⟨(kC BK221.out 0).trans rfl, (kC BK221.out 1).trans rfl, (kC BK221.out 2).trans rfl, (kC BK221.out 3).trans rfl, (kC BK221.out 4).trans rfl, (kC BK222.out 0).trans rfl, (kC BK222.out 1).trans rfl, (kC BK222.out 2).trans rfl, (kC BK222.out 3).trans rfl, (kC BK222.out 4).trans rfl⟩ (fun hHeld => ?_)
          clear hK K
          refine norm_ (a' := ?_) ?_ ?_
          rotate_left
          ·
           show Act.put _ (some 8) _ = _
           simp only [Act.put, sB, sZ, sS, i64_w, i32_w]
           rfl
          exact norm_ (by first | (simp only [putAll, Act.put, sB, sZ, sS]; done) | (simp only [putAll, Act.put, sB, sZ, sS]; rfl)) (hJ11_24_25 (gb240, gb241) _ ⟨hHeld, (by (with_reducible repeat (first |refine kN ?_ _ |refine kD ?_ |refine kA ?_ _)); exact BK221.out), (by (with_reducible repeat (first |refine kN ?_ _ |refine kD ?_ |refine kA ?_ _)); exact BK222.out), (by (with_reducible repeat (first |refine kN ?_ _ |refine kD ?_ |refine kA ?_ _)); exact BK240.out), (by (with_reducible repeat (first |refine kN ?_ _ |refine kD ?_ |refine kA ?_ _)); exact BK241.out), GW240.out, GE240.out, NB225_240.out, NB240_225.out, NB221_240.out, NB240_221.out, NB222_240.out, NB240_222.out, NB241_240.out, NB240_241.out, GW241.out, GE241.out, NB225_241.out, NB241_225.out, NB221_241.out, NB241_221.out, NB222_241.out, NB241_222.out, (by repeat (first | (with_reducible first |exact HI225.out |apply IsS60.alloc |apply IsS60.drewN |apply IsS60.drew |apply IsS60.set_0 | (focus (refine IsS60.far ?_ ?_ _; rotate_left; (focus ((repeat (first | (with_reducible exact Nsty.of BK221.out rfl) |apply Nsty.set |apply Nsty.drewN |apply Nsty.drew |apply Nsty.alloc)); done)))) | (focus (refine IsS60.far ?_ ?_ _; rotate_left; (focus ((repeat (first | (with_reducible exact Nsty.of BK222.out rfl) |apply Nsty.set |apply Nsty.drewN |apply Nsty.drew |apply Nsty.alloc)); done)))) | (focus (refine IsS60.far ?_ ?_ _; rotate_left; (focus ((repeat (first | (with_reducible exact Nsty.of BK241.out rfl) |apply Nsty.set |apply Nsty.drewN |apply Nsty.drew |apply Nsty.alloc)); done)))) | (focus (refine IsS60.far ?_ ?_ _; rotate_left; (focus ((repeat (first | (with_reducible exact Nsty.of BK240.out rfl) |apply Nsty.set |apply Nsty.drewN |apply Nsty.drew |apply Nsty.alloc)); done))))) |exact HI225.out)), (by repeat (first | (with_reducible first |exact HB.out |apply below_alloc |apply pw_below_drewN |apply below_drew1 |refine bS ?_ (IsS60.ge HI225.out) |refine bS ?_ GE221.out |refine bS ?_ GE222.out |refine bS ?_ GE241.out |refine bS ?_ GE240.out) |exact HB.out))⟩)
         skip
         rintro gb240 w113 ⟨hS_, h0_, h1_, h2_, h3_, h4_, h5_, h6_, h7_, h8_, h9_, h10_, h11_, h12_⟩
         have n0_ : Aside0 (w113.heap[gb221]? = some (.cells #[.int .i64 a0_0, .int .i64 a0_1, .int .i64 a0_2, .int .i64 a0_3, .int .i64 a0_4] 46 (0, 0))) := ⟨h0_⟩
         have n1_ : Aside0 (w113.heap[gb222]? = some (.cells #[.int .i64 a1_0, .int .i64 a1_1, .int .i64 a1_2, .int .i64 a1_3, .int .i64 a1_4] 46 (0, 0))) := ⟨h1_⟩
         have n2_ : Aside0 (w113.heap[gb240]? = some (.cells #[.int .i64 0, .int .i64 0, .int .i64 0, .int .i64 0, .int .i64 0, .int .i64 0] 30 (0, 0))) := ⟨h2_⟩
         have n3_ : Aside0 (w.heap.size ≤ gb240) := ⟨h3_⟩
         have n4_ : Aside0 (w.heap.size ≤ gb240) := ⟨h4_⟩
         have n5_ : Aside0 (g225 ≠ gb240) := ⟨h5_⟩
         have n6_ : Aside0 (gb240 ≠ g225) := ⟨h6_⟩
         have n7_ : Aside0 (gb221 ≠ gb240) := ⟨h7_⟩
         have n8_ : Aside0 (gb240 ≠ gb221) := ⟨h8_⟩
         have n9_ : Aside0 (gb222 ≠ gb240) := ⟨h9_⟩
         have n10_ : Aside0 (gb240 ≠ gb222) := ⟨h10_⟩
         have n11_ : Aside0 (IsS60 w w113 g225 t232) := ⟨h11_⟩
         have n12_ : Aside0 (Below w.heap.size w w113) := ⟨h12_⟩
         clear BK221
         clear BK222
         clear HI225
         clear HB
         clear h0_ h1_ h2_ h3_ h4_ h5_ h6_ h7_ h8_ h9_ h10_ h11_ h12_
         have BK221 := n0_
         have BK222 := n1_
         have BK240 := n2_
         have GW240 := n3_
         have GE240 := n4_
         have NB225_240 := n5_
         have NB240_225 := n6_
         have NB221_240 := n7_
         have NB240_221 := n8_
         have NB222_240 := n9_
         have NB240_222 := n10_
         have HI225 := n11_
         have HB := n12_
         clear n0_ n1_ n2_ n3_ n4_ n5_ n6_ n7_ n8_ n9_ n10_ n11_ n12_
         have hHeld : w113.cell? ⟨gb221, 0, none⟩ = some (.int .i64 a0_0) ∧ w113.cell? ⟨gb221, 1, none⟩ = some (.int .i64 a0_1) ∧ w113.cell? ⟨gb221, 2, none⟩ = some (.int .i64 a0_2) ∧ w113.cell? ⟨gb221, 3, none⟩ = some (.int .i64 a0_3) ∧ w113.cell? ⟨gb221, 4, none⟩ = some (.int .i64 a0_4) ∧ w113.cell? ⟨gb222, 0, none⟩ = some (.int .i64 a1_0) ∧ w113.cell? ⟨gb222, 1, none⟩ = some (.int .i64 a1_1) ∧ w113.cell? ⟨gb222, 2, none⟩ = some (.int .i64 a1_2) ∧ w113.cell? ⟨gb222, 3, none⟩ = some (.int .i64 a1_3) ∧ w113.cell? ⟨gb222, 4, none⟩ = some (.int .i64 a1_4) := hS_
         refine norm_ (a' := ?_) ?_ ?_
         rotate_left
         ·
          simp only [putAll, Act.put, sB, sZ, sS]
          rfl
         refine two_ (i := 23) (j := 25) (Ni := some 69) (Nj := some 9) #[true,true,true,true,true,true,true,true,true,true,true,true,true,true,true,true,true,true,true,true,true,true,true,true,true,false,false,false] #[true,true,true,true,true,true,true,true,true,true,true,true,true,true,true,true,true,true,true,true,true,true,true,false,true,true,false,false] rfl rfl rfl rfl (two_of HT_.out (by kernel_rfl)) (by decide) (by decide) (fun K hK => ?_) (fun K hK => ?_)
         ·
          skip
          refine goes_ Tryd.func10 (by kernel_rfl) rfl #[.pointer (some ⟨g225, 0, none⟩), .int .i64 a1_0, .int .i64 a1_2, .int .i64 a1_3, .int .i64 a1_4, .int .i64 a1_1] (by rfl) rfl rfl (by (try simp only [List.map_toArray, List.map_cons, List.map_nil]); first | done | rfl | (simp only [List.length_drop, List.length_take]; rfl)) ?_
          with_reducible refine (card_Make.calls (hrG := ?sideG) k g225 t232 a1_0 a1_2 a1_3 a1_4 a1_1 t233 t234 t235 t236 t237 t238 t239 w _ ?side1 ?side2 A55.out).mono ?_
          (case sideG => (first | (with_reducible exact HRG.out) | exact TabG.below HRG.out (by repeat (first | (with_reducible first | exact HB.out | apply below_alloc | apply pw_below_drewN | apply below_drew1 | refine bS ?_ (IsS60.ge HI225.out) | refine bS ?_ GE221.out | refine bS ?_ GE222.out | refine bS ?_ GE240.out | refine bS ?_ GE241.out) | (with_reducible exact Below.refl _ _)))))
          (case side1 => repeat (first | (with_reducible first | exact HI225.out | apply IsS60.alloc | apply IsS60.drewN | apply IsS60.drew | apply IsS60.set_0 | (focus (refine IsS60.far ?_ ?_ _; rotate_left; (focus ((repeat (first | (with_reducible exact Nsty.of BK221.out rfl) | apply Nsty.set | apply Nsty.drewN | apply Nsty.drew | apply Nsty.alloc)); done)))) | (focus (refine IsS60.far ?_ ?_ _; rotate_left; (focus ((repeat (first | (with_reducible exact Nsty.of BK222.out rfl) | apply Nsty.set | apply Nsty.drewN | apply Nsty.drew | apply Nsty.alloc)); done)))) | (focus (refine IsS60.far ?_ ?_ _; rotate_left; (focus ((repeat (first | (with_reducible exact Nsty.of BK240.out rfl) | apply Nsty.set | apply Nsty.drewN | apply Nsty.drew | apply Nsty.alloc)); done))))) | exact HI225.out))
          (case side2 => repeat (first | (with_reducible first | exact HB.out | apply below_alloc | apply pw_below_drewN | apply below_drew1 | refine bS ?_ (IsS60.ge HI225.out) | refine bS ?_ GE221.out | refine bS ?_ GE222.out | refine bS ?_ GE240.out) | exact HB.out))
          rintro e w114 ⟨rfl, hi, hb, hk⟩
          refine ⟨_, rfl, ?_⟩
          have n0_ := mk0 (KeepSt.blk hk (g' := gb221) (o := .cells #[.int .i64 a0_0, .int .i64 a0_1, .int .i64 a0_2, .int .i64 a0_3, .int .i64 a0_4] 46 (0, 0)) (by (with_reducible repeat (first | refine kN ?_ _ | refine kD ?_ | refine kA ?_ _)); exact BK221.out) NB221_225.out rfl)
          have n1_ := mk0 (KeepSt.blk hk (g' := gb222) (o := .cells #[.int .i64 a1_0, .int .i64 a1_1, .int .i64 a1_2, .int .i64 a1_3, .int .i64 a1_4] 46 (0, 0)) (by (with_reducible repeat (first | refine kN ?_ _ | refine kD ?_ | refine kA ?_ _)); exact BK222.out) NB222_225.out rfl)
          have n2_ := mk0 (KeepSt.blk hk (g' := gb240) (o := .cells #[.int .i64 0, .int .i64 0, .int .i64 0, .int .i64 0, .int .i64 0, .int .i64 0] 30 (0, 0)) (by (with_reducible repeat (first | refine kN ?_ _ | refine kD ?_ | refine kA ?_ _)); exact BK240.out) NB240_225.out rfl)
          have n3_ := mk0 (hb)
          have n4_ := mk0 (hi)
          clear BK221
          clear BK222
          clear BK240
          clear HB
          clear HI225
          have BK221 := n0_
          have BK222 := n1_
          have BK240 := n2_
          have HB := n3_
          have HI225 := n4_
          clear n0_ n1_ n2_ n3_ n4_
          (try clear hb)
          (try clear hb2)
          (try clear hk)
          (try clear hi)
          refine hK.out _ _ ⟨(kC BK221.out 0).trans rfl, (kC BK221.out 1).trans rfl, (kC BK221.out 2).trans rfl, (kC BK221.out 3).trans rfl, (kC BK221.out 4).trans rfl, (kC BK222.out 0).trans rfl, (kC BK222.out 1).trans rfl, (kC BK222.out 2).trans rfl, (kC BK222.out 3).trans rfl, (kC BK222.out 4).trans rfl⟩ (fun hHeld => ?_)
          clear hK K
          refine norm_ (a' := ?_) ?_ ?_
          rotate_left
          ·
           show Act.put _ (some 69) _ = _
           simp only [Act.put, sB, sZ, sS, i64_w, i32_w]
           rfl
          exact norm_ (by first | (simp only [putAll, Act.put, sB, sZ, sS]; done) | (simp only [putAll, Act.put, sB, sZ, sS]; rfl)) (hJ11_23_24 (gb240) _ ⟨hHeld, (by (with_reducible repeat (first | refine kN ?_ _ | refine kD ?_ | refine kA ?_ _)); exact BK221.out), (by (with_reducible repeat (first | refine kN ?_ _ | refine kD ?_ | refine kA ?_ _)); exact BK222.out), (by (with_reducible repeat (first | refine kN ?_ _ | refine kD ?_ | refine kA ?_ _)); exact BK240.out), GW240.out, GE240.out, NB225_240.out, NB240_225.out, NB221_240.out, NB240_221.out, NB222_240.out, NB240_222.out, (by repeat (first | (with_reducible first | exact HI225.out | apply IsS60.alloc | apply IsS60.drewN | apply IsS60.drew | apply IsS60.set_0 | (focus (refine IsS60.far ?_ ?_ _; rotate_left; (focus ((repeat (first | (with_reducible exact Nsty.of BK221.out rfl) | apply Nsty.set | apply Nsty.drewN | apply Nsty.drew | apply Nsty.alloc)); done)))) | (focus (refine IsS60.far ?_ ?_ _; rotate_left; (focus ((repeat (first | (with_reducible exact Nsty.of BK222.out rfl) | apply Nsty.set | apply Nsty.drewN | apply Nsty.drew | apply Nsty.alloc)); done)))) | (focus (refine IsS60.far ?_ ?_ _; rotate_left; (focus ((repeat (first | (with_reducible exact Nsty.of BK240.out rfl) | apply Nsty.set | apply Nsty.drewN | apply Nsty.drew | apply Nsty.alloc)); done))))) | exact HI225.out)), (by repeat (first | (with_reducible first | exact HB.out | apply below_alloc | apply pw_below_drewN | apply below_drew1 | refine bS ?_ (IsS60.ge HI225.out) | refine bS ?_ GE221.out | refine bS ?_ GE222.out | refine bS ?_ GE240.out) | exact HB.out))⟩)
         skip
         refine box_step ?hg (N := 9) ?hd (cs := #[.int .i64 0, .int .i64 0, .int .i64 0, .int .i64 0, .int .i64 0, .int .i64 0]) (t := 30) ?hr ?_; (case hd => rfl); (case hg => rfl); (case hr => first | (go_simp; done) | (go_simp; rfl))
         intro gb241 hg w114 hbox hb
         have n0_ := mk0 (blk_below (g := gb221) (o := .cells #[.int .i64 a0_0, .int .i64 a0_1, .int .i64 a0_2, .int .i64 a0_3, .int .i64 a0_4] 46 (0, 0)) (by (with_reducible repeat (first | refine kN ?_ _ | refine kD ?_ | refine kA ?_ _)); exact BK221.out) hb)
         have n1_ := mk0 (blk_below (g := gb222) (o := .cells #[.int .i64 a1_0, .int .i64 a1_1, .int .i64 a1_2, .int .i64 a1_3, .int .i64 a1_4] 46 (0, 0)) (by (with_reducible repeat (first | refine kN ?_ _ | refine kD ?_ | refine kA ?_ _)); exact BK222.out) hb)
         have n2_ := mk0 (IsS60.below (by repeat (first | (with_reducible first | exact HI225.out | apply IsS60.alloc | apply IsS60.drewN | apply IsS60.drew | apply IsS60.set_0 | (focus (refine IsS60.far ?_ ?_ _; rotate_left; (focus ((repeat (first | (with_reducible exact Nsty.of BK221.out rfl) | apply Nsty.set | apply Nsty.drewN | apply Nsty.drew | apply Nsty.alloc)); done)))) | (focus (refine IsS60.far ?_ ?_ _; rotate_left; (focus ((repeat (first | (with_reducible exact Nsty.of BK222.out rfl) | apply Nsty.set | apply Nsty.drewN | apply Nsty.drew | apply Nsty.alloc)); done)))) | (focus (refine IsS60.far ?_ ?_ _; rotate_left; (focus ((repeat (first | (with_reducible exact Nsty.of BK240.out rfl) | apply Nsty.set | apply Nsty.drewN | apply Nsty.drew | apply Nsty.alloc)); done))))) | exact HI225.out)) hb)
         have n3_ := mk0 (blk_below (g := gb240) (o := .cells #[.int .i64 0, .int .i64 0, .int .i64 0, .int .i64 0, .int .i64 0, .int .i64 0] 30 (0, 0)) (by (with_reducible repeat (first | refine kN ?_ _ | refine kD ?_ | refine kA ?_ _)); exact BK240.out) hb)
         have n4_ := mk0 (below_step (by repeat (first | (with_reducible first | exact HB.out | apply below_alloc | apply pw_below_drewN | apply below_drew1 | refine bS ?_ (IsS60.ge HI225.out) | refine bS ?_ GE221.out | refine bS ?_ GE222.out | refine bS ?_ GE240.out) | exact HB.out)) hb)
         have n5_ := mk0 (hbox)
         have n6_ := mk0 ((by rw [hg]; exact (below_size (by repeat (first | (with_reducible first | exact HB.out | apply below_alloc | apply pw_below_drewN | apply below_drew1 | refine bS ?_ (IsS60.ge HI225.out) | refine bS ?_ GE221.out | refine bS ?_ GE222.out | refine bS ?_ GE240.out) | exact HB.out))) : w.heap.size ≤ gb241))
         have n7_ := mk0 ((by rw [hg]; exact (below_size (by repeat (first | (with_reducible first | exact HB.out | apply below_alloc | apply pw_below_drewN | apply below_drew1 | refine bS ?_ (IsS60.ge HI225.out) | refine bS ?_ GE221.out | refine bS ?_ GE222.out | refine bS ?_ GE240.out) | exact HB.out))) : w.heap.size ≤ gb241))
         have n8_ := mk0 ((by rw [hg]; exact Nat.ne_of_lt (blk_lt (g := gb221) (o := .cells #[.int .i64 a0_0, .int .i64 a0_1, .int .i64 a0_2, .int .i64 a0_3, .int .i64 a0_4] 46 (0, 0)) (by (with_reducible repeat (first | refine kN ?_ _ | refine kD ?_ | refine kA ?_ _)); exact BK221.out)) : gb221 ≠ gb241))
         have n9_ := mk0 ((by rw [hg]; exact Nat.ne_of_gt (blk_lt (g := gb221) (o := .cells #[.int .i64 a0_0, .int .i64 a0_1, .int .i64 a0_2, .int .i64 a0_3, .int .i64 a0_4] 46 (0, 0)) (by (with_reducible repeat (first | refine kN ?_ _ | refine kD ?_ | refine kA ?_ _)); exact BK221.out)) : gb241 ≠ gb221))
         have n10_ := mk0 ((by rw [hg]; exact Nat.ne_of_lt (blk_lt (g := gb222) (o := .cells #[.int .i64 a1_0, .int .i64 a1_1, .int .i64 a1_2, .int .i64 a1_3, .int .i64 a1_4] 46 (0, 0)) (by (with_reducible repeat (first | refine kN ?_ _ | refine kD ?_ | refine kA ?_ _)); exact BK222.out)) : gb222 ≠ gb241))
         have n11_ := mk0 ((by rw [hg]; exact Nat.ne_of_gt (blk_lt (g := gb222) (o := .cells #[.int .i64 a1_0, .int .i64 a1_1, .int .i64 a1_2, .int .i64 a1_3, .int .i64 a1_4] 46 (0, 0)) (by (with_reducible repeat (first | refine kN ?_ _ | refine kD ?_ | refine kA ?_ _)); exact BK222.out)) : gb241 ≠ gb222))
         have n12_ := mk0 ((by rw [hg]; exact Nat.ne_of_lt (blk_lt (g := gb240) (o := .cells #[.int .i64 0, .int .i64 0, .int .i64 0, .int .i64 0, .int .i64 0, .int .i64 0] 30 (0, 0)) (by (with_reducible repeat (first | refine kN ?_ _ | refine kD ?_ | refine kA ?_ _)); exact BK240.out)) : gb240 ≠ gb241))
         have n13_ := mk0 ((by rw [hg]; exact Nat.ne_of_gt (blk_lt (g := gb240) (o := .cells #[.int .i64 0, .int .i64 0, .int .i64 0, .int .i64 0, .int .i64 0, .int .i64 0] 30 (0, 0)) (by (with_reducible repeat (first | refine kN ?_ _ | refine kD ?_ | refine kA ?_ _)); exact BK240.out)) : gb241 ≠ gb240))
         have n14_ := mk0 ((by rw [hg]; exact Nat.ne_of_lt (IsS60.lt (show IsS60 w _ g225 t232 from by repeat (first | (with_reducible first | exact HI225.out | apply IsS60.alloc | apply IsS60.drewN | apply IsS60.drew | apply IsS60.set_0 | (focus (refine IsS60.far ?_ ?_ _; rotate_left; (focus ((repeat (first | (with_reducible exact Nsty.of BK221.out rfl) | apply Nsty.set | apply Nsty.drewN | apply Nsty.drew | apply Nsty.alloc)); done)))) | (focus (refine IsS60.far ?_ ?_ _; rotate_left; (focus ((repeat (first | (with_reducible exact Nsty.of BK222.out rfl) | apply Nsty.set | apply Nsty.drewN | apply Nsty.drew | apply Nsty.alloc)); done)))) | (focus (refine IsS60.far ?_ ?_ _; rotate_left; (focus ((repeat (first | (with_reducible exact Nsty.of BK240.out rfl) | apply Nsty.set | apply Nsty.drewN | apply Nsty.drew | apply Nsty.alloc)); done))))) | exact HI225.out))) : g225 ≠ gb241))
         have n15_ := mk0 ((by rw [hg]; exact Nat.ne_of_gt (IsS60.lt (show IsS60 w _ g225 t232 from by repeat (first | (with_reducible first | exact HI225.out | apply IsS60.alloc | apply IsS60.drewN | apply IsS60.drew | apply IsS60.set_0 | (focus (refine IsS60.far ?_ ?_ _; rotate_left; (focus ((repeat (first | (with_reducible exact Nsty.of BK221.out rfl) | apply Nsty.set | apply Nsty.drewN | apply Nsty.drew | apply Nsty.alloc)); done)))) | (focus (refine IsS60.far ?_ ?_ _; rotate_left; (focus ((repeat (first | (with_reducible exact Nsty.of BK222.out rfl) | apply Nsty.set | apply Nsty.drewN | apply Nsty.drew | apply Nsty.alloc)); done)))) | (focus (refine IsS60.far ?_ ?_ _; rotate_left; (focus ((repeat (first | (with_reducible exact Nsty.of BK240.out rfl) | apply Nsty.set | apply Nsty.drewN | apply Nsty.drew | apply Nsty.alloc)); done))))) | exact HI225.out))) : gb241 ≠ g225))
         clear BK221
         clear BK222
         clear HI225
         clear BK240
         clear HB
         have BK221 := n0_
         have BK222 := n1_
         have HI225 := n2_
         have BK240 := n3_
         have HB := n4_
         have BK241 := n5_
         have GW241 := n6_
         have GE241 := n7_
         have NB221_241 := n8_
         have NB241_221 := n9_
         have NB222_241 := n10_
         have NB241_222 := n11_
         have NB240_241 := n12_
         have NB241_240 := n13_
         have NB225_241 := n14_
         have NB241_225 := n15_
         clear n0_ n1_ n2_ n3_ n4_ n5_ n6_ n7_ n8_ n9_ n10_ n11_ n12_ n13_ n14_ n15_
         clear hb hbox hg
         refine hK.out _ _ ⟨(kC BK221.out 0).trans rfl, (kC BK221.out 1).trans rfl, (kC BK221.out 2).trans rfl, (kC BK221.out 3).trans rfl, (kC BK221.out 4).trans rfl, (kC BK222.out 0).trans rfl, (kC BK222.out 1).trans rfl, (kC BK222.out 2).trans rfl, (kC BK222.out 3).trans rfl, (kC BK222.out 4).trans rfl⟩ (fun hHeld => ?_)
         clear hK K
         refine norm_ (a' := ?_) ?_ ?_
         rotate_left
         ·
          show Act.put _ (some 9) _ = _
          simp only [Act.put, sB, sZ, sS, i64_w, i32_w]
          rfl
         exact norm_ (by first | (simp only [putAll, Act.put, sB, sZ, sS]; done) | (simp only [putAll, Act.put, sB, sZ, sS]; rfl)) (hJ11_24_25 (gb240, gb241) _ ⟨hHeld, (by (with_reducible repeat (first |refine kN ?_ _ |refine kD ?_ |refine kA ?_ _)); exact BK221.out), (by (with_reducible repeat (first |refine kN ?_ _ |refine kD ?_ |refine kA ?_ _)); exact BK222.out), (by (with_reducible repeat (first |refine kN ?_ _ |refine kD ?_ |refine kA ?_ _)); exact BK240.out), (by (with_reducible repeat (first |refine kN ?_ _ |refine kD ?_ |refine kA ?_ _)); exact BK241.out), GW240.out, GE240.out, NB225_240.out, NB240_225.out, NB221_240.out, NB240_221.out, NB222_240.out, NB240_222.out, NB241_240.out, NB240_241.out, GW241.out, GE241.out, NB225_241.out, NB241_225.out, NB221_241.out, NB241_221.out, NB222_241.out, NB241_222.out, (by repeat (first | (with_reducible first |exact HI225.out |apply IsS60.alloc |apply IsS60.drewN |apply IsS60.drew |apply IsS60.set_0 | (focus (refine IsS60.far ?_ ?_ _; rotate_left; (focus ((repeat (first | (with_reducible exact Nsty.of BK221.out rfl) |apply Nsty.set |apply Nsty.drewN |apply Nsty.drew |apply Nsty.alloc)); done)))) | (focus (refine IsS60.far ?_ ?_ _; rotate_left; (focus ((repeat (first | (with_reducible exact Nsty.of BK222.out rfl) |apply Nsty.set |apply Nsty.drewN |apply Nsty.drew |apply Nsty.alloc)); done)))) | (focus (refine IsS60.far ?_ ?_ _; rotate_left; (focus ((repeat (first | (with_reducible exact Nsty.of BK240.out rfl) |apply Nsty.set |apply Nsty.drewN |apply Nsty.drew |apply Nsty.alloc)); done)))) | (focus (refine IsS60.far ?_ ?_ _; rotate_left; (focus ((repeat (first | (with_reducible exact Nsty.of BK241.out rfl) |apply Nsty.set |apply Nsty.drewN |apply Nsty.drew |apply Nsty.alloc)); done))))) |exact HI225.out)), (by repeat (first | (with_reducible first |exact HB.out |apply below_alloc |apply pw_below_drewN |apply below_drew1 |refine bS ?_ (IsS60.ge HI225.out) |refine bS ?_ GE221.out |refine bS ?_ GE222.out |refine bS ?_ GE240.out |refine bS ?_ GE241.out) |exact HB.out))⟩)
        skip
        rintro _ w113 ⟨hS_, h0_, h1_, h2_, h3_⟩
        have n0_ : Aside0 (w113.heap[gb221]? = some (.cells #[.int .i64 a0_0, .int .i64 a0_1, .int .i64 a0_2, .int .i64 a0_3, .int .i64 a0_4] 46 (0, 0))) := ⟨h0_⟩
        have n1_ : Aside0 (w113.heap[gb222]? = some (.cells #[.int .i64 a1_0, .int .i64 a1_1, .int .i64 a1_2, .int .i64 a1_3, .int .i64 a1_4] 46 (0, 0))) := ⟨h1_⟩
        have n2_ : Aside0 (IsS60 w w113 g225 t239) := ⟨h2_⟩
        have n3_ : Aside0 (Below w.heap.size w w113) := ⟨h3_⟩
        clear BK221
        clear BK222
        clear HI225
        clear HB
        clear h0_ h1_ h2_ h3_
        have BK221 := n0_
        have BK222 := n1_
        have HI225 := n2_
        have HB := n3_
        clear n0_ n1_ n2_ n3_
        have hHeld : w113.cell? ⟨gb221, 0, none⟩ = some (.int .i64 a0_0) ∧ w113.cell? ⟨gb221, 1, none⟩ = some (.int .i64 a0_1) ∧ w113.cell? ⟨gb221, 2, none⟩ = some (.int .i64 a0_2) ∧ w113.cell? ⟨gb221, 3, none⟩ = some (.int .i64 a0_3) ∧ w113.cell? ⟨gb221, 4, none⟩ = some (.int .i64 a0_4) ∧ w113.cell? ⟨gb222, 0, none⟩ = some (.int .i64 a1_0) ∧ w113.cell? ⟨gb222, 1, none⟩ = some (.int .i64 a1_1) ∧ w113.cell? ⟨gb222, 2, none⟩ = some (.int .i64 a1_2) ∧ w113.cell? ⟨gb222, 3, none⟩ = some (.int .i64 a1_3) ∧ w113.cell? ⟨gb222, 4, none⟩ = some (.int .i64 a1_4) := hS_
        refine norm_ (a' := ?_) ?_ ?_
        rotate_left
        ·
         simp only [putAll, Act.put, sB, sZ, sS]
         rfl
        refine two_ (i := 24) (j := 25) (Ni := some 8) (Nj := some 9) #[true,true,true,true,true,true,true,true,true,true,true,true,true,true,true,true,true,true,true,true,true,true,true,true,true,false,false,false] #[true,true,true,true,true,true,true,true,true,true,true,true,true,true,true,true,true,true,true,true,true,true,true,true,false,true,false,false] rfl rfl rfl rfl (two_of HT_.out (by kernel_rfl)) (by decide) (by decide) (fun K hK => ?_) (fun K hK => ?_)
        ·
         skip
         refine box_step ?hg (N := 8) ?hd (cs := #[.int .i64 0, .int .i64 0, .int .i64 0, .int .i64 0, .int .i64 0, .int .i64 0]) (t := 30) ?hr ?_; (case hd => rfl); (case hg => rfl); (case hr => first | (go_simp; done) | (go_simp; rfl))
         intro gb240 hg w114 hbox hb
         have n0_ := mk0 (blk_below (g := gb221) (o := .cells #[.int .i64 a0_0, .int .i64 a0_1, .int .i64 a0_2, .int .i64 a0_3, .int .i64 a0_4] 46 (0, 0)) (by (with_reducible repeat (first | refine kN ?_ _ | refine kD ?_ | refine kA ?_ _)); exact BK221.out) hb)
         have n1_ := mk0 (blk_below (g := gb222) (o := .cells #[.int .i64 a1_0, .int .i64 a1_1, .int .i64 a1_2, .int .i64 a1_3, .int .i64 a1_4] 46 (0, 0)) (by (with_reducible repeat (first | refine kN ?_ _ | refine kD ?_ | refine kA ?_ _)); exact BK222.out) hb)
         have n2_ := mk0 (IsS60.below (by repeat (first | (with_reducible first | exact HI225.out | apply IsS60.alloc | apply IsS60.drewN | apply IsS60.drew | apply IsS60.set_0 | (focus (refine IsS60.far ?_ ?_ _; rotate_left; (focus ((repeat (first | (with_reducible exact Nsty.of BK221.out rfl) | apply Nsty.set | apply Nsty.drewN | apply Nsty.drew | apply Nsty.alloc)); done)))) | (focus (refine IsS60.far ?_ ?_ _; rotate_left; (focus ((repeat (first | (with_reducible exact Nsty.of BK222.out rfl) | apply Nsty.set | apply Nsty.drewN | apply Nsty.drew | apply Nsty.alloc)); done))))) | exact HI225.out)) hb)
         have n3_ := mk0 (below_step (by repeat (first | (with_reducible first | exact HB.out | apply below_alloc | apply pw_below_drewN | apply below_drew1 | refine bS ?_ (IsS60.ge HI225.out) | refine bS ?_ GE221.out | refine bS ?_ GE222.out) | exact HB.out)) hb)
         have n4_ := mk0 (hbox)
         have n5_ := mk0 ((by rw [hg]; exact (below_size (by repeat (first | (with_reducible first | exact HB.out | apply below_alloc | apply pw_below_drewN | apply below_drew1 | refine bS ?_ (IsS60.ge HI225.out) | refine bS ?_ GE221.out | refine bS ?_ GE222.out) | exact HB.out))) : w.heap.size ≤ gb240))
         have n6_ := mk0 ((by rw [hg]; exact (below_size (by repeat (first | (with_reducible first | exact HB.out | apply below_alloc | apply pw_below_drewN | apply below_drew1 | refine bS ?_ (IsS60.ge HI225.out) | refine bS ?_ GE221.out | refine bS ?_ GE222.out) | exact HB.out))) : w.heap.size ≤ gb240))
         have n7_ := mk0 ((by rw [hg]; exact Nat.ne_of_lt (blk_lt (g := gb221) (o := .cells #[.int .i64 a0_0, .int .i64 a0_1, .int .i64 a0_2, .int .i64 a0_3, .int .i64 a0_4] 46 (0, 0)) (by (with_reducible repeat (first | refine kN ?_ _ | refine kD ?_ | refine kA ?_ _)); exact BK221.out)) : gb221 ≠ gb240))
         have n8_ := mk0 ((by rw [hg]; exact Nat.ne_of_gt (blk_lt (g := gb221) (o := .cells #[.int .i64 a0_0, .int .i64 a0_1, .int .i64 a0_2, .int .i64 a0_3, .int .i64 a0_4] 46 (0, 0)) (by (with_reducible repeat (first | refine kN ?_ _ | refine kD ?_ | refine kA ?_ _)); exact BK221.out)) : gb240 ≠ gb221))
         have n9_ := mk0 ((by rw [hg]; exact Nat.ne_of_lt (blk_lt (g := gb222) (o := .cells #[.int .i64 a1_0, .int .i64 a1_1, .int .i64 a1_2, .int .i64 a1_3, .int .i64 a1_4] 46 (0, 0)) (by (with_reducible repeat (first | refine kN ?_ _ | refine kD ?_ | refine kA ?_ _)); exact BK222.out)) : gb222 ≠ gb240))
         have n10_ := mk0 ((by rw [hg]; exact Nat.ne_of_gt (blk_lt (g := gb222) (o := .cells #[.int .i64 a1_0, .int .i64 a1_1, .int .i64 a1_2, .int .i64 a1_3, .int .i64 a1_4] 46 (0, 0)) (by (with_reducible repeat (first | refine kN ?_ _ | refine kD ?_ | refine kA ?_ _)); exact BK222.out)) : gb240 ≠ gb222))
         have n11_ := mk0 ((by rw [hg]; exact Nat.ne_of_lt (IsS60.lt (show IsS60 w _ g225 t239 from by repeat (first | (with_reducible first | exact HI225.out | apply IsS60.alloc | apply IsS60.drewN | apply IsS60.drew | apply IsS60.set_0 | (focus (refine IsS60.far ?_ ?_ _; rotate_left; (focus ((repeat (first | (with_reducible exact Nsty.of BK221.out rfl) | apply Nsty.set | apply Nsty.drewN | apply Nsty.drew | apply Nsty.alloc)); done)))) | (focus (refine IsS60.far ?_ ?_ _; rotate_left; (focus ((repeat (first | (with_reducible exact Nsty.of BK222.out rfl) | apply Nsty.set | apply Nsty.drewN | apply Nsty.drew | apply Nsty.alloc)); done))))) | exact HI225.out))) : g225 ≠ gb240))
         have n12_ := mk0 ((by rw [hg]; exact Nat.ne_of_gt (IsS60.lt (show IsS60 w _ g225 t239 from by repeat (first | (with_reducible first | exact HI225.out | apply IsS60.alloc | apply IsS60.drewN | apply IsS60.drew | apply IsS60.set_0 | (focus (refine IsS60.far ?_ ?_ _; rotate_left; (focus ((repeat (first | (with_reducible exact Nsty.of BK221.out rfl) | apply Nsty.set | apply Nsty.drewN | apply Nsty.drew | apply Nsty.alloc)); done)))) | (focus (refine IsS60.far ?_ ?_ _; rotate_left; (focus ((repeat (first | (with_reducible exact Nsty.of BK222.out rfl) | apply Nsty.set | apply Nsty.drewN | apply Nsty.drew | apply Nsty.alloc)); done))))) | exact HI225.out))) : gb240 ≠ g225))
         clear BK221
         clear BK222
         clear HI225
         clear HB
         have BK221 := n0_
         have BK222 := n1_
         have HI225 := n2_
         have HB := n3_
         have BK240 := n4_
         have GW240 := n5_
         have GE240 := n6_
         have NB221_240 := n7_
         have NB240_221 := n8_
         have NB222_240 := n9_
         have NB240_222 := n10_
         have NB225_240 := n11_
         have NB240_225 := n12_
         clear n0_ n1_ n2_ n3_ n4_ n5_ n6_ n7_ n8_ n9_ n10_ n11_ n12_
         clear hb hbox hg
         refine hK.out _ _ ⟨(kC BK221.out 0).trans rfl, (kC BK221.out 1).trans rfl, (kC BK221.out 2).trans rfl, (kC BK221.out 3).trans rfl, (kC BK221.out 4).trans rfl, (kC BK222.out 0).trans rfl, (kC BK222.out 1).trans rfl, (kC BK222.out 2).trans rfl, (kC BK222.out 3).trans rfl, (kC BK222.out 4).trans rfl⟩ (fun hHeld => ?_)
         clear hK K
         refine norm_ (a' := ?_) ?_ ?_
         rotate_left
         ·
          show Act.put _ (some 8) _ = _
          simp only [Act.put, sB, sZ, sS, i64_w, i32_w]
          rfl
         exact norm_ (by first | (simp only [putAll, Act.put, sB, sZ, sS]; done) | (simp only [putAll, Act.put, sB, sZ, sS]; rfl)) (hJ11_23_24 (gb240) _ ⟨hHeld, (by (with_reducible repeat (first | refine kN ?_ _ | refine kD ?_ | refine kA ?_ _)); exact BK221.out), (by (with_reducible repeat (first | refine kN ?_ _ | refine kD ?_ | refine kA ?_ _)); exact BK222.out), (by (with_reducible repeat (first | refine kN ?_ _ | refine kD ?_ | refine kA ?_ _)); exact BK240.out), GW240.out, GE240.out, NB225_240.out, NB240_225.out, NB221_240.out, NB240_221.out, NB222_240.out, NB240_222.out, (by repeat (first | (with_reducible first | exact HI225.out | apply IsS60.alloc | apply IsS60.drewN | apply IsS60.drew | apply IsS60.set_0 | (focus (refine IsS60.far ?_ ?_ _; rotate_left; (focus ((repeat (first | (with_reducible exact Nsty.of BK221.out rfl) | apply Nsty.set | apply Nsty.drewN | apply Nsty.drew | apply Nsty.alloc)); done)))) | (focus (refine IsS60.far ?_ ?_ _; rotate_left; (focus ((repeat (first | (with_reducible exact Nsty.of BK222.out rfl) | apply Nsty.set | apply Nsty.drewN | apply Nsty.drew | apply Nsty.alloc)); done)))) | (focus (refine IsS60.far ?_ ?_ _; rotate_left; (focus ((repeat (first | (with_reducible exact Nsty.of BK240.out rfl) | apply Nsty.set | apply Nsty.drewN | apply Nsty.drew | apply Nsty.alloc)); done))))) | exact HI225.out)), (by repeat (first | (with_reducible first | exact HB.out | apply below_alloc | apply pw_below_drewN | apply below_drew1 | refine bS ?_ (IsS60.ge HI225.out) | refine bS ?_ GE221.out | refine bS ?_ GE222.out | refine bS ?_ GE240.out) | exact HB.out))⟩)
        skip
        refine box_step ?hg (N := 9) ?hd (cs := #[.int .i64 0, .int .i64 0, .int .i64 0, .int .i64 0, .int .i64 0, .int .i64 0]) (t := 30) ?hr ?_; (case hd => rfl); (case hg => rfl); (case hr => first | (go_simp; done) | (go_simp; rfl))
        intro gb241 hg w114 hbox hb
        have n0_ := mk0 (blk_below (g := gb221) (o := .cells #[.int .i64 a0_0, .int .i64 a0_1, .int .i64 a0_2, .int .i64 a0_3, .int .i64 a0_4] 46 (0, 0)) (by (with_reducible repeat (first | refine kN ?_ _ | refine kD ?_ | refine kA ?_ _)); exact BK221.out) hb)
        have n1_ := mk0 (blk_below (g := gb222) (o := .cells #[.int .i64 a1_0, .int .i64 a1_1, .int .i64 a1_2, .int .i64 a1_3, .int .i64 a1_4] 46 (0, 0)) (by (with_reducible repeat (first | refine kN ?_ _ | refine kD ?_ | refine kA ?_ _)); exact BK222.out) hb)
        have n2_ := mk0 (IsS60.below (by repeat (first | (with_reducible first | exact HI225.out | apply IsS60.alloc | apply IsS60.drewN | apply IsS60.drew | apply IsS60.set_0 | (focus (refine IsS60.far ?_ ?_ _; rotate_left; (focus ((repeat (first | (with_reducible exact Nsty.of BK221.out rfl) | apply Nsty.set | apply Nsty.drewN | apply Nsty.drew | apply Nsty.alloc)); done)))) | (focus (refine IsS60.far ?_ ?_ _; rotate_left; (focus ((repeat (first | (with_reducible exact Nsty.of BK222.out rfl) | apply Nsty.set | apply Nsty.drewN | apply Nsty.drew | apply Nsty.alloc)); done))))) | exact HI225.out)) hb)
        have n3_ := mk0 (below_step (by repeat (first | (with_reducible first | exact HB.out | apply below_alloc | apply pw_below_drewN | apply below_drew1 | refine bS ?_ (IsS60.ge HI225.out) | refine bS ?_ GE221.out | refine bS ?_ GE222.out) | exact HB.out)) hb)
        have n4_ := mk0 (hbox)
        have n5_ := mk0 ((by rw [hg]; exact (below_size (by repeat (first | (with_reducible first | exact HB.out | apply below_alloc | apply pw_below_drewN | apply below_drew1 | refine bS ?_ (IsS60.ge HI225.out) | refine bS ?_ GE221.out | refine bS ?_ GE222.out) | exact HB.out))) : w.heap.size ≤ gb241))
        have n6_ := mk0 ((by rw [hg]; exact (below_size (by repeat (first | (with_reducible first | exact HB.out | apply below_alloc | apply pw_below_drewN | apply below_drew1 | refine bS ?_ (IsS60.ge HI225.out) | refine bS ?_ GE221.out | refine bS ?_ GE222.out) | exact HB.out))) : w.heap.size ≤ gb241))
        have n7_ := mk0 ((by rw [hg]; exact Nat.ne_of_lt (blk_lt (g := gb221) (o := .cells #[.int .i64 a0_0, .int .i64 a0_1, .int .i64 a0_2, .int .i64 a0_3, .int .i64 a0_4] 46 (0, 0)) (by (with_reducible repeat (first | refine kN ?_ _ | refine kD ?_ | refine kA ?_ _)); exact BK221.out)) : gb221 ≠ gb241))
        have n8_ := mk0 ((by rw [hg]; exact Nat.ne_of_gt (blk_lt (g := gb221) (o := .cells #[.int .i64 a0_0, .int .i64 a0_1, .int .i64 a0_2, .int .i64 a0_3, .int .i64 a0_4] 46 (0, 0)) (by (with_reducible repeat (first | refine kN ?_ _ | refine kD ?_ | refine kA ?_ _)); exact BK221.out)) : gb241 ≠ gb221))
        have n9_ := mk0 ((by rw [hg]; exact Nat.ne_of_lt (blk_lt (g := gb222) (o := .cells #[.int .i64 a1_0, .int .i64 a1_1, .int .i64 a1_2, .int .i64 a1_3, .int .i64 a1_4] 46 (0, 0)) (by (with_reducible repeat (first | refine kN ?_ _ | refine kD ?_ | refine kA ?_ _)); exact BK222.out)) : gb222 ≠ gb241))
        have n10_ := mk0 ((by rw [hg]; exact Nat.ne_of_gt (blk_lt (g := gb222) (o := .cells #[.int .i64 a1_0, .int .i64 a1_1, .int .i64 a1_2, .int .i64 a1_3, .int .i64 a1_4] 46 (0, 0)) (by (with_reducible repeat (first | refine kN ?_ _ | refine kD ?_ | refine kA ?_ _)); exact BK222.out)) : gb241 ≠ gb222))
        have n11_ := mk0 ((by rw [hg]; exact Nat.ne_of_lt (IsS60.lt (show IsS60 w _ g225 t239 from by repeat (first | (with_reducible first | exact HI225.out | apply IsS60.alloc | apply IsS60.drewN | apply IsS60.drew | apply IsS60.set_0 | (focus (refine IsS60.far ?_ ?_ _; rotate_left; (focus ((repeat (first | (with_reducible exact Nsty.of BK221.out rfl) | apply Nsty.set | apply Nsty.drewN | apply Nsty.drew | apply Nsty.alloc)); done)))) | (focus (refine IsS60.far ?_ ?_ _; rotate_left; (focus ((repeat (first | (with_reducible exact Nsty.of BK222.out rfl) | apply Nsty.set | apply Nsty.drewN | apply Nsty.drew | apply Nsty.alloc)); done))))) | exact HI225.out))) : g225 ≠ gb241))
        have n12_ := mk0 ((by rw [hg]; exact Nat.ne_of_gt (IsS60.lt (show IsS60 w _ g225 t239 from by repeat (first | (with_reducible first | exact HI225.out | apply IsS60.alloc | apply IsS60.drewN | apply IsS60.drew | apply IsS60.set_0 | (focus (refine IsS60.far ?_ ?_ _; rotate_left; (focus ((repeat (first | (with_reducible exact Nsty.of BK221.out rfl) | apply Nsty.set | apply Nsty.drewN | apply Nsty.drew | apply Nsty.alloc)); done)))) | (focus (refine IsS60.far ?_ ?_ _; rotate_left; (focus ((repeat (first | (with_reducible exact Nsty.of BK222.out rfl) | apply Nsty.set | apply Nsty.drewN | apply Nsty.drew | apply Nsty.alloc)); done))))) | exact HI225.out))) : gb241 ≠ g225))
        clear BK221
        clear BK222
        clear HI225
        clear HB
        have BK221 := n0_
        have BK222 := n1_
        have HI225 := n2_
        have HB := n3_
        have BK241 := n4_
        have GW241 := n5_
        have GE241 := n6_
        have NB221_241 := n7_
        have NB241_221 := n8_
        have NB222_241 := n9_
        have NB241_222 := n10_
        have NB225_241 := n11_
        have NB241_225 := n12_
        clear n0_ n1_ n2_ n3_ n4_ n5_ n6_ n7_ n8_ n9_ n10_ n11_ n12_
        clear hb hbox hg
        refine hK.out _ _ ⟨(kC BK221.out 0).trans rfl, (kC BK221.out 1).trans rfl, (kC BK221.out 2).trans rfl, (kC BK221.out 3).trans rfl, (kC BK221.out 4).trans rfl, (kC BK222.out 0).trans rfl, (kC BK222.out 1).trans rfl, (kC BK222.out 2).trans rfl, (kC BK222.out 3).trans rfl, (kC BK222.out 4).trans rfl⟩ (fun hHeld => ?_)
        clear hK K
        refine norm_ (a' := ?_) ?_ ?_
        rotate_left
        ·
         show Act.put _ (some 9) _ = _
         simp only [Act.put, sB, sZ, sS, i64_w, i32_w]
         rfl
        exact norm_ (by first | (simp only [putAll, Act.put, sB, sZ, sS]; done) | (simp only [putAll, Act.put, sB, sZ, sS]; rfl)) (hJ11_23_25 (gb241) _ ⟨hHeld, (by (with_reducible repeat (first | refine kN ?_ _ | refine kD ?_ | refine kA ?_ _)); exact BK221.out), (by (with_reducible repeat (first | refine kN ?_ _ | refine kD ?_ | refine kA ?_ _)); exact BK222.out), (by (with_reducible repeat (first | refine kN ?_ _ | refine kD ?_ | refine kA ?_ _)); exact BK241.out), GW241.out, GE241.out, NB225_241.out, NB241_225.out, NB221_241.out, NB241_221.out, NB222_241.out, NB241_222.out, (by repeat (first | (with_reducible first | exact HI225.out | apply IsS60.alloc | apply IsS60.drewN | apply IsS60.drew | apply IsS60.set_0 | (focus (refine IsS60.far ?_ ?_ _; rotate_left; (focus ((repeat (first | (with_reducible exact Nsty.of BK221.out rfl) | apply Nsty.set | apply Nsty.drewN | apply Nsty.drew | apply Nsty.alloc)); done)))) | (focus (refine IsS60.far ?_ ?_ _; rotate_left; (focus ((repeat (first | (with_reducible exact Nsty.of BK222.out rfl) | apply Nsty.set | apply Nsty.drewN | apply Nsty.drew | apply Nsty.alloc)); done)))) | (focus (refine IsS60.far ?_ ?_ _; rotate_left; (focus ((repeat (first | (with_reducible exact Nsty.of BK241.out rfl) | apply Nsty.set | apply Nsty.drewN | apply Nsty.drew | apply Nsty.alloc)); done))))) | exact HI225.out)), (by repeat (first | (with_reducible first | exact HB.out | apply below_alloc | apply pw_below_drewN | apply below_drew1 | refine bS ?_ (IsS60.ge HI225.out) | refine bS ?_ GE221.out | refine bS ?_ GE222.out | refine bS ?_ GE241.out) | exact HB.out))⟩)
       skip
       rintro ⟨gb240, gb241⟩ w114 ⟨hS_, h0_, h1_, h2_, h3_, h4_, h5_, h6_, h7_, h8_, h9_, h10_, h11_, h12_, h13_, h14_, h15_, h16_, h17_, h18_, h19_, h20_, h21_, h22_, h23_⟩
       have n0_ : Aside0 (w114.heap[gb221]? = some (.cells #[.int .i64 a0_0, .int .i64 a0_1, .int .i64 a0_2, .int .i64 a0_3, .int .i64 a0_4] 46 (0, 0))) := ⟨h0_⟩
       have n1_ : Aside0 (w114.heap[gb222]? = some (.cells #[.int .i64 a1_0, .int .i64 a1_1, .int .i64 a1_2, .int .i64 a1_3, .int .i64 a1_4] 46 (0, 0))) := ⟨h1_⟩
       have n2_ : Aside0 (w114.heap[gb240]? = some (.cells #[.int .i64 0, .int .i64 0, .int .i64 0, .int .i64 0, .int .i64 0, .int .i64 0] 30 (0, 0))) := ⟨h2_⟩
       have n3_ : Aside0 (w114.heap[gb241]? = some (.cells #[.int .i64 0, .int .i64 0, .int .i64 0, .int .i64 0, .int .i64 0, .int .i64 0] 30 (0, 0))) := ⟨h3_⟩
       have n4_ : Aside0 (w.heap.size ≤ gb240) := ⟨h4_⟩
       have n5_ : Aside0 (w.heap.size ≤ gb240) := ⟨h5_⟩
       have n6_ : Aside0 (g225 ≠ gb240) := ⟨h6_⟩
       have n7_ : Aside0 (gb240 ≠ g225) := ⟨h7_⟩
       have n8_ : Aside0 (gb221 ≠ gb240) := ⟨h8_⟩
       have n9_ : Aside0 (gb240 ≠ gb221) := ⟨h9_⟩
       have n10_ : Aside0 (gb222 ≠ gb240) := ⟨h10_⟩
       have n11_ : Aside0 (gb240 ≠ gb222) := ⟨h11_⟩
       have n12_ : Aside0 (gb241 ≠ gb240) := ⟨h12_⟩
       have n13_ : Aside0 (gb240 ≠ gb241) := ⟨h13_⟩
       have n14_ : Aside0 (w.heap.size ≤ gb241) := ⟨h14_⟩
       have n15_ : Aside0 (w.heap.size ≤ gb241) := ⟨h15_⟩
       have n16_ : Aside0 (g225 ≠ gb241) := ⟨h16_⟩
       have n17_ : Aside0 (gb241 ≠ g225) := ⟨h17_⟩
       have n18_ : Aside0 (gb221 ≠ gb241) := ⟨h18_⟩
       have n19_ : Aside0 (gb241 ≠ gb221) := ⟨h19_⟩
       have n20_ : Aside0 (gb222 ≠ gb241) := ⟨h20_⟩
       have n21_ : Aside0 (gb241 ≠ gb222) := ⟨h21_⟩
       have n22_ : Aside0 (IsS60 w w114 g225 t232) := ⟨h22_⟩
       have n23_ : Aside0 (Below w.heap.size w w114) := ⟨h23_⟩
       clear BK221
       clear BK222
       clear HI225
       clear HB
       clear h0_ h1_ h2_ h3_ h4_ h5_ h6_ h7_ h8_ h9_ h10_ h11_ h12_ h13_ h14_ h15_ h16_ h17_ h18_ h19_ h20_ h21_ h22_ h23_
       have BK221 := n0_
       have BK222 := n1_
       have BK240 := n2_
       have BK241 := n3_
       have GW240 := n4_
       have GE240 := n5_
       have NB225_240 := n6_
       have NB240_225 := n7_
       have NB221_240 := n8_
       have NB240_221 := n9_
       have NB222_240 := n10_
       have NB240_222 := n11_
       have NB241_240 := n12_
       have NB240_241 := n13_
       have GW241 := n14_
       have GE241 := n15_
       have NB225_241 := n16_
       have NB241_225 := n17_
       have NB221_241 := n18_
       have NB241_221 := n19_
       have NB222_241 := n20_
       have NB241_222 := n21_
       have HI225 := n22_
       have HB := n23_
       clear n0_ n1_ n2_ n3_ n4_ n5_ n6_ n7_ n8_ n9_ n10_ n11_ n12_ n13_ n14_ n15_ n16_ n17_ n18_ n19_ n20_ n21_ n22_ n23_
       have hHeld : w114.cell? ⟨gb221, 0, none⟩ = some (.int .i64 a0_0) ∧ w114.cell? ⟨gb221, 1, none⟩ = some (.int .i64 a0_1) ∧ w114.cell? ⟨gb221, 2, none⟩ = some (.int .i64 a0_2) ∧ w114.cell? ⟨gb221, 3, none⟩ = some (.int .i64 a0_3) ∧ w114.cell? ⟨gb221, 4, none⟩ = some (.int .i64 a0_4) ∧ w114.cell? ⟨gb222, 0, none⟩ = some (.int .i64 a1_0) ∧ w114.cell? ⟨gb222, 1, none⟩ = some (.int .i64 a1_1) ∧ w114.cell? ⟨gb222, 2, none⟩ = some (.int .i64 a1_2) ∧ w114.cell? ⟨gb222, 3, none⟩ = some (.int .i64 a1_3) ∧ w114.cell? ⟨gb222, 4, none⟩ = some (.int .i64 a1_4) := hS_
       refine norm_ (a' := ?_) ?_ ?_
       rotate_left
       ·
        simp only [putAll, Act.put, sB, sZ, sS]
        rfl
       refine one_ (i := 23) (N := some 69) #[true,true,true,true,true,true,true,true,true,true,true,true,true,true,true,true,true,true,true,true,true,true,true,true,true,true,false,false] rfl rfl (one_of HT_.out (by kernel_rfl)) (by decide) (fun K hK => ?_)
       refine goes_ Tryd.func10 (by kernel_rfl) rfl #[.pointer (some ⟨g225, 0, none⟩), .int .i64 a1_0, .int .i64 a1_2, .int .i64 a1_3, .int .i64 a1_4, .int .i64 a1_1] (by rfl) rfl rfl (by (try simp only [List.map_toArray, List.map_cons, List.map_nil]); first | done | rfl | (simp only [List.length_drop, List.length_take]; rfl)) ?_
       with_reducible refine (card_Make.calls (hrG := ?sideG) k g225 t232 a1_0 a1_2 a1_3 a1_4 a1_1 t233 t234 t235 t236 t237 t238 t239 w _ ?side1 ?side2 A55.out).mono ?_
       (case sideG => (first | (with_reducible exact HRG.out) | exact TabG.below HRG.out (by repeat (first | (with_reducible first | exact HB.out | apply below_alloc | apply pw_below_drewN | apply below_drew1 | refine bS ?_ (IsS60.ge HI225.out) | refine bS ?_ GE221.out | refine bS ?_ GE222.out | refine bS ?_ GE240.out | refine bS ?_ GE241.out) | (with_reducible exact Below.refl _ _)))))
       (case side1 => repeat (first | (with_reducible first | exact HI225.out | apply IsS60.alloc | apply IsS60.drewN | apply IsS60.drew | apply IsS60.set_0 | (focus (refine IsS60.far ?_ ?_ _; rotate_left; (focus ((repeat (first | (with_reducible exact Nsty.of BK221.out rfl) | apply Nsty.set | apply Nsty.drewN | apply Nsty.drew | apply Nsty.alloc)); done)))) | (focus (refine IsS60.far ?_ ?_ _; rotate_left; (focus ((repeat (first | (with_reducible exact Nsty.of BK222.out rfl) | apply Nsty.set | apply Nsty.drewN | apply Nsty.drew | apply Nsty.alloc)); done)))) | (focus (refine IsS60.far ?_ ?_ _; rotate_left; (focus ((repeat (first | (with_reducible exact Nsty.of BK240.out rfl) | apply Nsty.set | apply Nsty.drewN | apply Nsty.drew | apply Nsty.alloc)); done)))) | (focus (refine IsS60.far ?_ ?_ _; rotate_left; (focus ((repeat (first | (with_reducible exact Nsty.of BK241.out rfl) | apply Nsty.set | apply Nsty.drewN | apply Nsty.drew | apply Nsty.alloc)); done))))) | exact HI225.out))
       (case side2 => repeat (first | (with_reducible first | exact HB.out | apply below_alloc | apply pw_below_drewN | apply below_drew1 | refine bS ?_ (IsS60.ge HI225.out) | refine bS ?_ GE221.out | refine bS ?_ GE222.out | refine bS ?_ GE240.out | refine bS ?_ GE241.out) | exact HB.out))
       rintro e w115 ⟨rfl, hi, hb, hk⟩
       refine ⟨_, rfl, ?_⟩
       have n0_ := mk0 (KeepSt.blk hk (g' := gb221) (o := .cells #[.int .i64 a0_0, .int .i64 a0_1, .int .i64 a0_2, .int .i64 a0_3, .int .i64 a0_4] 46 (0, 0)) (by (with_reducible repeat (first | refine kN ?_ _ | refine kD ?_ | refine kA ?_ _)); exact BK221.out) NB221_225.out rfl)
       have n1_ := mk0 (KeepSt.blk hk (g' := gb222) (o := .cells #[.int .i64 a1_0, .int .i64 a1_1, .int .i64 a1_2, .int .i64 a1_3, .int .i64 a1_4] 46 (0, 0)) (by (with_reducible repeat (first | refine kN ?_ _ | refine kD ?_ | refine kA ?_ _)); exact BK222.out) NB222_225.out rfl)
       have n2_ := mk0 (KeepSt.blk hk (g' := gb240) (o := .cells #[.int .i64 0, .int .i64 0, .int .i64 0, .int .i64 0, .int .i64 0, .int .i64 0] 30 (0, 0)) (by (with_reducible repeat (first | refine kN ?_ _ | refine kD ?_ | refine kA ?_ _)); exact BK240.out) NB240_225.out rfl)
       have n3_ := mk0 (KeepSt.blk hk (g' := gb241) (o := .cells #[.int .i64 0, .int .i64 0, .int .i64 0, .int .i64 0, .int .i64 0, .int .i64 0] 30 (0, 0)) (by (with_reducible repeat (first | refine kN ?_ _ | refine kD ?_ | refine kA ?_ _)); exact BK241.out) NB241_225.out rfl)
       have n4_ := mk0 (hb)
       have n5_ := mk0 (hi)
       clear BK221
       clear BK222
       clear BK240
       clear BK241
       clear HB
       clear HI225
       have BK221 := n0_
       have BK222 := n1_
       have BK240 := n2_
       have BK241 := n3_
       have HB := n4_
       have HI225 := n5_
       clear n0_ n1_ n2_ n3_ n4_ n5_
       (try clear hb)
       (try clear hb2)
       (try clear hk)
       (try clear hi)
       refine hK.out _ _ ⟨(kC BK221.out 0).trans rfl, (kC BK221.out 1).trans rfl, (kC BK221.out 2).trans rfl, (kC BK221.out 3).trans rfl, (kC BK221.out 4).trans rfl, (kC BK222.out 0).trans rfl, (kC BK222.out 1).trans rfl, (kC BK222.out 2).trans rfl, (kC BK222.out 3).trans rfl, (kC BK222.out 4).trans rfl⟩ (fun hHeld => ?_)
       clear hK K
       refine norm_ (a' := ?_) ?_ ?_
       rotate_left
       ·
        show Act.put _ (some 69) _ = _
        simp only [Act.put, sB, sZ, sS, i64_w, i32_w]
        rfl
       exact norm_ (by first | (simp only [putAll, Act.put, sB, sZ, sS]; done) | (simp only [putAll, Act.put, sB, sZ, sS]; rfl)) (hJ11_23_24_25 (gb240, gb241) _ ⟨hHeld, (by (with_reducible repeat (first |refine kN ?_ _ |refine kD ?_ |refine kA ?_ _)); exact BK221.out), (by (with_reducible repeat (first |refine kN ?_ _ |refine kD ?_ |refine kA ?_ _)); exact BK222.out), (by (with_reducible repeat (first |refine kN ?_ _ |refine kD ?_ |refine kA ?_ _)); exact BK240.out), (by (with_reducible repeat (first |refine kN ?_ _ |refine kD ?_ |refine kA ?_ _)); exact BK241.out), GW240.out, GE240.out, NB225_240.out, NB240_225.out, NB221_240.out, NB240_221.out, NB222_240.out, NB240_222.out, NB241_240.out, NB240_241.out, GW241.out, GE241.out, NB225_241.out, NB241_225.out, NB221_241.out, NB241_221.out, NB222_241.out, NB241_222.out, (by repeat (first | (with_reducible first |exact HI225.out |apply IsS60.alloc |apply IsS60.drewN |apply IsS60.drew |apply IsS60.set_0 | (focus (refine IsS60.far ?_ ?_ _; rotate_left; (focus ((repeat (first | (with_reducible exact Nsty.of BK221.out rfl) |apply Nsty.set |apply Nsty.drewN |apply Nsty.drew |apply Nsty.alloc)); done)))) | (focus (refine IsS60.far ?_ ?_ _; rotate_left; (focus ((repeat (first | (with_reducible exact Nsty.of BK222.out rfl) |apply Nsty.set |apply Nsty.drewN |apply Nsty.drew |apply Nsty.alloc)); done)))) | (focus (refine IsS60.far ?_ ?_ _; rotate_left; (focus ((repeat (first | (with_reducible exact Nsty.of BK240.out rfl) |apply Nsty.set |apply Nsty.drewN |apply Nsty.drew |apply Nsty.alloc)); done)))) | (focus (refine IsS60.far ?_ ?_ _; rotate_left; (focus ((repeat (first | (with_reducible exact Nsty.of BK241.out rfl) |apply Nsty.set |apply Nsty.drewN |apply Nsty.drew |apply Nsty.alloc)); done))))) |exact HI225.out)), (by repeat (first | (with_reducible first |exact HB.out |apply below_alloc |apply pw_below_drewN |apply below_drew1 |refine bS ?_ (IsS60.ge HI225.out) |refine bS ?_ GE221.out |refine bS ?_ GE222.out |refine bS ?_ GE240.out |refine bS ?_ GE241.out) |exact HB.out))⟩)
      skip
      rintro gb241 w114 ⟨hS_, h0_, h1_, h2_, h3_, h4_, h5_, h6_, h7_, h8_, h9_, h10_, h11_, h12_⟩
      have n0_ : Aside0 (w114.heap[gb221]? = some (.cells #[.int .i64 a0_0, .int .i64 a0_1, .int .i64 a0_2, .int .i64 a0_3, .int .i64 a0_4] 46 (0, 0))) := ⟨h0_⟩
      have n1_ : Aside0 (w114.heap[gb222]? = some (.cells #[.int .i64 a1_0, .int .i64 a1_1, .int .i64 a1_2, .int .i64 a1_3, .int .i64 a1_4] 46 (0, 0))) := ⟨h1_⟩
      have n2_ : Aside0 (w114.heap[gb241]? = some (.cells #[.int .i64 0, .int .i64 0, .int .i64 0, .int .i64 0, .int .i64 0, .int .i64 0] 30 (0, 0))) := ⟨h2_⟩
      have n3_ : Aside0 (w.heap.size ≤ gb241) := ⟨h3_⟩
      have n4_ : Aside0 (w.heap.size ≤ gb241) := ⟨h4_⟩
      have n5_ : Aside0 (g225 ≠ gb241) := ⟨h5_⟩
      have n6_ : Aside0 (gb241 ≠ g225) := ⟨h6_⟩
      have n7_ : Aside0 (gb221 ≠ gb241) := ⟨h7_⟩
      have n8_ : Aside0 (gb241 ≠ gb221) := ⟨h8_⟩
      have n9_ : Aside0 (gb222 ≠ gb241) := ⟨h9_⟩
      have n10_ : Aside0 (gb241 ≠ gb222) := ⟨h10_⟩
      have n11_ : Aside0 (IsS60 w w114 g225 t239) := ⟨h11_⟩
      have n12_ : Aside0 (Below w.heap.size w w114) := ⟨h12_⟩
      clear BK221
      clear BK222
      clear HI225
      clear HB
      clear h0_ h1_ h2_ h3_ h4_ h5_ h6_ h7_ h8_ h9_ h10_ h11_ h12_
      have BK221 := n0_
      have BK222 := n1_
      have BK241 := n2_
      have GW241 := n3_
      have GE241 := n4_
      have NB225_241 := n5_
      have NB241_225 := n6_
      have NB221_241 := n7_
      have NB241_221 := n8_
      have NB222_241 := n9_
      have NB241_222 := n10_
      have HI225 := n11_
      have HB := n12_
      clear n0_ n1_ n2_ n3_ n4_ n5_ n6_ n7_ n8_ n9_ n10_ n11_ n12_
      have hHeld : w114.cell? ⟨gb221, 0, none⟩ = some (.int .i64 a0_0) ∧ w114.cell? ⟨gb221, 1, none⟩ = some (.int .i64 a0_1) ∧ w114.cell? ⟨gb221, 2, none⟩ = some (.int .i64 a0_2) ∧ w114.cell? ⟨gb221, 3, none⟩ = some (.int .i64 a0_3) ∧ w114.cell? ⟨gb221, 4, none⟩ = some (.int .i64 a0_4) ∧ w114.cell? ⟨gb222, 0, none⟩ = some (.int .i64 a1_0) ∧ w114.cell? ⟨gb222, 1, none⟩ = some (.int .i64 a1_1) ∧ w114.cell? ⟨gb222, 2, none⟩ = some (.int .i64 a1_2) ∧ w114.cell? ⟨gb222, 3, none⟩ = some (.int .i64 a1_3) ∧ w114.cell? ⟨gb222, 4, none⟩ = some (.int .i64 a1_4) := hS_
      refine norm_ (a' := ?_) ?_ ?_
      rotate_left
      ·
       simp only [putAll, Act.put, sB, sZ, sS]
       rfl
      refine one_ (i := 24) (N := some 8) #[true,true,true,true,true,true,true,true,true,true,true,true,true,true,true,true,true,true,true,true,true,true,true,true,true,true,false,false] rfl rfl (one_of HT_.out (by kernel_rfl)) (by decide) (fun K hK => ?_)
      refine box_step ?hg (N := 8) ?hd (cs := #[.int .i64 0, .int .i64 0, .int .i64 0, .int .i64 0, .int .i64 0, .int .i64 0]) (t := 30) ?hr ?_; (case hd => rfl); (case hg => rfl); (case hr => first | (go_simp; done) | (go_simp; rfl))
      intro gb240 hg w115 hbox hb
      have n0_ := mk0 (blk_below (g := gb221) (o := .cells #[.int .i64 a0_0, .int .i64 a0_1, .int .i64 a0_2, .int .i64 a0_3, .int .i64 a0_4] 46 (0, 0)) (by (with_reducible repeat (first | refine kN ?_ _ | refine kD ?_ | refine kA ?_ _)); exact BK221.out) hb)
      have n1_ := mk0 (blk_below (g := gb222) (o := .cells #[.int .i64 a1_0, .int .i64 a1_1, .int .i64 a1_2, .int .i64 a1_3, .int .i64 a1_4] 46 (0, 0)) (by (with_reducible repeat (first | refine kN ?_ _ | refine kD ?_ | refine kA ?_ _)); exact BK222.out) hb)
      have n2_ := mk0 (IsS60.below (by repeat (first | (with_reducible first | exact HI225.out | apply IsS60.alloc | apply IsS60.drewN | apply IsS60.drew | apply IsS60.set_0 | (focus (refine IsS60.far ?_ ?_ _; rotate_left; (focus ((repeat (first | (with_reducible exact Nsty.of BK221.out rfl) | apply Nsty.set | apply Nsty.drewN | apply Nsty.drew | apply Nsty.alloc)); done)))) | (focus (refine IsS60.far ?_ ?_ _; rotate_left; (focus ((repeat (first | (with_reducible exact Nsty.of BK222.out rfl) | apply Nsty.set | apply Nsty.drewN | apply Nsty.drew | apply Nsty.alloc)); done)))) | (focus (refine IsS60.far ?_ ?_ _; rotate_left; (focus ((repeat (first | (with_reducible exact Nsty.of BK241.out rfl) | apply Nsty.set | apply Nsty.drewN | apply Nsty.drew | apply Nsty.alloc)); done))))) | exact HI225.out)) hb)
      have n3_ := mk0 (blk_below (g := gb241) (o := .cells #[.int .i64 0, .int .i64 0, .int .i64 0, .int .i64 0, .int .i64 0, .int .i64 0] 30 (0, 0)) (by (with_reducible repeat (first | refine kN ?_ _ | refine kD ?_ | refine kA ?_ _)); exact BK241.out) hb)
      have n4_ := mk0 (below_step (by repeat (first | (with_reducible first | exact HB.out | apply below_alloc | apply pw_below_drewN | apply below_drew1 | refine bS ?_ (IsS60.ge HI225.out) | refine bS ?_ GE221.out | refine bS ?_ GE222.out | refine bS ?_ GE241.out) | exact HB.out)) hb)
      have n5_ := mk0 (hbox)
      have n6_ := mk0 ((by rw [hg]; exact (below_size (by repeat (first | (with_reducible first | exact HB.out | apply below_alloc | apply pw_below_drewN | apply below_drew1 | refine bS ?_ (IsS60.ge HI225.out) | refine bS ?_ GE221.out | refine bS ?_ GE222.out | refine bS ?_ GE241.out) | exact HB.out))) : w.heap.size ≤ gb240))
      have n7_ := mk0 ((by rw [hg]; exact (below_size (by repeat (first | (with_reducible first | exact HB.out | apply below_alloc | apply pw_below_drewN | apply below_drew1 | refine bS ?_ (IsS60.ge HI225.out) | refine bS ?_ GE221.out | refine bS ?_ GE222.out | refine bS ?_ GE241.out) | exact HB.out))) : w.heap.size ≤ gb240))
      have n8_ := mk0 ((by rw [hg]; exact Nat.ne_of_lt (blk_lt (g := gb221) (o := .cells #[.int .i64 a0_0, .int .i64 a0_1, .int .i64 a0_2, .int .i64 a0_3, .int .i64 a0_4] 46 (0, 0)) (by (with_reducible repeat (first | refine kN ?_ _ | refine kD ?_ | refine kA ?_ _)); exact BK221.out)) : gb221 ≠ gb240))
      have n9_ := mk0 ((by rw [hg]; exact Nat.ne_of_gt (blk_lt (g := gb221) (o := .cells #[.int .i64 a0_0, .int .i64 a0_1, .int .i64 a0_2, .int .i64 a0_3, .int .i64 a0_4] 46 (0, 0)) (by (with_reducible repeat (first | refine kN ?_ _ | refine kD ?_ | refine kA ?_ _)); exact BK221.out)) : gb240 ≠ gb221))
      have n10_ := mk0 ((by rw [hg]; exact Nat.ne_of_lt (blk_lt (g := gb222) (o := .cells #[.int .i64 a1_0, .int .i64 a1_1, .int .i64 a1_2, .int .i64 a1_3, .int .i64 a1_4] 46 (0, 0)) (by (with_reducible repeat (first | refine kN ?_ _ | refine kD ?_ | refine kA ?_ _)); exact BK222.out)) : gb222 ≠ gb240))
      have n11_ := mk0 ((by rw [hg]; exact Nat.ne_of_gt (blk_lt (g := gb222) (o := .cells #[.int .i64 a1_0, .int .i64 a1_1, .int .i64 a1_2, .int .i64 a1_3, .int .i64 a1_4] 46 (0, 0)) (by (with_reducible repeat (first | refine kN ?_ _ | refine kD ?_ | refine kA ?_ _)); exact BK222.out)) : gb240 ≠ gb222))
      have n12_ := mk0 ((by rw [hg]; exact Nat.ne_of_lt (blk_lt (g := gb241) (o := .cells #[.int .i64 0, .int .i64 0, .int .i64 0, .int .i64 0, .int .i64 0, .int .i64 0] 30 (0, 0)) (by (with_reducible repeat (first | refine kN ?_ _ | refine kD ?_ | refine kA ?_ _)); exact BK241.out)) : gb241 ≠ gb240))
      have n13_ := mk0 ((by rw [hg]; exact Nat.ne_of_gt (blk_lt (g := gb241) (o := .cells #[.int .i64 0, .int .i64 0, .int .i64 0, .int .i64 0, .int .i64 0, .int .i64 0] 30 (0, 0)) (by (with_reducible repeat (first | refine kN ?_ _ | refine kD ?_ | refine kA ?_ _)); exact BK241.out)) : gb240 ≠ gb241))
      have n14_ := mk0 ((by rw [hg]; exact Nat.ne_of_lt (IsS60.lt (show IsS60 w _ g225 t239 from by repeat (first | (with_reducible first | exact HI225.out | apply IsS60.alloc | apply IsS60.drewN | apply IsS60.drew | apply IsS60.set_0 | (focus (refine IsS60.far ?_ ?_ _; rotate_left; (focus ((repeat (first | (with_reducible exact Nsty.of BK221.out rfl) | apply Nsty.set | apply Nsty.drewN | apply Nsty.drew | apply Nsty.alloc)); done)))) | (focus (refine IsS60.far ?_ ?_ _; rotate_left; (focus ((repeat (first | (with_reducible exact Nsty.of BK222.out rfl) | apply Nsty.set | apply Nsty.drewN | apply Nsty.drew | apply Nsty.alloc)); done)))) | (focus (refine IsS60.far ?_ ?_ _; rotate_left; (focus ((repeat (first | (with_reducible exact Nsty.of BK241.out rfl) | apply Nsty.set | apply Nsty.drewN | apply Nsty.drew | apply Nsty.alloc)); done))))) | exact HI225.out))) : g225 ≠ gb240))
      have n15_ := mk0 ((by rw [hg]; exact Nat.ne_of_gt (IsS60.lt (show IsS60 w _ g225 t239 from by repeat (first | (with_reducible first | exact HI225.out | apply IsS60.alloc | apply IsS60.drewN | apply IsS60.drew | apply IsS60.set_0 | (focus (refine IsS60.far ?_ ?_ _; rotate_left; (focus ((repeat (first | (with_reducible exact Nsty.of BK221.out rfl) | apply Nsty.set | apply Nsty.drewN | apply Nsty.drew | apply Nsty.alloc)); done)))) | (focus (refine IsS60.far ?_ ?_ _; rotate_left; (focus ((repeat (first | (with_reducible exact Nsty.of BK222.out rfl) | apply Nsty.set | apply Nsty.drewN | apply Nsty.drew | apply Nsty.alloc)); done)))) | (focus (refine IsS60.far ?_ ?_ _; rotate_left; (focus ((repeat (first | (with_reducible exact Nsty.of BK241.out rfl) | apply Nsty.set | apply Nsty.drewN | apply Nsty.drew | apply Nsty.alloc)); done))))) | exact HI225.out))) : gb240 ≠ g225))
      clear BK221
      clear BK222
      clear HI225
      clear BK241
      clear HB
      have BK221 := n0_
      have BK222 := n1_
      have HI225 := n2_
      have BK241 := n3_
      have HB := n4_
      have BK240 := n5_
      have GW240 := n6_
      have GE240 := n7_
      have NB221_240 := n8_
      have NB240_221 := n9_
      have NB222_240 := n10_
      have NB240_222 := n11_
      have NB241_240 := n12_
      have NB240_241 := n13_
      have NB225_240 := n14_
      have NB240_225 := n15_
      clear n0_ n1_ n2_ n3_ n4_ n5_ n6_ n7_ n8_ n9_ n10_ n11_ n12_ n13_ n14_ n15_
      clear hb hbox hg
      refine hK.out _ _ ⟨(kC BK221.out 0).trans rfl, (kC BK221.out 1).trans rfl, (kC BK221.out 2).trans rfl, (kC BK221.out 3).trans rfl, (kC BK221.out 4).trans rfl, (kC BK222.out 0).trans rfl, (kC BK222.out 1).trans rfl, (kC BK222.out 2).trans rfl, (kC BK222.out 3).trans rfl, (kC BK222.out 4).trans rfl⟩ (fun hHeld => ?_)
      clear hK K
      refine norm_ (a' := ?_) ?_ ?_
      rotate_left
      ·
       show Act.put _ (some 8) _ = _
       simp only [Act.put, sB, sZ, sS, i64_w, i32_w]
       rfl
      exact norm_ (by first | (simp only [putAll, Act.put, sB, sZ, sS]; done) | (simp only [putAll, Act.put, sB, sZ, sS]; rfl)) (hJ11_23_24_25 (gb240, gb241) _ ⟨hHeld, (by (with_reducible repeat (first |refine kN ?_ _ |refine kD ?_ |refine kA ?_ _)); exact BK221.out), (by (with_reducible repeat (first |refine kN ?_ _ |refine kD ?_ |refine kA ?_ _)); exact BK222.out), (by (with_reducible repeat (first |refine kN ?_ _ |refine kD ?_ |refine kA ?_ _)); exact BK240.out), (by (with_reducible repeat (first |refine kN ?_ _ |refine kD ?_ |refine kA ?_ _)); exact BK241.out), GW240.out, GE240.out, NB225_240.out, NB240_225.out, NB221_240.out, NB240_221.out, NB222_240.out, NB240_222.out, NB241_240.out, NB240_241.out, GW241.out, GE241.out, NB225_241.out, NB241_225.out, NB221_241.out, NB241_221.out, NB222_241.out, NB241_222.out, (by repeat (first | (with_reducible first |exact HI225.out |apply IsS60.alloc |apply IsS60.drewN |apply IsS60.drew |apply IsS60.set_0 | (focus (refine IsS60.far ?_ ?_ _; rotate_left; (focus ((repeat (first | (with_reducible exact Nsty.of BK221.out rfl) |apply Nsty.set |apply Nsty.drewN |apply Nsty.drew |apply Nsty.alloc)); done)))) | (focus (refine IsS60.far ?_ ?_ _; rotate_left; (focus ((repeat (first | (with_reducible exact Nsty.of BK222.out rfl) |apply Nsty.set |apply Nsty.drewN |apply Nsty.drew |apply Nsty.alloc)); done)))) | (focus (refine IsS60.far ?_ ?_ _; rotate_left; (focus ((repeat (first | (with_reducible exact Nsty.of BK241.out rfl) |apply Nsty.set |apply Nsty.drewN |apply Nsty.drew |apply Nsty.alloc)); done)))) | (focus (refine IsS60.far ?_ ?_ _; rotate_left; (focus ((repeat (first | (with_reducible exact Nsty.of BK240.out rfl) |apply Nsty.set |apply Nsty.drewN |apply Nsty.drew |apply Nsty.alloc)); done))))) |exact HI225.out)), (by repeat (first | (with_reducible first |exact HB.out |apply below_alloc |apply pw_below_drewN |apply below_drew1 |refine bS ?_ (IsS60.ge HI225.out) |refine bS ?_ GE221.out |refine bS ?_ GE222.out |refine bS ?_ GE241.out |refine bS ?_ GE240.out) |exact HB.out))⟩)
     skip
     rintro gb240 w114 ⟨hS_, h0_, h1_, h2_, h3_, h4_, h5_, h6_, h7_, h8_, h9_, h10_, h11_, h12_⟩
     have n0_ : Aside0 (w114.heap[gb221]? = some (.cells #[.int .i64 a0_0, .int .i64 a0_1, .int .i64 a0_2, .int .i64 a0_3, .int .i64 a0_4] 46 (0, 0))) := ⟨h0_⟩
     have n1_ : Aside0 (w114.heap[gb222]? = some (.cells #[.int .i64 a1_0, .int .i64 a1_1, .int .i64 a1_2, .int .i64 a1_3, .int .i64 a1_4] 46 (0, 0))) := ⟨h1_⟩
     have n2_ : Aside0 (w114.heap[gb240]? = some (.cells #[.int .i64 0, .int .i64 0, .int .i64 0, .int .i64 0, .int .i64 0, .int .i64 0] 30 (0, 0))) := ⟨h2_⟩
     have n3_ : Aside0 (w.heap.size ≤ gb240) := ⟨h3_⟩
     have n4_ : Aside0 (w.heap.size ≤ gb240) := ⟨h4_⟩
     have n5_ : Aside0 (g225 ≠ gb240) := ⟨h5_⟩
     have n6_ : Aside0 (gb240 ≠ g225) := ⟨h6_⟩
     have n7_ : Aside0 (gb221 ≠ gb240) := ⟨h7_⟩
     have n8_ : Aside0 (gb240 ≠ gb221) := ⟨h8_⟩
     have n9_ : Aside0 (gb222 ≠ gb240) := ⟨h9_⟩
     have n10_ : Aside0 (gb240 ≠ gb222) := ⟨h10_⟩
     have n11_ : Aside0 (IsS60 w w114 g225 t239) := ⟨h11_⟩
     have n12_ : Aside0 (Below w.heap.size w w114) := ⟨h12_⟩
     clear BK221
     clear BK222
     clear HI225
     clear HB
     clear h0_ h1_ h2_ h3_ h4_ h5_ h6_ h7_ h8_ h9_ h10_ h11_ h12_
     have BK221 := n0_
     have BK222 := n1_
     have BK240 := n2_
     have GW240 := n3_
     have GE240 := n4_
     have NB225_240 := n5_
     have NB240_225 := n6_
     have NB221_240 := n7_
     have NB240_221 := n8_
     have NB222_240 := n9_
     have NB240_222 := n10_
     have HI225 := n11_
     have HB := n12_
     clear n0_ n1_ n2_ n3_ n4_ n5_ n6_ n7_ n8_ n9_ n10_ n11_ n12_
     have hHeld : w114.cell? ⟨gb221, 0, none⟩ = some (.int .i64 a0_0) ∧ w114.cell? ⟨gb221, 1, none⟩ = some (.int .i64 a0_1) ∧ w114.cell? ⟨gb221, 2, none⟩ = some (.int .i64 a0_2) ∧ w114.cell? ⟨gb221, 3, none⟩ = some (.int .i64 a0_3) ∧ w114.cell? ⟨gb221, 4, none⟩ = some (.int .i64 a0_4) ∧ w114.cell? ⟨gb222, 0, none⟩ = some (.int .i64 a1_0) ∧ w114.cell? ⟨gb222, 1, none⟩ = some (.int .i64 a1_1) ∧ w114.cell? ⟨gb222, 2, none⟩ = some (.int .i64 a1_2) ∧ w114.cell? ⟨gb222, 3, none⟩ = some (.int .i64 a1_3) ∧ w114.cell? ⟨gb222, 4, none⟩ = some (.int .i64 a1_4) := hS_
     refine norm_ (a' := ?_) ?_ ?_
     rotate_left
     ·
      simp only [putAll, Act.put, sB, sZ, sS]
      rfl
     refine one_ (i := 25) (N := some 9) #[true,true,true,true,true,true,true,true,true,true,true,true,true,true,true,true,true,true,true,true,true,true,true,true,true,true,false,false] rfl rfl (one_of HT_.out (by kernel_rfl)) (by decide) (fun K hK => ?_)
     refine box_step ?hg (N := 9) ?hd (cs := #[.int .i64 0, .int .i64 0, .int .i64 0, .int .i64 0, .int .i64 0, .int .i64 0]) (t := 30) ?hr ?_; (case hd => rfl); (case hg => rfl); (case hr => first | (go_simp; done) | (go_simp; rfl))
     intro gb241 hg w115 hbox hb
     have n0_ := mk0 (blk_below (g := gb221) (o := .cells #[.int .i64 a0_0, .int .i64 a0_1, .int .i64 a0_2, .int .i64 a0_3, .int .i64 a0_4] 46 (0, 0)) (by (with_reducible repeat (first | refine kN ?_ _ | refine kD ?_ | refine kA ?_ _)); exact BK221.out) hb)
     have n1_ := mk0 (blk_below (g := gb222) (o := .cells #[.int .i64 a1_0, .int .i64 a1_1, .int .i64 a1_2, .int .i64 a1_3, .int .i64 a1_4] 46 (0, 0)) (by (with_reducible repeat (first | refine kN ?_ _ | refine kD ?_ | refine kA ?_ _)); exact BK222.out) hb)
     have n2_ := mk0 (IsS60.below (by repeat (first | (with_reducible first | exact HI225.out | apply IsS60.alloc | apply IsS60.drewN | apply IsS60.drew | apply IsS60.set_0 | (focus (refine IsS60.far ?_ ?_ _; rotate_left; (focus ((repeat (first | (with_reducible exact Nsty.of BK221.out rfl) | apply Nsty.set | apply Nsty.drewN | apply Nsty.drew | apply Nsty.alloc)); done)))) | (focus (refine IsS60.far ?_ ?_ _; rotate_left; (focus ((repeat (first | (with_reducible exact Nsty.of BK222.out rfl) | apply Nsty.set | apply Nsty.drewN | apply Nsty.drew | apply Nsty.alloc)); done)))) | (focus (refine IsS60.far ?_ ?_ _; rotate_left; (focus ((repeat (first | (with_reducible exact Nsty.of BK240.out rfl) | apply Nsty.set | apply Nsty.drewN | apply Nsty.drew | apply Nsty.alloc)); done))))) | exact HI225.out)) hb)
     have n3_ := mk0 (blk_below (g := gb240) (o := .cells #[.int .i64 0, .int .i64 0, .int .i64 0, .int .i64 0, .int .i64 0, .int .i64 0] 30 (0, 0)) (by (with_reducible repeat (first | refine kN ?_ _ | refine kD ?_ | refine kA ?_ _)); exact BK240.out) hb)
     have n4_ := mk0 (below_step (by repeat (first | (with_reducible first | exact HB.out | apply below_alloc | apply pw_below_drewN | apply below_drew1 | refine bS ?_ (IsS60.ge HI225.out) | refine bS ?_ GE221.out | refine bS ?_ GE222.out | refine bS ?_ GE240.out) | exact HB.out)) hb)
     have n5_ := mk0 (hbox)
     have n6_ := mk0 ((by rw [hg]; exact (below_size (by repeat (first | (with_reducible first | exact HB.out | apply below_alloc | apply pw_below_drewN | apply below_drew1 | refine bS ?_ (IsS60.ge HI225.out) | refine bS ?_ GE221.out | refine bS ?_ GE222.out | refine bS ?_ GE240.out) | exact HB.out))) : w.heap.size ≤ gb241))
     have n7_ := mk0 ((by rw [hg]; exact (below_size (by repeat (first | (with_reducible first | exact HB.out | apply below_alloc | apply pw_below_drewN | apply below_drew1 | refine bS ?_ (IsS60.ge HI225.out) | refine bS ?_ GE221.out | refine bS ?_ GE222.out | refine bS ?_ GE240.out) | exact HB.out))) : w.heap.size ≤ gb241))
     have n8_ := mk0 ((by rw [hg]; exact Nat.ne_of_lt (blk_lt (g := gb221) (o := .cells #[.int .i64 a0_0, .int .i64 a0_1, .int .i64 a0_2, .int .i64 a0_3, .int .i64 a0_4] 46 (0, 0)) (by (with_reducible repeat (first | refine kN ?_ _ | refine kD ?_ | refine kA ?_ _)); exact BK221.out)) : gb221 ≠ gb241))
     have n9_ := mk0 ((by rw [hg]; exact Nat.ne_of_gt (blk_lt (g := gb221) (o := .cells #[.int .i64 a0_0, .int .i64 a0_1, .int .i64 a0_2, .int .i64 a0_3, .int .i64 a0_4] 46 (0, 0)) (by (with_reducible repeat (first | refine kN ?_ _ | refine kD ?_ | refine kA ?_ _)); exact BK221.out)) : gb241 ≠ gb221))
     have n10_ := mk0 ((by rw [hg]; exact Nat.ne_of_lt (blk_lt (g := gb222) (o := .cells #[.int .i64 a1_0, .int .i64 a1_1, .int .i64 a1_2, .int .i64 a1_3, .int .i64 a1_4] 46 (0, 0)) (by (with_reducible repeat (first | refine kN ?_ _ | refine kD ?_ | refine kA ?_ _)); exact BK222.out)) : gb222 ≠ gb241))
     have n11_ := mk0 ((by rw [hg]; exact Nat.ne_of_gt (blk_lt (g := gb222) (o := .cells #[.int .i64 a1_0, .int .i64 a1_1, .int .i64 a1_2, .int .i64 a1_3, .int .i64 a1_4] 46 (0, 0)) (by (with_reducible repeat (first | refine kN ?_ _ | refine kD ?_ | refine kA ?_ _)); exact BK222.out)) : gb241 ≠ gb222))
     have n12_ := mk0 ((by rw [hg]; exact Nat.ne_of_lt (blk_lt (g := gb240) (o := .cells #[.int .i64 0, .int .i64 0, .int .i64 0, .int .i64 0, .int .i64 0, .int .i64 0] 30 (0, 0)) (by (with_reducible repeat (first | refine kN ?_ _ | refine kD ?_ | refine kA ?_ _)); exact BK240.out)) : gb240 ≠ gb241))
     have n13_ := mk0 ((by rw [hg]; exact Nat.ne_of_gt (blk_lt (g := gb240) (o := .cells #[.int .i64 0, .int .i64 0, .int .i64 0, .int .i64 0, .int .i64 0, .int .i64 0] 30 (0, 0)) (by (with_reducible repeat (first | refine kN ?_ _ | refine kD ?_ | refine kA ?_ _)); exact BK240.out)) : gb241 ≠ gb240))
     have n14_ := mk0 ((by rw [hg]; exact Nat.ne_of_lt (IsS60.lt (show IsS60 w _ g225 t239 from by repeat (first | (with_reducible first | exact HI225.out | apply IsS60.alloc | apply IsS60.drewN | apply IsS60.drew | apply IsS60.set_0 | (focus (refine IsS60.far ?_ ?_ _; rotate_left; (focus ((repeat (first | (with_reducible exact Nsty.of BK221.out rfl) | apply Nsty.set | apply Nsty.drewN | apply Nsty.drew | apply Nsty.alloc)); done)))) | (focus (refine IsS60.far ?_ ?_ _; rotate_left; (focus ((repeat (first | (with_reducible exact Nsty.of BK222.out rfl) | apply Nsty.set | apply Nsty.drewN | apply Nsty.drew | apply Nsty.alloc)); done)))) | (focus (refine IsS60.far ?_ ?_ _; rotate_left; (focus ((repeat (first | (with_reducible exact Nsty.of BK240.out rfl) | apply Nsty.set | apply Nsty.drewN | apply Nsty.drew | apply Nsty.alloc)); done))))) | exact HI225.out))) : g225 ≠ gb241))
     have n15_ := mk0 ((by rw [hg]; exact Nat.ne_of_gt (IsS60.lt (show IsS60 w _ g225 t239 from by repeat (first | (with_reducible first | exact HI225.out | apply IsS60.alloc | apply IsS60.drewN | apply IsS60.drew | apply IsS60.set_0 | (focus (refine IsS60.far ?_ ?_ _; rotate_left; (focus ((repeat (first | (with_reducible exact Nsty.of BK221.out rfl) | apply Nsty.set | apply Nsty.drewN | apply Nsty.drew | apply Nsty.alloc)); done)))) | (focus (refine IsS60.far ?_ ?_ _; rotate_left; (focus ((repeat (first | (with_reducible exact Nsty.of BK222.out rfl) | apply Nsty.set | apply Nsty.drewN | apply Nsty.drew | apply Nsty.alloc)); done)))) | (focus (refine IsS60.far ?_ ?_ _; rotate_left; (focus ((repeat (first | (with_reducible exact Nsty.of BK240.out rfl) | apply Nsty.set | apply Nsty.drewN | apply Nsty.drew | apply Nsty.alloc)); done))))) | exact HI225.out))) : gb241 ≠ g225))
     clear BK221
     clear BK222
     clear HI225
     clear BK240
     clear HB
     have BK221 := n0_
     have BK222 := n1_
     have HI225 := n2_
     have BK240 := n3_
     have HB := n4_
     have BK241 := n5_
     have GW241 := n6_
     have GE241 := n7_
     have NB221_241 := n8_
     have NB241_221 := n9_
     have NB222_241 := n10_
     have NB241_222 := n11_
     have NB240_241 := n12_
     have NB241_240 := n13_
     have NB225_241 := n14_
     have NB241_225 := n15_
     clear n0_ n1_ n2_ n3_ n4_ n5_ n6_ n7_ n8_ n9_ n10_ n11_ n12_ n13_ n14_ n15_
     clear hb hbox hg
     refine hK.out _ _ ⟨(kC BK221.out 0).trans rfl, (kC BK221.out 1).trans rfl, (kC BK221.out 2).trans rfl, (kC BK221.out 3).trans rfl, (kC BK221.out 4).trans rfl, (kC BK222.out 0).trans rfl, (kC BK222.out 1).trans rfl, (kC BK222.out 2).trans rfl, (kC BK222.out 3).trans rfl, (kC BK222.out 4).trans rfl⟩ (fun hHeld => ?_)
     clear hK K
     refine norm_ (a' := ?_) ?_ ?_
     rotate_left
     ·
      show Act.put _ (some 9) _ = _
      simp only [Act.put, sB, sZ, sS, i64_w, i32_w]
      rfl
     exact norm_ (by first | (simp only [putAll, Act.put, sB, sZ, sS]; done) | (simp only [putAll, Act.put, sB, sZ, sS]; rfl)) (hJ11_23_24_25 (gb240, gb241) _ ⟨hHeld, (by (with_reducible repeat (first |refine kN ?_ _ |refine kD ?_ |refine kA ?_ _)); exact BK221.out), (by (with_reducible repeat (first |refine kN ?_ _ |refine kD ?_ |refine kA ?_ _)); exact BK222.out), (by (with_reducible repeat (first |refine kN ?_ _ |refine kD ?_ |refine kA ?_ _)); exact BK240.out), (by (with_reducible repeat (first |refine kN ?_ _ |refine kD ?_ |refine kA ?_ _)); exact BK241.out), GW240.out, GE240.out, NB225_240.out, NB240_225.out, NB221_240.out, NB240_221.out, NB222_240.out, NB240_222.out, NB241_240.out, NB240_241.out, GW241.out, GE241.out, NB225_241.out, NB241_225.out, NB221_241.out, NB241_221.out, NB222_241.out, NB241_222.out, (by repeat (first | (with_reducible first |exact HI225.out |apply IsS60.alloc |apply IsS60.drewN |apply IsS60.drew |apply IsS60.set_0 | (focus (refine IsS60.far ?_ ?_ _; rotate_left; (focus ((repeat (first | (with_reducible exact Nsty.of BK221.out rfl) |apply Nsty.set |apply Nsty.drewN |apply Nsty.drew |apply Nsty.alloc)); done)))) | (focus (refine IsS60.far ?_ ?_ _; rotate_left; (focus ((repeat (first | (with_reducible exact Nsty.of BK222.out rfl) |apply Nsty.set |apply Nsty.drewN |apply Nsty.drew |apply Nsty.alloc)); done)))) | (focus (refine IsS60.far ?_ ?_ _; rotate_left; (focus ((repeat (first | (with_reducible exact Nsty.of BK240.out rfl) |apply Nsty.set |apply Nsty.drewN |apply Nsty.drew |apply Nsty.alloc)); done)))) | (focus (refine IsS60.far ?_ ?_ _; rotate_left; (focus ((repeat (first | (with_reducible exact Nsty.of BK241.out rfl) |apply Nsty.set |apply Nsty.drewN |apply Nsty.drew |apply Nsty.alloc)); done))))) |exact HI225.out)), (by repeat (first | (with_reducible first |exact HB.out |apply below_alloc |apply pw_below_drewN |apply below_drew1 |refine bS ?_ (IsS60.ge HI225.out) |refine bS ?_ GE221.out |refine bS ?_ GE222.out |refine bS ?_ GE240.out |refine bS ?_ GE241.out) |exact HB.out))⟩)
    rintro ⟨gb240, gb241⟩ w115 ⟨hS_, h0_, h1_, h2_, h3_, h4_, h5_, h6_, h7_, h8_, h9_, h10_, h11_, h12_, h13_, h14_, h15_, h16_, h17_, h18_, h19_, h20_, h21_, h22_, h23_⟩
    have n0_ : Aside0 (w115.heap[gb221]? = some (.cells #[.int .i64 a0_0, .int .i64 a0_1, .int .i64 a0_2, .int .i64 a0_3, .int .i64 a0_4] 46 (0, 0))) := ⟨h0_⟩
    have n1_ : Aside0 (w115.heap[gb222]? = some (.cells #[.int .i64 a1_0, .int .i64 a1_1, .int .i64 a1_2, .int .i64 a1_3, .int .i64 a1_4] 46 (0, 0))) := ⟨h1_⟩
    have n2_ : Aside0 (w115.heap[gb240]? = some (.cells #[.int .i64 0, .int .i64 0, .int .i64 0, .int .i64 0, .int .i64 0, .int .i64 0] 30 (0, 0))) := ⟨h2_⟩
    have n3_ : Aside0 (w115.heap[gb241]? = some (.cells #[.int .i64 0, .int .i64 0, .int .i64 0, .int .i64 0, .int .i64 0, .int .i64 0] 30 (0, 0))) := ⟨h3_⟩
    have n4_ : Aside0 (w.heap.size ≤ gb240) := ⟨h4_⟩
    have n5_ : Aside0 (w.heap.size ≤ gb240) := ⟨h5_⟩
    have n6_ : Aside0 (g225 ≠ gb240) := ⟨h6_⟩
    have n7_ : Aside0 (gb240 ≠ g225) := ⟨h7_⟩
    have n8_ : Aside0 (gb221 ≠ gb240) := ⟨h8_⟩
    have n9_ : Aside0 (gb240 ≠ gb221) := ⟨h9_⟩
    have n10_ : Aside0 (gb222 ≠ gb240) := ⟨h10_⟩
    have n11_ : Aside0 (gb240 ≠ gb222) := ⟨h11_⟩
    have n12_ : Aside0 (gb241 ≠ gb240) := ⟨h12_⟩
    have n13_ : Aside0 (gb240 ≠ gb241) := ⟨h13_⟩
    have n14_ : Aside0 (w.heap.size ≤ gb241) := ⟨h14_⟩
    have n15_ : Aside0 (w.heap.size ≤ gb241) := ⟨h15_⟩
    have n16_ : Aside0 (g225 ≠ gb241) := ⟨h16_⟩
    have n17_ : Aside0 (gb241 ≠ g225) := ⟨h17_⟩
    have n18_ : Aside0 (gb221 ≠ gb241) := ⟨h18_⟩
    have n19_ : Aside0 (gb241 ≠ gb221) := ⟨h19_⟩
    have n20_ : Aside0 (gb222 ≠ gb241) := ⟨h20_⟩
    have n21_ : Aside0 (gb241 ≠ gb222) := ⟨h21_⟩
    have n22_ : Aside0 (IsS60 w w115 g225 t239) := ⟨h22_⟩
    have n23_ : Aside0 (Below w.heap.size w w115) := ⟨h23_⟩
    clear BK221
    clear BK222
    clear HI225
    clear HB
    clear h0_ h1_ h2_ h3_ h4_ h5_ h6_ h7_ h8_ h9_ h10_ h11_ h12_ h13_ h14_ h15_ h16_ h17_ h18_ h19_ h20_ h21_ h22_ h23_
    have BK221 := n0_
    have BK222 := n1_
    have BK240 := n2_
    have BK241 := n3_
    have GW240 := n4_
    have GE240 := n5_
    have NB225_240 := n6_
    have NB240_225 := n7_
    have NB221_240 := n8_
    have NB240_221 := n9_
    have NB222_240 := n10_
    have NB240_222 := n11_
    have NB241_240 := n12_
    have NB240_241 := n13_
    have GW241 := n14_
    have GE241 := n15_
    have NB225_241 := n16_
    have NB241_225 := n17_
    have NB221_241 := n18_
    have NB241_221 := n19_
    have NB222_241 := n20_
    have NB241_222 := n21_
    have HI225 := n22_
    have HB := n23_
    clear n0_ n1_ n2_ n3_ n4_ n5_ n6_ n7_ n8_ n9_ n10_ n11_ n12_ n13_ n14_ n15_ n16_ n17_ n18_ n19_ n20_ n21_ n22_ n23_
    have hHeld : w115.cell? ⟨gb221, 0, none⟩ = some (.int .i64 a0_0) ∧ w115.cell? ⟨gb221, 1, none⟩ = some (.int .i64 a0_1) ∧ w115.cell? ⟨gb221, 2, none⟩ = some (.int .i64 a0_2) ∧ w115.cell? ⟨gb221, 3, none⟩ = some (.int .i64 a0_3) ∧ w115.cell? ⟨gb221, 4, none⟩ = some (.int .i64 a0_4) ∧ w115.cell? ⟨gb222, 0, none⟩ = some (.int .i64 a1_0) ∧ w115.cell? ⟨gb222, 1, none⟩ = some (.int .i64 a1_1) ∧ w115.cell? ⟨gb222, 2, none⟩ = some (.int .i64 a1_2) ∧ w115.cell? ⟨gb222, 3, none⟩ = some (.int .i64 a1_3) ∧ w115.cell? ⟨gb222, 4, none⟩ = some (.int .i64 a1_4) := hS_
    refine norm_ (a' := ?_) ?_ ?_
    rotate_left
    ·
     simp only [putAll, Act.put, sB, sZ, sS]
     rfl
    refine one_ (i := 26) (N := none) #[true,true,true,true,true,true,true,true,true,true,true,true,true,true,true,true,true,true,true,true,true,true,true,true,true,true,true,false] rfl rfl (one_of HT_.out (by kernel_rfl)) (by decide) (fun K hK => ?_)
    have hs116 : w115.cell? ⟨gb240, 0, none⟩ = some (.int .i64 0) := (kC BK240.out 0).trans rfl
    have hfs116 := blk_frozen BK240.out 0
    have hns116_0 := NB221_240.out
    have hns116_1 := NB222_240.out
    have hns116_3 := NB241_240.out
    have hms116_0 := NB240_221.out
    have hms116_1 := NB240_222.out
    have hms116_3 := NB240_241.out
    have hs117 : w115.cell? ⟨gb240, 1, none⟩ = some (.int .i64 0) := (kC BK240.out 1).trans rfl
    have hfs117 := blk_frozen BK240.out 1
    have hns117_0 := NB221_240.out
    have hns117_1 := NB222_240.out
    have hns117_3 := NB241_240.out
    have hms117_0 := NB240_221.out
    have hms117_1 := NB240_222.out
    have hms117_3 := NB240_241.out
    have hs118 : w115.cell? ⟨gb240, 2, none⟩ = some (.int .i64 0) := (kC BK240.out 2).trans rfl
    have hfs118 := blk_frozen BK240.out 2
    have hns118_0 := NB221_240.out
    have hns118_1 := NB222_240.out
    have hns118_3 := NB241_240.out
    have hms118_0 := NB240_221.out
    have hms118_1 := NB240_222.out
    have hms118_3 := NB240_241.out
    have hs119 : w115.cell? ⟨gb240, 3, none⟩ = some (.int .i64 0) := (kC BK240.out 3).trans rfl
    have hfs119 := blk_frozen BK240.out 3
    have hns119_0 := NB221_240.out
    have hns119_1 := NB222_240.out
    have hns119_3 := NB241_240.out
    have hms119_0 := NB240_221.out
    have hms119_1 := NB240_222.out
    have hms119_3 := NB240_241.out
    have hs120 : w115.cell? ⟨gb240, 4, none⟩ = some (.int .i64 0) := (kC BK240.out 4).trans rfl
    have hfs120 := blk_frozen BK240.out 4
    have hns120_0 := NB221_240.out
    have hns120_1 := NB222_240.out
    have hns120_3 := NB241_240.out
    have hms120_0 := NB240_221.out
    have hms120_1 := NB240_222.out
    have hms120_3 := NB240_241.out
    have hs121 : w115.cell? ⟨gb240, 5, none⟩ = some (.int .i64 0) := (kC BK240.out 5).trans rfl
    have hfs121 := blk_frozen BK240.out 5
    have hns121_0 := NB221_240.out
    have hns121_1 := NB222_240.out
    have hns121_3 := NB241_240.out
    have hms121_0 := NB240_221.out
    have hms121_1 := NB240_222.out
    have hms121_3 := NB240_241.out
    refine skip_ (w1 := ?_) (by rfl) rfl ?_ ?_
    rotate_left
    ·
     go_simp
     rfl
    refine hK.out _ _ ⟨((cell_far (p := ⟨gb240, _, none⟩) NB221_240.out _).trans (((cell_far (p := ⟨gb240, _, none⟩) NB221_240.out _).trans (((cell_far (p := ⟨gb240, _, none⟩) NB221_240.out _).trans (((cell_far (p := ⟨gb240, _, none⟩) NB221_240.out _).trans (((cell_far (p := ⟨gb240, _, none⟩) NB221_240.out _).trans (((cell_far (p := ⟨gb240, _, none⟩) NB221_240.out _).trans (hHeld.1)))))))))))), ((cell_far (p := ⟨gb240, _, none⟩) NB221_240.out _).trans (((cell_far (p := ⟨gb240, _, none⟩) NB221_240.out _).trans (((cell_far (p := ⟨gb240, _, none⟩) NB221_240.out _).trans (((cell_far (p := ⟨gb240, _, none⟩) NB221_240.out _).trans (((cell_far (p := ⟨gb240, _, none⟩) NB221_240.out _).trans (((cell_far (p := ⟨gb240, _, none⟩) NB221_240.out _).trans (hHeld.2.1)))))))))))), ((cell_far (p := ⟨gb240, _, none⟩) NB221_240.out _).trans (((cell_far (p := ⟨gb240, _, none⟩) NB221_240.out _).trans (((cell_far (p := ⟨gb240, _, none⟩) NB221_240.out _).trans (((cell_far (p := ⟨gb240, _, none⟩) NB221_240.out _).trans (((cell_far (p := ⟨gb240, _, none⟩) NB221_240.out _).trans (((cell_far (p := ⟨gb240, _, none⟩) NB221_240.out _).trans (hHeld.2.2.1)))))))))))), ((cell_far (p := ⟨gb240, _, none⟩) NB221_240.out _).trans (((cell_far (p := ⟨gb240, _, none⟩) NB221_240.out _).trans (((cell_far (p := ⟨gb240, _, none⟩) NB221_240.out _).trans (((cell_far (p := ⟨gb240, _, none⟩) NB221_240.out _).trans (((cell_far (p := ⟨gb240, _, none⟩) NB221_240.out _).trans (((cell_far (p := ⟨gb240, _, none⟩) NB221_240.out _).trans (hHeld.2.2.2.1)))))))))))), ((cell_far (p := ⟨gb240, _, none⟩) NB221_240.out _).trans (((cell_far (p := ⟨gb240, _, none⟩) NB221_240.out _).trans (((cell_far (p := ⟨gb240, _, none⟩) NB221_240.out _).trans (((cell_far (p := ⟨gb240, _, none⟩) NB221_240.out _).trans (((cell_far (p := ⟨gb240, _, none⟩) NB221_240.out _).trans (((cell_far (p := ⟨gb240, _, none⟩) NB221_240.out _).trans (hHeld.2.2.2.2.1)))))))))))), ((cell_far (p := ⟨gb240, _, none⟩) NB222_240.out _).trans (((cell_far (p := ⟨gb240, _, none⟩) NB222_240.out _).trans (((cell_far (p := ⟨gb240, _, none⟩) NB222_240.out _).trans (((cell_far (p := ⟨gb240, _, none⟩) NB222_240.out _).trans (((cell_far (p := ⟨gb240, _, none⟩) NB222_240.out _).trans (((cell_far (p := ⟨gb240, _, none⟩) NB222_240.out _).trans (hHeld.2.2.2.2.2.1)))))))))))), ((cell_far (p := ⟨gb240, _, none⟩) NB222_240.out _).trans (((cell_far (p := ⟨gb240, _, none⟩) NB222_240.out _).trans (((cell_far (p := ⟨gb240, _, none⟩) NB222_240.out _).trans (((cell_far (p := ⟨gb240, _, none⟩) NB222_240.out _).trans (((cell_far (p := ⟨gb240, _, none⟩) NB222_240.out _).trans (((cell_far (p := ⟨gb240, _, none⟩) NB222_240.out _).trans (hHeld.2.2.2.2.2.2.1)))))))))))), ((cell_far (p := ⟨gb240, _, none⟩) NB222_240.out _).trans (((cell_far (p := ⟨gb240, _, none⟩) NB222_240.out _).trans (((cell_far (p := ⟨gb240, _, none⟩) NB222_240.out _).trans (((cell_far (p := ⟨gb240, _, none⟩) NB222_240.out _).trans (((cell_far (p := ⟨gb240, _, none⟩) NB222_240.out _).trans (((cell_far (p := ⟨gb240, _, none⟩) NB222_240.out _).trans (hHeld.2.2.2.2.2.2.2.1)))))))))))), ((cell_far (p := ⟨gb240, _, none⟩) NB222_240.out _).trans (((cell_far (p := ⟨gb240, _, none⟩) NB222_240.out _).trans (((cell_far (p := ⟨gb240, _, none⟩) NB222_240.out _).trans (((cell_far (p := ⟨gb240, _, none⟩) NB222_240.out _).trans (((cell_far (p := ⟨gb240, _, none⟩) NB222_240.out _).trans (((cell_far (p := ⟨gb240, _, none⟩) NB222_240.out _).trans (hHeld.2.2.2.2.2.2.2.2.1)))))))))))), ((cell_far (p := ⟨gb240, _, none⟩) NB222_240.out _).trans (((cell_far (p := ⟨gb240, _, none⟩) NB222_240.out _).trans (((cell_far (p := ⟨gb240, _, none⟩) NB222_240.out _).trans (((cell_far (p := ⟨gb240, _, none⟩) NB222_240.out _).trans (((cell_far (p := ⟨gb240, _, none⟩) NB222_240.out _).trans (((cell_far (p := ⟨gb240, _, none⟩) NB222_240.out _).trans (hHeld.2.2.2.2.2.2.2.2.2))))))))))))⟩ (fun hHeld => ?_)
    clear hK K
    refine one_ (i := 27) (N := none) #[true,true,true,true,true,true,true,true,true,true,true,true,true,true,true,true,true,true,true,true,true,true,true,true,true,true,true,true] rfl rfl (one_of HT_.out (by kernel_rfl)) (by decide) (fun K hK => ?_)
    have hs122 : w115.cell? ⟨gb241, 0, none⟩ = some (.int .i64 0) := (kC BK241.out 0).trans rfl
    have hfs122 := blk_frozen BK241.out 0
    have hns122_0 := NB221_241.out
    have hns122_1 := NB222_241.out
    have hns122_2 := NB240_241.out
    have hms122_0 := NB241_221.out
    have hms122_1 := NB241_222.out
    have hms122_2 := NB241_240.out
    have hs123 : w115.cell? ⟨gb241, 1, none⟩ = some (.int .i64 0) := (kC BK241.out 1).trans rfl
    have hfs123 := blk_frozen BK241.out 1
    have hns123_0 := NB221_241.out
    have hns123_1 := NB222_241.out
    have hns123_2 := NB240_241.out
    have hms123_0 := NB241_221.out
    have hms123_1 := NB241_222.out
    have hms123_2 := NB241_240.out
    have hs124 : w115.cell? ⟨gb241, 2, none⟩ = some (.int .i64 0) := (kC BK241.out 2).trans rfl
    have hfs124 := blk_frozen BK241.out 2
    have hns124_0 := NB221_241.out
    have hns124_1 := NB222_241.out
    have hns124_2 := NB240_241.out
    have hms124_0 := NB241_221.out
    have hms124_1 := NB241_222.out
    have hms124_2 := NB241_240.out
    have hs125 : w115.cell? ⟨gb241, 3, none⟩ = some (.int .i64 0) := (kC BK241.out 3).trans rfl
    have hfs125 := blk_frozen BK241.out 3
    have hns125_0 := NB221_241.out
    have hns125_1 := NB222_241.out
    have hns125_2 := NB240_241.out
    have hms125_0 := NB241_221.out
    have hms125_1 := NB241_222.out
    have hms125_2 := NB241_240.out
    have hs126 : w115.cell? ⟨gb241, 4, none⟩ = some (.int .i64 0) := (kC BK241.out 4).trans rfl
    have hfs126 := blk_frozen BK241.out 4
    have hns126_0 := NB221_241.out
    have hns126_1 := NB222_241.out
    have hns126_2 := NB240_241.out
    have hms126_0 := NB241_221.out
    have hms126_1 := NB241_222.out
    have hms126_2 := NB241_240.out
    have hs127 : w115.cell? ⟨gb241, 5, none⟩ = some (.int .i64 0) := (kC BK241.out 5).trans rfl
    have hfs127 := blk_frozen BK241.out 5
    have hns127_0 := NB221_241.out
    have hns127_1 := NB222_241.out
    have hns127_2 := NB240_241.out
    have hms127_0 := NB241_221.out
    have hms127_1 := NB241_222.out
    have hms127_2 := NB241_240.out
    refine skip_ (w1 := ?_) (by rfl) rfl ?_ ?_
    rotate_left
    ·
     go_simp
     rfl
    refine hK.out _ _ ⟨((cell_far (p := ⟨gb241, _, none⟩) NB221_241.out _).trans (((cell_far (p := ⟨gb241, _, none⟩) NB221_241.out _).trans (((cell_far (p := ⟨gb241, _, none⟩) NB221_241.out _).trans (((cell_far (p := ⟨gb241, _, none⟩) NB221_241.out _).trans (((cell_far (p := ⟨gb241, _, none⟩) NB221_241.out _).trans (((cell_far (p := ⟨gb241, _, none⟩) NB221_241.out _).trans (hHeld.1)))))))))))), ((cell_far (p := ⟨gb241, _, none⟩) NB221_241.out _).trans (((cell_far (p := ⟨gb241, _, none⟩) NB221_241.out _).trans (((cell_far (p := ⟨gb241, _, none⟩) NB221_241.out _).trans (((cell_far (p := ⟨gb241, _, none⟩) NB221_241.out _).trans (((cell_far (p := ⟨gb241, _, none⟩) NB221_241.out _).trans (((cell_far (p := ⟨gb241, _, none⟩) NB221_241.out _).trans (hHeld.2.1)))))))))))), ((cell_far (p := ⟨gb241, _, none⟩) NB221_241.out _).trans (((cell_far (p := ⟨gb241, _, none⟩) NB221_241.out _).trans (((cell_far (p := ⟨gb241, _, none⟩) NB221_241.out _).trans (((cell_far (p := ⟨gb241, _, none⟩) NB221_241.out _).trans (((cell_far (p := ⟨gb241, _, none⟩) NB221_241.out _).trans (((cell_far (p := ⟨gb241, _, none⟩) NB221_241.out _).trans (hHeld.2.2.1)))))))))))), ((cell_far (p := ⟨gb241, _, none⟩) NB221_241.out _).trans (((cell_far (p := ⟨gb241, _, none⟩) NB221_241.out _).trans (((cell_far (p := ⟨gb241, _, none⟩) NB221_241.out _).trans (((cell_far (p := ⟨gb241, _, none⟩) NB221_241.out _).trans (((cell_far (p := ⟨gb241, _, none⟩) NB221_241.out _).trans (((cell_far (p := ⟨gb241, _, none⟩) NB221_241.out _).trans (hHeld.2.2.2.1)))))))))))), ((cell_far (p := ⟨gb241, _, none⟩) NB221_241.out _).trans (((cell_far (p := ⟨gb241, _, none⟩) NB221_241.out _).trans (((cell_far (p := ⟨gb241, _, none⟩) NB221_241.out _).trans (((cell_far (p := ⟨gb241, _, none⟩) NB221_241.out _).trans (((cell_far (p := ⟨gb241, _, none⟩) NB221_241.out _).trans (((cell_far (p := ⟨gb241, _, none⟩) NB221_241.out _).trans (hHeld.2.2.2.2.1)))))))))))), ((cell_far (p := ⟨gb241, _, none⟩) NB222_241.out _).trans (((cell_far (p := ⟨gb241, _, none⟩) NB222_241.out _).trans (((cell_far (p := ⟨gb241, _, none⟩) NB222_241.out _).trans (((cell_far (p := ⟨gb241, _, none⟩) NB222_241.out _).trans (((cell_far (p := ⟨gb241, _, none⟩) NB222_241.out _).trans (((cell_far (p := ⟨gb241, _, none⟩) NB222_241.out _).trans (hHeld.2.2.2.2.2.1)))))))))))), ((cell_far (p := ⟨gb241, _, none⟩) NB222_241.out _).trans (((cell_far (p := ⟨gb241, _, none⟩) NB222_241.out _).trans (((cell_far (p := ⟨gb241, _, none⟩) NB222_241.out _).trans (((cell_far (p := ⟨gb241, _, none⟩) NB222_241.out _).trans (((cell_far (p := ⟨gb241, _, none⟩) NB222_241.out _).trans (((cell_far (p := ⟨gb241, _, none⟩) NB222_241.out _).trans (hHeld.2.2.2.2.2.2.1)))))))))))), ((cell_far (p := ⟨gb241, _, none⟩) NB222_241.out _).trans (((cell_far (p := ⟨gb241, _, none⟩) NB222_241.out _).trans (((cell_far (p := ⟨gb241, _, none⟩) NB222_241.out _).trans (((cell_far (p := ⟨gb241, _, none⟩) NB222_241.out _).trans (((cell_far (p := ⟨gb241, _, none⟩) NB222_241.out _).trans (((cell_far (p := ⟨gb241, _, none⟩) NB222_241.out _).trans (hHeld.2.2.2.2.2.2.2.1)))))))))))), ((cell_far (p := ⟨gb241, _, none⟩) NB222_241.out _).trans (((cell_far (p := ⟨gb241, _, none⟩) NB222_241.out _).trans (((cell_far (p := ⟨gb241, _, none⟩) NB222_241.out _).trans (((cell_far (p := ⟨gb241, _, none⟩) NB222_241.out _).trans (((cell_far (p := ⟨gb241, _, none⟩) NB222_241.out _).trans (((cell_far (p := ⟨gb241, _, none⟩) NB222_241.out _).trans (hHeld.2.2.2.2.2.2.2.2.1)))))))))))), ((cell_far (p := ⟨gb241, _, none⟩) NB222_241.out _).trans (((cell_far (p := ⟨gb241, _, none⟩) NB222_241.out _).trans (((cell_far (p := ⟨gb241, _, none⟩) NB222_241.out _).trans (((cell_far (p := ⟨gb241, _, none⟩) NB222_241.out _).trans (((cell_far (p := ⟨gb241, _, none⟩) NB222_241.out _).trans (((cell_far (p := ⟨gb241, _, none⟩) NB222_241.out _).trans (hHeld.2.2.2.2.2.2.2.2.2))))))))))))⟩ (fun hHeld => ?_)
    clear hK K
    refine done_ (done_of HT_.out (by kernel_rfl)) ?_
    try go_wp2
    have n0_ : Aside0 (((((((((((((w115.setCell ⟨gb240, 0, none⟩ (.int .i64 t226)).setCell ⟨gb240, 1, none⟩ (.int .i64 t227)).setCell ⟨gb240, 2, none⟩ (.int .i64 t228)).setCell ⟨gb240, 3, none⟩ (.int .i64 t229)).setCell ⟨gb240, 4, none⟩ (.int .i64 t230)).setCell ⟨gb240, 5, none⟩ (.int .i64 t231)).setCell ⟨gb241, 0, none⟩ (.int .i64 t233)).setCell ⟨gb241, 1, none⟩ (.int .i64 t234)).setCell ⟨gb241, 2, none⟩ (.int .i64 t235)).setCell ⟨gb241, 3, none⟩ (.int .i64 t236)).setCell ⟨gb241, 4, none⟩ (.int .i64 t237)).setCell ⟨gb241, 5, none⟩ (.int .i64 t238)).heap[gb221]? = some (.cells #[.int .i64 a0_0, .int .i64 a0_1, .int .i64 a0_2, .int .i64 a0_3, .int .i64 a0_4] 46 (0, 0))) := ⟨by (with_reducible repeat (first |refine kN ?_ _ |refine kD ?_ |refine kA ?_ _)); refine blk_far ?_ NB221_241.out _; (with_reducible repeat (first |refine kN ?_ _ |refine kD ?_ |refine kA ?_ _)); refine blk_far ?_ NB221_241.out _; (with_reducible repeat (first |refine kN ?_ _ |refine kD ?_ |refine kA ?_ _)); refine blk_far ?_ NB221_241.out _; (with_reducible repeat (first |refine kN ?_ _ |refine kD ?_ |refine kA ?_ _)); refine blk_far ?_ NB221_241.out _; (with_reducible repeat (first |refine kN ?_ _ |refine kD ?_ |refine kA ?_ _)); refine blk_far ?_ NB221_241.out _; (with_reducible repeat (first |refine kN ?_ _ |refine kD ?_ |refine kA ?_ _)); refine blk_far ?_ NB221_241.out _; (with_reducible repeat (first |refine kN ?_ _ |refine kD ?_ |refine kA ?_ _)); refine blk_far ?_ NB221_240.out _; (with_reducible repeat (first |refine kN ?_ _ |refine kD ?_ |refine kA ?_ _)); refine blk_far ?_ NB221_240.out _; (with_reducible repeat (first |refine kN ?_ _ |refine kD ?_ |refine kA ?_ _)); refine blk_far ?_ NB221_240.out _; (with_reducible repeat (first |refine kN ?_ _ |refine kD ?_ |refine kA ?_ _)); refine blk_far ?_ NB221_240.out _; (with_reducible repeat (first |refine kN ?_ _ |refine kD ?_ |refine kA ?_ _)); refine blk_far ?_ NB221_240.out _; (with_reducible repeat (first |refine kN ?_ _ |refine kD ?_ |refine kA ?_ _)); refine blk_far ?_ NB221_240.out _; (with_reducible repeat (first |refine kN ?_ _ |refine kD ?_ |refine kA ?_ _)); exact BK221.out⟩
    have n1_ : Aside0 (((((((((((((w115.setCell ⟨gb240, 0, none⟩ (.int .i64 t226)).setCell ⟨gb240, 1, none⟩ (.int .i64 t227)).setCell ⟨gb240, 2, none⟩ (.int .i64 t228)).setCell ⟨gb240, 3, none⟩ (.int .i64 t229)).setCell ⟨gb240, 4, none⟩ (.int .i64 t230)).setCell ⟨gb240, 5, none⟩ (.int .i64 t231)).setCell ⟨gb241, 0, none⟩ (.int .i64 t233)).setCell ⟨gb241, 1, none⟩ (.int .i64 t234)).setCell ⟨gb241, 2, none⟩ (.int .i64 t235)).setCell ⟨gb241, 3, none⟩ (.int .i64 t236)).setCell ⟨gb241, 4, none⟩ (.int .i64 t237)).setCell ⟨gb241, 5, none⟩ (.int .i64 t238)).heap[gb222]? = some (.cells #[.int .i64 a1_0, .int .i64 a1_1, .int .i64 a1_2, .int .i64 a1_3, .int .i64 a1_4] 46 (0, 0))) := ⟨by (with_reducible repeat (first |refine kN ?_ _ |refine kD ?_ |refine kA ?_ _)); refine blk_far ?_ NB222_241.out _; (with_reducible repeat (first |refine kN ?_ _ |refine kD ?_ |refine kA ?_ _)); refine blk_far ?_ NB222_241.out _; (with_reducible repeat (first |refine kN ?_ _ |refine kD ?_ |refine kA ?_ _)); refine blk_far ?_ NB222_241.out _; (with_reducible repeat (first |refine kN ?_ _ |refine kD ?_ |refine kA ?_ _)); refine blk_far ?_ NB222_241.out _; (with_reducible repeat (first |refine kN ?_ _ |refine kD ?_ |refine kA ?_ _)); refine blk_far ?_ NB222_241.out _; (with_reducible repeat (first |refine kN ?_ _ |refine kD ?_ |refine kA ?_ _)); refine blk_far ?_ NB222_241.out _; (with_reducible repeat (first |refine kN ?_ _ |refine kD ?_ |refine kA ?_ _)); refine blk_far ?_ NB222_240.out _; (with_reducible repeat (first |refine kN ?_ _ |refine kD ?_ |refine kA ?_ _)); refine blk_far ?_ NB222_240.out _; (with_reducible repeat (first |refine kN ?_ _ |refine kD ?_ |refine kA ?_ _)); refine blk_far ?_ NB222_240.out _; (with_reducible repeat (first |refine kN ?_ _ |refine kD ?_ |refine kA ?_ _)); refine blk_far ?_ NB222_240.out _; (with_reducible repeat (first |refine kN ?_ _ |refine kD ?_ |refine kA ?_ _)); refine blk_far ?_ NB222_240.out _; (with_reducible repeat (first |refine kN ?_ _ |refine kD ?_ |refine kA ?_ _)); refine blk_far ?_ NB222_240.out _; (with_reducible repeat (first |refine kN ?_ _ |refine kD ?_ |refine kA ?_ _)); exact BK222.out⟩
    have n2_ : Aside0 (((((((((((((w115.setCell ⟨gb240, 0, none⟩ (.int .i64 t226)).setCell ⟨gb240, 1, none⟩ (.int .i64 t227)).setCell ⟨gb240, 2, none⟩ (.int .i64 t228)).setCell ⟨gb240, 3, none⟩ (.int .i64 t229)).setCell ⟨gb240, 4, none⟩ (.int .i64 t230)).setCell ⟨gb240, 5, none⟩ (.int .i64 t231)).setCell ⟨gb241, 0, none⟩ (.int .i64 t233)).setCell ⟨gb241, 1, none⟩ (.int .i64 t234)).setCell ⟨gb241, 2, none⟩ (.int .i64 t235)).setCell ⟨gb241, 3, none⟩ (.int .i64 t236)).setCell ⟨gb241, 4, none⟩ (.int .i64 t237)).setCell ⟨gb241, 5, none⟩ (.int .i64 t238)).heap[gb240]? = some (.cells #[.int .i64 t226, .int .i64 t227, .int .i64 t228, .int .i64 t229, .int .i64 t230, .int .i64 t231] 30 (0, 0))) := ⟨by (with_reducible repeat (first |refine kN ?_ _ |refine kD ?_ |refine kA ?_ _)); refine blk_far ?_ NB240_241.out _; (with_reducible repeat (first |refine kN ?_ _ |refine kD ?_ |refine kA ?_ _)); refine blk_far ?_ NB240_241.out _; (with_reducible repeat (first |refine kN ?_ _ |refine kD ?_ |refine kA ?_ _)); refine blk_far ?_ NB240_241.out _; (with_reducible repeat (first |refine kN ?_ _ |refine kD ?_ |refine kA ?_ _)); refine blk_far ?_ NB240_241.out _; (with_reducible repeat (first |refine kN ?_ _ |refine kD ?_ |refine kA ?_ _)); refine blk_far ?_ NB240_241.out _; (with_reducible repeat (first |refine kN ?_ _ |refine kD ?_ |refine kA ?_ _)); refine blk_far ?_ NB240_241.out _; (with_reducible repeat (first |refine kN ?_ _ |refine kD ?_ |refine kA ?_ _)); refine blk_put (cs := #[.int .i64 t226, .int .i64 t227, .int .i64 t228, .int .i64 t229, .int .i64 t230, .int .i64 0]) ?_ 5 _ rfl; (with_reducible repeat (first |refine kN ?_ _ |refine kD ?_ |refine kA ?_ _)); refine blk_put (cs := #[.int .i64 t226, .int .i64 t227, .int .i64 t228, .int .i64 t229, .int .i64 0, .int .i64 0]) ?_ 4 _ rfl; (with_reducible repeat (first |refine kN ?_ _ |refine kD ?_ |refine kA ?_ _)); refine blk_put (cs := #[.int .i64 t226, .int .i64 t227, .int .i64 t228, .int .i64 0, .int .i64 0, .int .i64 0]) ?_ 3 _ rfl; (with_reducible repeat (first |refine kN ?_ _ |refine kD ?_ |refine kA ?_ _)); refine blk_put (cs := #[.int .i64 t226, .int .i64 t227, .int .i64 0, .int .i64 0, .int .i64 0, .int .i64 0]) ?_ 2 _ rfl; (with_reducible repeat (first |refine kN ?_ _ |refine kD ?_ |refine kA ?_ _)); refine blk_put (cs := #[.int .i64 t226, .int .i64 0, .int .i64 0, .int .i64 0, .int .i64 0, .int .i64 0]) ?_ 1 _ rfl; (with_reducible repeat (first |refine kN ?_ _ |refine kD ?_ |refine kA ?_ _)); refine blk_put (cs := #[.int .i64 0, .int .i64 0, .int .i64 0, .int .i64 0, .int .i64 0, .int .i64 0]) ?_ 0 _ rfl; (with_reducible repeat (first |refine kN ?_ _ |refine kD ?_ |refine kA ?_ _)); exact BK240.out⟩
    have n3_ : Aside0 (((((((((((((w115.setCell ⟨gb240, 0, none⟩ (.int .i64 t226)).setCell ⟨gb240, 1, none⟩ (.int .i64 t227)).setCell ⟨gb240, 2, none⟩ (.int .i64 t228)).setCell ⟨gb240, 3, none⟩ (.int .i64 t229)).setCell ⟨gb240, 4, none⟩ (.int .i64 t230)).setCell ⟨gb240, 5, none⟩ (.int .i64 t231)).setCell ⟨gb241, 0, none⟩ (.int .i64 t233)).setCell ⟨gb241, 1, none⟩ (.int .i64 t234)).setCell ⟨gb241, 2, none⟩ (.int .i64 t235)).setCell ⟨gb241, 3, none⟩ (.int .i64 t236)).setCell ⟨gb241, 4, none⟩ (.int .i64 t237)).setCell ⟨gb241, 5, none⟩ (.int .i64 t238)).heap[gb241]? = some (.cells #[.int .i64 t233, .int .i64 t234, .int .i64 t235, .int .i64 t236, .int .i64 t237, .int .i64 t238] 30 (0, 0))) := ⟨by (with_reducible repeat (first |refine kN ?_ _ |refine kD ?_ |refine kA ?_ _)); refine blk_put (cs := #[.int .i64 t233, .int .i64 t234, .int .i64 t235, .int .i64 t236, .int .i64 t237, .int .i64 0]) ?_ 5 _ rfl; (with_reducible repeat (first |refine kN ?_ _ |refine kD ?_ |refine kA ?_ _)); refine blk_put (cs := #[.int .i64 t233, .int .i64 t234, .int .i64 t235, .int .i64 t236, .int .i64 0, .int .i64 0]) ?_ 4 _ rfl; (with_reducible repeat (first |refine kN ?_ _ |refine kD ?_ |refine kA ?_ _)); refine blk_put (cs := #[.int .i64 t233, .int .i64 t234, .int .i64 t235, .int .i64 0, .int .i64 0, .int .i64 0]) ?_ 3 _ rfl; (with_reducible repeat (first |refine kN ?_ _ |refine kD ?_ |refine kA ?_ _)); refine blk_put (cs := #[.int .i64 t233, .int .i64 t234, .int .i64 0, .int .i64 0, .int .i64 0, .int .i64 0]) ?_ 2 _ rfl; (with_reducible repeat (first |refine kN ?_ _ |refine kD ?_ |refine kA ?_ _)); refine blk_put (cs := #[.int .i64 t233, .int .i64 0, .int .i64 0, .int .i64 0, .int .i64 0, .int .i64 0]) ?_ 1 _ rfl; (with_reducible repeat (first |refine kN ?_ _ |refine kD ?_ |refine kA ?_ _)); refine blk_put (cs := #[.int .i64 0, .int .i64 0, .int .i64 0, .int .i64 0, .int .i64 0, .int .i64 0]) ?_ 0 _ rfl; (with_reducible repeat (first |refine kN ?_ _ |refine kD ?_ |refine kA ?_ _)); refine blk_far ?_ NB241_240.out _; (with_reducible repeat (first |refine kN ?_ _ |refine kD ?_ |refine kA ?_ _)); refine blk_far ?_ NB241_240.out _; (with_reducible repeat (first |refine kN ?_ _ |refine kD ?_ |refine kA ?_ _)); refine blk_far ?_ NB241_240.out _; (with_reducible repeat (first |refine kN ?_ _ |refine kD ?_ |refine kA ?_ _)); refine blk_far ?_ NB241_240.out _; (with_reducible repeat (first |refine kN ?_ _ |refine kD ?_ |refine kA ?_ _)); refine blk_far ?_ NB241_240.out _; (with_reducible repeat (first |refine kN ?_ _ |refine kD ?_ |refine kA ?_ _)); refine blk_far ?_ NB241_240.out _; (with_reducible repeat (first |refine kN ?_ _ |refine kD ?_ |refine kA ?_ _)); exact BK241.out⟩
    have n4_ : Aside0 (IsS60 w ((((((((((((w115.setCell ⟨gb240, 0, none⟩ (.int .i64 t226)).setCell ⟨gb240, 1, none⟩ (.int .i64 t227)).setCell ⟨gb240, 2, none⟩ (.int .i64 t228)).setCell ⟨gb240, 3, none⟩ (.int .i64 t229)).setCell ⟨gb240, 4, none⟩ (.int .i64 t230)).setCell ⟨gb240, 5, none⟩ (.int .i64 t231)).setCell ⟨gb241, 0, none⟩ (.int .i64 t233)).setCell ⟨gb241, 1, none⟩ (.int .i64 t234)).setCell ⟨gb241, 2, none⟩ (.int .i64 t235)).setCell ⟨gb241, 3, none⟩ (.int .i64 t236)).setCell ⟨gb241, 4, none⟩ (.int .i64 t237)).setCell ⟨gb241, 5, none⟩ (.int .i64 t238)) g225 t239) := ⟨by repeat (first | (with_reducible first | exact HI225.out | apply IsS60.alloc | apply IsS60.drewN | apply IsS60.drew | apply IsS60.set_0 | (focus (refine IsS60.far ?_ ?_ _; rotate_left; (focus ((repeat (first | (with_reducible exact Nsty.of BK221.out rfl) | apply Nsty.set | apply Nsty.drewN | apply Nsty.drew | apply Nsty.alloc)); done)))) | (focus (refine IsS60.far ?_ ?_ _; rotate_left; (focus ((repeat (first | (with_reducible exact Nsty.of BK222.out rfl) | apply Nsty.set | apply Nsty.drewN | apply Nsty.drew | apply Nsty.alloc)); done)))) | (focus (refine IsS60.far ?_ ?_ _; rotate_left; (focus ((repeat (first | (with_reducible exact Nsty.of BK240.out rfl) | apply Nsty.set | apply Nsty.drewN | apply Nsty.drew | apply Nsty.alloc)); done)))) | (focus (refine IsS60.far ?_ ?_ _; rotate_left; (focus ((repeat (first | (with_reducible exact Nsty.of BK241.out rfl) | apply Nsty.set | apply Nsty.drewN | apply Nsty.drew | apply Nsty.alloc)); done))))) | exact HI225.out)⟩
    have n5_ : Aside0 (Below w.heap.size w ((((((((((((w115.setCell ⟨gb240, 0, none⟩ (.int .i64 t226)).setCell ⟨gb240, 1, none⟩ (.int .i64 t227)).setCell ⟨gb240, 2, none⟩ (.int .i64 t228)).setCell ⟨gb240, 3, none⟩ (.int .i64 t229)).setCell ⟨gb240, 4, none⟩ (.int .i64 t230)).setCell ⟨gb240, 5, none⟩ (.int .i64 t231)).setCell ⟨gb241, 0, none⟩ (.int .i64 t233)).setCell ⟨gb241, 1, none⟩ (.int .i64 t234)).setCell ⟨gb241, 2, none⟩ (.int .i64 t235)).setCell ⟨gb241, 3, none⟩ (.int .i64 t236)).setCell ⟨gb241, 4, none⟩ (.int .i64 t237)).setCell ⟨gb241, 5, none⟩ (.int .i64 t238))) := ⟨by repeat (first | (with_reducible first | exact HB.out | apply below_alloc | apply pw_below_drewN | apply below_drew1 | refine bS ?_ (IsS60.ge HI225.out) | refine bS ?_ GE221.out | refine bS ?_ GE222.out | refine bS ?_ GE240.out | refine bS ?_ GE241.out) | exact HB.out)⟩
    (try clear BK221)
    (try clear BK222)
    (try clear BK240)
    (try clear BK241)
    (try clear HI225)
    (try clear HB)
    generalize ((((((((((((w115.setCell ⟨gb240, 0, none⟩ (.int .i64 t226)).setCell ⟨gb240, 1, none⟩ (.int .i64 t227)).setCell ⟨gb240, 2, none⟩ (.int .i64 t228)).setCell ⟨gb240, 3, none⟩ (.int .i64 t229)).setCell ⟨gb240, 4, none⟩ (.int .i64 t230)).setCell ⟨gb240, 5, none⟩ (.int .i64 t231)).setCell ⟨gb241, 0, none⟩ (.int .i64 t233)).setCell ⟨gb241, 1, none⟩ (.int .i64 t234)).setCell ⟨gb241, 2, none⟩ (.int .i64 t235)).setCell ⟨gb241, 3, none⟩ (.int .i64 t236)).setCell ⟨gb241, 4, none⟩ (.int .i64 t237)).setCell ⟨gb241, 5, none⟩ (.int .i64 t238)) = w128 at n0_ n1_ n2_ n3_ n4_ n5_ ⊢
    have BK221 := n0_
    have BK222 := n1_
    have BK240 := n2_
    have BK241 := n3_
    have HI225 := n4_
    have HB := n5_
    clear n0_ n1_ n2_ n3_ n4_ n5_
    have n0_ := mk0 (kD BK221.out)
    have n1_ := mk0 (kD BK222.out)
    have n2_ := mk0 (kD BK240.out)
    have n3_ := mk0 (kD BK241.out)
    have n4_ := mk0 (IsS60.drew HI225.out)
    have n5_ := mk0 (below_drew1 HB.out)
    clear BK221
    clear BK222
    clear BK240
    clear BK241
    clear HI225
    clear HB
    have BK221 := n0_
    have BK222 := n1_
    have BK240 := n2_
    have BK241 := n3_
    have HI225 := n4_
    have HB := n5_
    clear n0_ n1_ n2_ n3_ n4_ n5_
    refine start_ (n := 8) (S := fun w' => w'.cell? ⟨gb240, 0, none⟩ = some (.int .i64 t226) ∧ w'.cell? ⟨gb240, 1, none⟩ = some (.int .i64 t227) ∧ w'.cell? ⟨gb240, 2, none⟩ = some (.int .i64 t228) ∧ w'.cell? ⟨gb240, 3, none⟩ = some (.int .i64 t229) ∧ w'.cell? ⟨gb240, 4, none⟩ = some (.int .i64 t230) ∧ w'.cell? ⟨gb240, 5, none⟩ = some (.int .i64 t231) ∧ w'.cell? ⟨gb241, 0, none⟩ = some (.int .i64 t233) ∧ w'.cell? ⟨gb241, 1, none⟩ = some (.int .i64 t234) ∧ w'.cell? ⟨gb241, 2, none⟩ = some (.int .i64 t235) ∧ w'.cell? ⟨gb241, 3, none⟩ = some (.int .i64 t236) ∧ w'.cell? ⟨gb241, 4, none⟩ = some (.int .i64 t237) ∧ w'.cell? ⟨gb241, 5, none⟩ = some (.int .i64 t238)) (ds := []) #[false,false,false,false,false,false,false,false] (by kernel_rfl) rfl rfl ⟨(kC BK240.out 0).trans rfl, (kC BK240.out 1).trans rfl, (kC BK240.out 2).trans rfl, (kC BK240.out 3).trans rfl, (kC BK240.out 4).trans rfl, (kC BK240.out 5).trans rfl, (kC BK241.out 0).trans rfl, (kC BK241.out 1).trans rfl, (kC BK241.out 2).trans rfl, (kC BK241.out 3).trans rfl, (kC BK241.out 4).trans rfl, (kC BK241.out 5).trans rfl⟩ (fun hHeld => ?_); refine with_tabW conclavelaw09_CardNames.tab12 conclavelaw09_CardNames.bits12 (fun HT_ HW_ => ?_)
    generalize w128.drew = w129 at BK221 BK222 BK240 BK241 HI225 HB hHeld ⊢
    refine pure_ (i := 0) (N := some 70) (v := ?_) (a' := ?_) #[true,false,false,false,false,false,false,false] rfl rfl (any_of HT_.out (by kernel_rfl)) (fun _ _ _ h => h) (Or.inl ⟨by rfl, ?_⟩) ?_ ?_
    rotate_left; (intro w'; go_simp; with_reducible rfl); rotate_left; (simp only [Act.put, sB, sZ, sS, i64_w, i32_w]; rfl)
    refine pure_ (i := 3) (N := some 73) (v := ?_) (a' := ?_) #[true,false,false,true,false,false,false,false] rfl rfl (any_of HT_.out (by kernel_rfl)) (fun _ _ _ h => h) (Or.inl ⟨by rfl, ?_⟩) ?_ ?_
    rotate_left; (intro w'; go_simp; with_reducible rfl); rotate_left; (simp only [Act.put, sB, sZ, sS, i64_w, i32_w]; rfl)
    refine take_ (i := 1) (N := some 71) (v := ?_) (a' := ?_) #[true,true,false,true,false,false,false,false] rfl rfl (take_ofW HT_.out HW_.out (by kernel_rfl)) (fun _ _ _ h => h) (Or.inl ⟨by rfl, ?_⟩) hHeld ?_ ?_
    rotate_left
    ·
     rintro w' ⟨s0, s1, s2, s3, s4, s5, s6, s7, s8, s9, s10, s11⟩
     go_simp
     with_reducible rfl
    rotate_left
    ·
     simp only [Act.put, sB, sZ, sS, i64_w, i32_w]
     rfl
    refine take_ (i := 4) (N := some 74) (v := ?_) (a' := ?_) #[true,true,false,true,true,false,false,false] rfl rfl (take_ofW HT_.out HW_.out (by kernel_rfl)) (fun _ _ _ h => h) (Or.inl ⟨by rfl, ?_⟩) hHeld ?_ ?_
    rotate_left
    ·
     rintro w' ⟨s0, s1, s2, s3, s4, s5, s6, s7, s8, s9, s10, s11⟩
     go_simp
     with_reducible rfl
    rotate_left
    ·
     simp only [Act.put, sB, sZ, sS, i64_w, i32_w]
     rfl
    refine one_ (i := 2) (N := some 72) #[true,true,true,true,true,false,false,false] rfl rfl (one_of HT_.out (by kernel_rfl)) (by decide) (fun K hK => ?_)
    refine goes_ Tryd.func17 (by kernel_rfl) rfl #[.pointer (some ⟨g225, 0, none⟩), .agg #[.int .i64 t226, .int .i64 t227, .int .i64 t228, .int .i64 t229, .int .i64 t230, .int .i64 t231]] (by rfl) rfl rfl (by (try simp only [List.map_toArray, List.map_cons, List.map_nil]); first | done | rfl | (simp only [List.length_drop, List.length_take]; rfl)) ?_
    with_reducible refine (card_Ref.calls (hrG := ?sideG) k g225 t239 t226 t227 t228 t229 t230 t231 t242 t243 w _ ?side1 ?side2 A56.out).mono ?_
    (case sideG => (first | (with_reducible exact HRG.out) | exact TabG.below HRG.out (by repeat (first | (with_reducible first | exact HB.out | apply below_alloc | apply pw_below_drewN | apply below_drew1 | refine bS ?_ (IsS60.ge HI225.out) | refine bS ?_ GE221.out | refine bS ?_ GE222.out | refine bS ?_ GE240.out | refine bS ?_ GE241.out) | (with_reducible exact Below.refl _ _)))))
    (case side1 => repeat (first | (with_reducible first | exact HI225.out | apply IsS60.alloc | apply IsS60.drewN | apply IsS60.drew | apply IsS60.set_0 | (focus (refine IsS60.far ?_ ?_ _; rotate_left; (focus ((repeat (first | (with_reducible exact Nsty.of BK221.out rfl) | apply Nsty.set | apply Nsty.drewN | apply Nsty.drew | apply Nsty.alloc)); done)))) | (focus (refine IsS60.far ?_ ?_ _; rotate_left; (focus ((repeat (first | (with_reducible exact Nsty.of BK222.out rfl) | apply Nsty.set | apply Nsty.drewN | apply Nsty.drew | apply Nsty.alloc)); done)))) | (focus (refine IsS60.far ?_ ?_ _; rotate_left; (focus ((repeat (first | (with_reducible exact Nsty.of BK240.out rfl) | apply Nsty.set | apply Nsty.drewN | apply Nsty.drew | apply Nsty.alloc)); done)))) | (focus (refine IsS60.far ?_ ?_ _; rotate_left; (focus ((repeat (first | (with_reducible exact Nsty.of BK241.out rfl) | apply Nsty.set | apply Nsty.drewN | apply Nsty.drew | apply Nsty.alloc)); done))))) | exact HI225.out))
    (case side2 => repeat (first | (with_reducible first | exact HB.out | apply below_alloc | apply pw_below_drewN | apply below_drew1 | refine bS ?_ (IsS60.ge HI225.out) | refine bS ?_ GE221.out | refine bS ?_ GE222.out | refine bS ?_ GE240.out | refine bS ?_ GE241.out) | exact HB.out))
    rintro e w130 ⟨rfl, hi, hb, hk⟩
    refine ⟨_, rfl, ?_⟩
    have n0_ := mk0 (KeepSt.blk hk (g' := gb221) (o := .cells #[.int .i64 a0_0, .int .i64 a0_1, .int .i64 a0_2, .int .i64 a0_3, .int .i64 a0_4] 46 (0, 0)) (by (with_reducible repeat (first | refine kN ?_ _ | refine kD ?_ | refine kA ?_ _)); exact BK221.out) NB221_225.out rfl)
    have n1_ := mk0 (KeepSt.blk hk (g' := gb222) (o := .cells #[.int .i64 a1_0, .int .i64 a1_1, .int .i64 a1_2, .int .i64 a1_3, .int .i64 a1_4] 46 (0, 0)) (by (with_reducible repeat (first | refine kN ?_ _ | refine kD ?_ | refine kA ?_ _)); exact BK222.out) NB222_225.out rfl)
    have n2_ := mk0 (KeepSt.blk hk (g' := gb240) (o := .cells #[.int .i64 t226, .int .i64 t227, .int .i64 t228, .int .i64 t229, .int .i64 t230, .int .i64 t231] 30 (0, 0)) (by (with_reducible repeat (first | refine kN ?_ _ | refine kD ?_ | refine kA ?_ _)); exact BK240.out) NB240_225.out rfl)
    have n3_ := mk0 (KeepSt.blk hk (g' := gb241) (o := .cells #[.int .i64 t233, .int .i64 t234, .int .i64 t235, .int .i64 t236, .int .i64 t237, .int .i64 t238] 30 (0, 0)) (by (with_reducible repeat (first | refine kN ?_ _ | refine kD ?_ | refine kA ?_ _)); exact BK241.out) NB241_225.out rfl)
    have n4_ := mk0 (hb)
    have n5_ := mk0 (hi)
    clear BK221
    clear BK222
    clear BK240
    clear BK241
    clear HB
    clear HI225
    have BK221 := n0_
    have BK222 := n1_
    have BK240 := n2_
    have BK241 := n3_
    have HB := n4_
    have HI225 := n5_
    clear n0_ n1_ n2_ n3_ n4_ n5_
    (try clear hb)
    (try clear hb2)
    (try clear hk)
    (try clear hi)
    refine hK.out _ _ ⟨(kC BK240.out 0).trans rfl, (kC BK240.out 1).trans rfl, (kC BK240.out 2).trans rfl, (kC BK240.out 3).trans rfl, (kC BK240.out 4).trans rfl, (kC BK240.out 5).trans rfl, (kC BK241.out 0).trans rfl, (kC BK241.out 1).trans rfl, (kC BK241.out 2).trans rfl, (kC BK241.out 3).trans rfl, (kC BK241.out 4).trans rfl, (kC BK241.out 5).trans rfl⟩ (fun hHeld => ?_)
    clear hK K
    refine norm_ (a' := ?_) ?_ ?_
    rotate_left
    ·
     show Act.put _ (some 72) _ = _
     simp only [Act.put, sB, sZ, sS, i64_w, i32_w]
     rfl
    refine one_ (i := 5) (N := some 75) #[true,true,true,true,true,true,false,false] rfl rfl (one_of HT_.out (by kernel_rfl)) (by decide) (fun K hK => ?_)
    refine goes_ Tryd.func17 (by kernel_rfl) rfl #[.pointer (some ⟨g225, 0, none⟩), .agg #[.int .i64 t233, .int .i64 t234, .int .i64 t235, .int .i64 t236, .int .i64 t237, .int .i64 t238]] (by rfl) rfl rfl (by (try simp only [List.map_toArray, List.map_cons, List.map_nil]); first | done | rfl | (simp only [List.length_drop, List.length_take]; rfl)) ?_
    with_reducible refine (card_Ref.calls (hrG := ?sideG) k g225 t243 t233 t234 t235 t236 t237 t238 t244 t245 w _ ?side1 ?side2 A57.out).mono ?_
    (case sideG => (first | (with_reducible exact HRG.out) | exact TabG.below HRG.out (by repeat (first | (with_reducible first | exact HB.out | apply below_alloc | apply pw_below_drewN | apply below_drew1 | refine bS ?_ (IsS60.ge HI225.out) | refine bS ?_ GE221.out | refine bS ?_ GE222.out | refine bS ?_ GE240.out | refine bS ?_ GE241.out) | (with_reducible exact Below.refl _ _)))))
    (case side1 => repeat (first | (with_reducible first | exact HI225.out | apply IsS60.alloc | apply IsS60.drewN | apply IsS60.drew | apply IsS60.set_0 | (focus (refine IsS60.far ?_ ?_ _; rotate_left; (focus ((repeat (first | (with_reducible exact Nsty.of BK221.out rfl) | apply Nsty.set | apply Nsty.drewN | apply Nsty.drew | apply Nsty.alloc)); done)))) | (focus (refine IsS60.far ?_ ?_ _; rotate_left; (focus ((repeat (first | (with_reducible exact Nsty.of BK222.out rfl) | apply Nsty.set | apply Nsty.drewN | apply Nsty.drew | apply Nsty.alloc)); done)))) | (focus (refine IsS60.far ?_ ?_ _; rotate_left; (focus ((repeat (first | (with_reducible exact Nsty.of BK240.out rfl) | apply Nsty.set | apply Nsty.drewN | apply Nsty.drew | apply Nsty.alloc)); done)))) | (focus (refine IsS60.far ?_ ?_ _; rotate_left; (focus ((repeat (first | (with_reducible exact Nsty.of BK241.out rfl) | apply Nsty.set | apply Nsty.drewN | apply Nsty.drew | apply Nsty.alloc)); done))))) | exact HI225.out))
    (case side2 => repeat (first | (with_reducible first | exact HB.out | apply below_alloc | apply pw_below_drewN | apply below_drew1 | refine bS ?_ (IsS60.ge HI225.out) | refine bS ?_ GE221.out | refine bS ?_ GE222.out | refine bS ?_ GE240.out | refine bS ?_ GE241.out) | exact HB.out))
    rintro e w131 ⟨rfl, hi, hb, hk⟩
    refine ⟨_, rfl, ?_⟩
    have n0_ := mk0 (KeepSt.blk hk (g' := gb221) (o := .cells #[.int .i64 a0_0, .int .i64 a0_1, .int .i64 a0_2, .int .i64 a0_3, .int .i64 a0_4] 46 (0, 0)) (by (with_reducible repeat (first | refine kN ?_ _ | refine kD ?_ | refine kA ?_ _)); exact BK221.out) NB221_225.out rfl)
    have n1_ := mk0 (KeepSt.blk hk (g' := gb222) (o := .cells #[.int .i64 a1_0, .int .i64 a1_1, .int .i64 a1_2, .int .i64 a1_3, .int .i64 a1_4] 46 (0, 0)) (by (with_reducible repeat (first | refine kN ?_ _ | refine kD ?_ | refine kA ?_ _)); exact BK222.out) NB222_225.out rfl)
    have n2_ := mk0 (KeepSt.blk hk (g' := gb240) (o := .cells #[.int .i64 t226, .int .i64 t227, .int .i64 t228, .int .i64 t229, .int .i64 t230, .int .i64 t231] 30 (0, 0)) (by (with_reducible repeat (first | refine kN ?_ _ | refine kD ?_ | refine kA ?_ _)); exact BK240.out) NB240_225.out rfl)
    have n3_ := mk0 (KeepSt.blk hk (g' := gb241) (o := .cells #[.int .i64 t233, .int .i64 t234, .int .i64 t235, .int .i64 t236, .int .i64 t237, .int .i64 t238] 30 (0, 0)) (by (with_reducible repeat (first | refine kN ?_ _ | refine kD ?_ | refine kA ?_ _)); exact BK241.out) NB241_225.out rfl)
    have n4_ := mk0 (hb)
    have n5_ := mk0 (hi)
    clear BK221
    clear BK222
    clear BK240
    clear BK241
    clear HB
    clear HI225
    have BK221 := n0_
    have BK222 := n1_
    have BK240 := n2_
    have BK241 := n3_
    have HB := n4_
    have HI225 := n5_
    clear n0_ n1_ n2_ n3_ n4_ n5_
    (try clear hb)
    (try clear hb2)
    (try clear hk)
    (try clear hi)
    refine hK.out _ _ ⟨(kC BK240.out 0).trans rfl, (kC BK240.out 1).trans rfl, (kC BK240.out 2).trans rfl, (kC BK240.out 3).trans rfl, (kC BK240.out 4).trans rfl, (kC BK240.out 5).trans rfl, (kC BK241.out 0).trans rfl, (kC BK241.out 1).trans rfl, (kC BK241.out 2).trans rfl, (kC BK241.out 3).trans rfl, (kC BK241.out 4).trans rfl, (kC BK241.out 5).trans rfl⟩ (fun hHeld => ?_)
    clear hK K
    refine norm_ (a' := ?_) ?_ ?_
    rotate_left
    ·
     show Act.put _ (some 75) _ = _
     simp only [Act.put, sB, sZ, sS, i64_w, i32_w]
     rfl
    refine pure_ (i := 6) (N := some 10) (v := ?_) (a' := ?_) #[true,true,true,true,true,true,true,false] rfl rfl (any_of HT_.out (by kernel_rfl)) (fun _ _ _ h => h) (Or.inl ⟨by rfl, ?_⟩) ?_ ?_
    rotate_left; (intro w'; go_simp; with_reducible rfl); rotate_left; (simp only [Act.put, sB, sZ, sS, i64_w, i32_w]; rfl)
    refine pure_ (i := 7) (N := some 11) (v := ?_) (a' := ?_) #[true,true,true,true,true,true,true,true] rfl rfl (any_of HT_.out (by kernel_rfl)) (fun _ _ _ h => h) (Or.inl ⟨by rfl, ?_⟩) ?_ ?_
    rotate_left; (intro w'; go_simp; with_reducible rfl); rotate_left; (simp only [Act.put, sB, sZ, sS, i64_w, i32_w]; rfl)
    refine done_ (done_of HT_.out (by kernel_rfl)) ?_
    try go_wp2
    have n0_ := mk0 (kD BK221.out)
    have n1_ := mk0 (kD BK222.out)
    have n2_ := mk0 (kD BK240.out)
    have n3_ := mk0 (kD BK241.out)
    have n4_ := mk0 (IsS60.drew HI225.out)
    have n5_ := mk0 (below_drew1 HB.out)
    clear BK221
    clear BK222
    clear BK240
    clear BK241
    clear HI225
    clear HB
    have BK221 := n0_
    have BK222 := n1_
    have BK240 := n2_
    have BK241 := n3_
    have HI225 := n4_
    have HB := n5_
    clear n0_ n1_ n2_ n3_ n4_ n5_
    refine start_ (n := 25) (S := fun w' => w'.cell? ⟨gb221, 0, none⟩ = some (.int .i64 a0_0) ∧ w'.cell? ⟨gb221, 1, none⟩ = some (.int .i64 a0_1) ∧ w'.cell? ⟨gb221, 2, none⟩ = some (.int .i64 a0_2) ∧ w'.cell? ⟨gb221, 3, none⟩ = some (.int .i64 a0_3) ∧ w'.cell? ⟨gb221, 4, none⟩ = some (.int .i64 a0_4) ∧ w'.cell? ⟨gb222, 0, none⟩ = some (.int .i64 a1_0) ∧ w'.cell? ⟨gb222, 1, none⟩ = some (.int .i64 a1_1) ∧ w'.cell? ⟨gb222, 2, none⟩ = some (.int .i64 a1_2) ∧ w'.cell? ⟨gb222, 3, none⟩ = some (.int .i64 a1_3) ∧ w'.cell? ⟨gb222, 4, none⟩ = some (.int .i64 a1_4) ∧ w'.cell? ⟨gb240, 0, none⟩ = some (.int .i64 t226) ∧ w'.cell? ⟨gb240, 1, none⟩ = some (.int .i64 t227) ∧ w'.cell? ⟨gb240, 2, none⟩ = some (.int .i64 t228) ∧ w'.cell? ⟨gb240, 3, none⟩ = some (.int .i64 t229) ∧ w'.cell? ⟨gb240, 4, none⟩ = some (.int .i64 t230) ∧ w'.cell? ⟨gb240, 5, none⟩ = some (.int .i64 t231) ∧ w'.cell? ⟨gb241, 0, none⟩ = some (.int .i64 t233) ∧ w'.cell? ⟨gb241, 1, none⟩ = some (.int .i64 t234) ∧ w'.cell? ⟨gb241, 2, none⟩ = some (.int .i64 t235) ∧ w'.cell? ⟨gb241, 3, none⟩ = some (.int .i64 t236) ∧ w'.cell? ⟨gb241, 4, none⟩ = some (.int .i64 t237) ∧ w'.cell? ⟨gb241, 5, none⟩ = some (.int .i64 t238)) (ds := []) #[false,false,false,false,false,false,false,false,false,false,false,false,false,false,false,false,false,false,false,false,false,false,false,false,false] (by kernel_rfl) rfl rfl ⟨(kC BK221.out 0).trans rfl, (kC BK221.out 1).trans rfl, (kC BK221.out 2).trans rfl, (kC BK221.out 3).trans rfl, (kC BK221.out 4).trans rfl, (kC BK222.out 0).trans rfl, (kC BK222.out 1).trans rfl, (kC BK222.out 2).trans rfl, (kC BK222.out 3).trans rfl, (kC BK222.out 4).trans rfl, (kC BK240.out 0).trans rfl, (kC BK240.out 1).trans rfl, (kC BK240.out 2).trans rfl, (kC BK240.out 3).trans rfl, (kC BK240.out 4).trans rfl, (kC BK240.out 5).trans rfl, (kC BK241.out 0).trans rfl, (kC BK241.out 1).trans rfl, (kC BK241.out 2).trans rfl, (kC BK241.out 3).trans rfl, (kC BK241.out 4).trans rfl, (kC BK241.out 5).trans rfl⟩ (fun hHeld => ?_); refine with_tabW conclavelaw09_CardNames.tab13 conclavelaw09_CardNames.bits13 (fun HT_ HW_ => ?_)
    generalize w131.drew = w132 at BK221 BK222 BK240 BK241 HI225 HB hHeld ⊢
    refine pure_ (i := 0) (N := some 76) (v := ?_) (a' := ?_) #[true,false,false,false,false,false,false,false,false,false,false,false,false,false,false,false,false,false,false,false,false,false,false,false,false] rfl rfl (any_of HT_.out (by kernel_rfl)) (fun _ _ _ h => h) (Or.inl ⟨by rfl, ?_⟩) ?_ ?_
    rotate_left; (intro w'; go_simp; with_reducible rfl); rotate_left; (simp only [Act.put, sB, sZ, sS, i64_w, i32_w]; rfl)
    refine pure_ (i := 1) (N := some 77) (v := ?_) (a' := ?_) #[true,true,false,false,false,false,false,false,false,false,false,false,false,false,false,false,false,false,false,false,false,false,false,false,false] rfl rfl (any_of HT_.out (by kernel_rfl)) (fun _ _ _ h => h) (Or.inl ⟨by rfl, ?_⟩) ?_ ?_
    rotate_left; (intro w'; go_simp; with_reducible rfl); rotate_left; (simp only [Act.put, sB, sZ, sS, i64_w, i32_w]; rfl)
    refine pure_ (i := 2) (N := some 78) (v := ?_) (a' := ?_) #[true,true,true,false,false,false,false,false,false,false,false,false,false,false,false,false,false,false,false,false,false,false,false,false,false] rfl rfl (any_of HT_.out (by kernel_rfl)) (fun _ _ _ h => h) (Or.inl ⟨by rfl, ?_⟩) ?_ ?_
    rotate_left; (intro w'; go_simp; with_reducible rfl); rotate_left; (simp only [Act.put, sB, sZ, sS, i64_w, i32_w]; rfl)
    refine pure_ (i := 3) (N := some 79) (v := ?_) (a' := ?_) #[true,true,true,true,false,false,false,false,false,false,false,false,false,false,false,false,false,false,false,false,false,false,false,false,false] rfl rfl (any_of HT_.out (by kernel_rfl)) (fun _ _ _ h => h) (Or.inl ⟨by rfl, ?_⟩) ?_ ?_
    rotate_left; (intro w'; go_simp; with_reducible rfl); rotate_left; (simp only [Act.put, sB, sZ, sS, i64_w, i32_w]; rfl)
    refine pure_ (i := 4) (N := some 80) (v := ?_) (a' := ?_) #[true,true,true,true,true,false,false,false,false,false,false,false,false,false,false,false,false,false,false,false,false,false,false,false,false] rfl rfl (any_of HT_.out (by kernel_rfl)) (fun _ _ _ h => h) (Or.inl ⟨by rfl, ?_⟩) ?_ ?_
    rotate_left; (intro w'; go_simp; with_reducible rfl); rotate_left; (simp only [Act.put, sB, sZ, sS, i64_w, i32_w]; rfl)
    refine pure_ (i := 5) (N := some 81) (v := ?_) (a' := ?_) #[true,true,true,true,true,true,false,false,false,false,false,false,false,false,false,false,false,false,false,false,false,false,false,false,false] rfl rfl (any_of HT_.out (by kernel_rfl)) (fun _ _ _ h => h) (Or.inl ⟨by rfl, ?_⟩) ?_ ?_
    rotate_left; (intro w'; go_simp; with_reducible rfl); rotate_left; (simp only [Act.put, sB, sZ, sS, i64_w, i32_w]; rfl)
    refine pure_ (i := 6) (N := some 82) (v := ?_) (a' := ?_) #[true,true,true,true,true,true,true,false,false,false,false,false,false,false,false,false,false,false,false,false,false,false,false,false,false] rfl rfl (any_of HT_.out (by kernel_rfl)) (fun _ _ _ h => h) (Or.inl ⟨by rfl, ?_⟩) ?_ ?_
    rotate_left; (intro w'; go_simp; with_reducible rfl); rotate_left; (simp only [Act.put, sB, sZ, sS, i64_w, i32_w]; rfl)
    refine pure_ (i := 7) (N := some 83) (v := ?_) (a' := ?_) #[true,true,true,true,true,true,true,true,false,false,false,false,false,false,false,false,false,false,false,false,false,false,false,false,false] rfl rfl (any_of HT_.out (by kernel_rfl)) (fun _ _ _ h => h) (Or.inl ⟨by rfl, ?_⟩) ?_ ?_
    rotate_left; (intro w'; go_simp; with_reducible rfl); rotate_left; (simp only [Act.put, sB, sZ, sS, i64_w, i32_w]; rfl)
    refine pure_ (i := 8) (N := some 84) (v := ?_) (a' := ?_) #[true,true,true,true,true,true,true,true,true,false,false,false,false,false,false,false,false,false,false,false,false,false,false,false,false] rfl rfl (any_of HT_.out (by kernel_rfl)) (fun _ _ _ h => h) (Or.inl ⟨by rfl, ?_⟩) ?_ ?_
    rotate_left; (intro w'; go_simp; with_reducible rfl); rotate_left; (simp only [Act.put, sB, sZ, sS, i64_w, i32_w]; rfl)
    refine pure_ (i := 9) (N := some 85) (v := ?_) (a' := ?_) #[true,true,true,true,true,true,true,true,true,true,false,false,false,false,false,false,false,false,false,false,false,false,false,false,false] rfl rfl (any_of HT_.out (by kernel_rfl)) (fun _ _ _ h => h) (Or.inl ⟨by rfl, ?_⟩) ?_ ?_
    rotate_left; (intro w'; go_simp; with_reducible rfl); rotate_left; (simp only [Act.put, sB, sZ, sS, i64_w, i32_w]; rfl)
    refine take_ (i := 10) (N := some 86) (v := ?_) (a' := ?_) #[true,true,true,true,true,true,true,true,true,true,true,false,false,false,false,false,false,false,false,false,false,false,false,false,false] rfl rfl (take_ofW HT_.out HW_.out (by kernel_rfl)) (fun _ _ _ h => h) (Or.inl ⟨by rfl, ?_⟩) hHeld ?_ ?_
    rotate_left
    ·
     rintro w' ⟨s0, s1, s2, s3, s4, s5, s6, s7, s8, s9, s10, s11, s12, s13, s14, s15, s16, s17, s18, s19, s20, s21⟩
     go_simp
     with_reducible rfl
    rotate_left
    ·
     simp only [Act.put, sB, sZ, sS, i64_w, i32_w]
     rfl
    refine take_ (i := 11) (N := some 87) (v := ?_) (a' := ?_) #[true,true,true,true,true,true,true,true,true,true,true,true,false,false,false,false,false,false,false,false,false,false,false,false,false] rfl rfl (take_ofW HT_.out HW_.out (by kernel_rfl)) (fun _ _ _ h => h) (Or.inl ⟨by rfl, ?_⟩) hHeld ?_ ?_
    rotate_left
    ·
     rintro w' ⟨s0, s1, s2, s3, s4, s5, s6, s7, s8, s9, s10, s11, s12, s13, s14, s15, s16, s17, s18, s19, s20, s21⟩
     go_simp
     with_reducible rfl
    rotate_left
    ·
     simp only [Act.put, sB, sZ, sS, i64_w, i32_w]
     rfl
    refine pure_ (i := 12) (N := some 88) (v := ?_) (a' := ?_) #[true,true,true,true,true,true,true,true,true,true,true,true,true,false,false,false,false,false,false,false,false,false,false,false,false] rfl rfl (any_of HT_.out (by kernel_rfl)) (fun _ _ _ h => h) (Or.inl ⟨by rfl, ?_⟩) ?_ ?_
    rotate_left; (intro w'; go_simp; first | (with_reducible rfl) | (rw [eqA46 9998]; rfl)); rotate_left; (simp only [Act.put, sB, sZ, sS, i64_w, i32_w]; rfl)
    refine pure_ (i := 13) (N := some 89) (v := ?_) (a' := ?_) #[true,true,true,true,true,true,true,true,true,true,true,true,true,true,false,false,false,false,false,false,false,false,false,false,false] rfl rfl (any_of HT_.out (by kernel_rfl)) (fun _ _ _ h => h) (Or.inl ⟨by rfl, ?_⟩) ?_ ?_
    rotate_left; (intro w'; go_simp; with_reducible rfl); rotate_left; (simp only [Act.put, sB, sZ, sS, i64_w, i32_w]; rfl)
    refine pure_ (i := 14) (N := some 90) (v := ?_) (a' := ?_) #[true,true,true,true,true,true,true,true,true,true,true,true,true,true,true,false,false,false,false,false,false,false,false,false,false] rfl rfl (any_of HT_.out (by kernel_rfl)) (fun _ _ _ h => h) (Or.inl ⟨by rfl, ?_⟩) ?_ ?_
    rotate_left; (intro w'; go_simp; with_reducible rfl); rotate_left; (simp only [Act.put, sB, sZ, sS, i64_w, i32_w]; rfl)
    refine pure_ (i := 15) (N := some 91) (v := ?_) (a' := ?_) #[true,true,true,true,true,true,true,true,true,true,true,true,true,true,true,true,false,false,false,false,false,false,false,false,false] rfl rfl (any_of HT_.out (by kernel_rfl)) (fun _ _ _ h => h) (Or.inl ⟨by rfl, ?_⟩) ?_ ?_
    rotate_left; (intro w'; go_simp; with_reducible rfl); rotate_left; (simp only [Act.put, sB, sZ, sS, i64_w, i32_w]; rfl)
    refine take_ (i := 16) (N := some 92) (v := ?_) (a' := ?_) #[true,true,true,true,true,true,true,true,true,true,true,true,true,true,true,true,true,false,false,false,false,false,false,false,false] rfl rfl (take_ofW HT_.out HW_.out (by kernel_rfl)) (fun _ _ _ h => h) (Or.inl ⟨by rfl, ?_⟩) hHeld ?_ ?_
    rotate_left
    ·
     rintro w' ⟨s0, s1, s2, s3, s4, s5, s6, s7, s8, s9, s10, s11, s12, s13, s14, s15, s16, s17, s18, s19, s20, s21⟩
     go_simp
     with_reducible rfl
    rotate_left
    ·
     simp only [Act.put, sB, sZ, sS, i64_w, i32_w]
     rfl
    refine take_ (i := 17) (N := some 93) (v := ?_) (a' := ?_) #[true,true,true,true,true,true,true,true,true,true,true,true,true,true,true,true,true,true,false,false,false,false,false,false,false] rfl rfl (take_ofW HT_.out HW_.out (by kernel_rfl)) (fun _ _ _ h => h) (Or.inl ⟨by rfl, ?_⟩) hHeld ?_ ?_
    rotate_left
    ·
     rintro w' ⟨s0, s1, s2, s3, s4, s5, s6, s7, s8, s9, s10, s11, s12, s13, s14, s15, s16, s17, s18, s19, s20, s21⟩
     go_simp
     with_reducible rfl
    rotate_left
    ·
     simp only [Act.put, sB, sZ, sS, i64_w, i32_w]
     rfl
    refine pure_ (i := 18) (N := some 94) (v := ?_) (a' := ?_) #[true,true,true,true,true,true,true,true,true,true,true,true,true,true,true,true,true,true,true,false,false,false,false,false,false] rfl rfl (any_of HT_.out (by kernel_rfl)) (fun _ _ _ h => h) (Or.inl ⟨by rfl, ?_⟩) ?_ ?_
    rotate_left; (intro w'; go_simp; first | (with_reducible rfl) | (exact ite6 (fun x => Result.ok (Next.value (Value.bool x)) w') _ _ _ _ _ _ _ _ _ _ _ _)); rotate_left; (simp only [Act.put, sB, sZ, sS, i64_w, i32_w]; rfl)
    refine take_ (i := 19) (N := some 95) (v := ?_) (a' := ?_) #[true,true,true,true,true,true,true,true,true,true,true,true,true,true,true,true,true,true,true,true,false,false,false,false,false] rfl rfl (take_ofW HT_.out HW_.out (by kernel_rfl)) (fun _ _ _ h => h) (Or.inl ⟨by rfl, ?_⟩) hHeld ?_ ?_
    rotate_left
    ·
     rintro w' ⟨s0, s1, s2, s3, s4, s5, s6, s7, s8, s9, s10, s11, s12, s13, s14, s15, s16, s17, s18, s19, s20, s21⟩
     go_simp
     with_reducible rfl
    rotate_left
    ·
     simp only [Act.put, sB, sZ, sS, i64_w, i32_w]
     rfl
    refine take_ (i := 20) (N := some 96) (v := ?_) (a' := ?_) #[true,true,true,true,true,true,true,true,true,true,true,true,true,true,true,true,true,true,true,true,true,false,false,false,false] rfl rfl (take_ofW HT_.out HW_.out (by kernel_rfl)) (fun _ _ _ h => h) (Or.inl ⟨by rfl, ?_⟩) hHeld ?_ ?_
    rotate_left
    ·
     rintro w' ⟨s0, s1, s2, s3, s4, s5, s6, s7, s8, s9, s10, s11, s12, s13, s14, s15, s16, s17, s18, s19, s20, s21⟩
     go_simp
     with_reducible rfl
    rotate_left
    ·
     simp only [Act.put, sB, sZ, sS, i64_w, i32_w]
     rfl
    refine pure_ (i := 21) (N := some 97) (v := ?_) (a' := ?_) #[true,true,true,true,true,true,true,true,true,true,true,true,true,true,true,true,true,true,true,true,true,true,false,false,false] rfl rfl (any_of HT_.out (by kernel_rfl)) (fun _ _ _ h => h) (Or.inl ⟨by rfl, ?_⟩) ?_ ?_
    rotate_left; (intro w'; go_simp; first | (with_reducible rfl) | (rw [eqA46 9998]; rfl)); rotate_left; (simp only [Act.put, sB, sZ, sS, i64_w, i32_w]; rfl)
    refine pure_ (i := 22) (N := some 98) (v := ?_) (a' := ?_) #[true,true,true,true,true,true,true,true,true,true,true,true,true,true,true,true,true,true,true,true,true,true,true,false,false] rfl rfl (any_of HT_.out (by kernel_rfl)) (fun _ _ _ h => h) (Or.inl ⟨by rfl, ?_⟩) ?_ ?_
    rotate_left; (intro w'; go_simp; with_reducible rfl); rotate_left; (simp only [Act.put, sB, sZ, sS, i64_w, i32_w]; rfl)
    refine pure_ (i := 23) (N := some 99) (v := ?_) (a' := ?_) #[true,true,true,true,true,true,true,true,true,true,true,true,true,true,true,true,true,true,true,true,true,true,true,true,false] rfl rfl (any_of HT_.out (by kernel_rfl)) (fun _ _ _ h => h) (Or.inl ⟨by rfl, ?_⟩) ?_ ?_
    rotate_left; (intro w'; go_simp; with_reducible rfl); rotate_left; (simp only [Act.put, sB, sZ, sS, i64_w, i32_w]; rfl)
    refine pure_ (i := 24) (N := some 4) (v := ?_) (a' := ?_) #[true,true,true,true,true,true,true,true,true,true,true,true,true,true,true,true,true,true,true,true,true,true,true,true,true] rfl rfl (any_of HT_.out (by kernel_rfl)) (fun _ _ _ h => h) (Or.inl ⟨by rfl, ?_⟩) ?_ ?_
    rotate_left; (intro w'; go_simp; with_reducible rfl); rotate_left; (simp only [Act.put, sB, sZ, sS, i64_w, i32_w]; rfl)
    refine done_ (done_of HT_.out (by kernel_rfl)) ?_
    try go_wp2
    go_ret
    exact ⟨by first | rfl | (simp [errW_none, errW_some] <;> rfl) | (simp [*, errW_none, errW_some] <;> rfl), by repeat (first | (with_reducible first | exact HB.out | apply below_alloc | apply pw_below_drewN | apply below_drew1 | refine bS ?_ (IsS60.ge HI225.out) | refine bS ?_ GE221.out | refine bS ?_ GE222.out | refine bS ?_ GE240.out | refine bS ?_ GE241.out) | exact HB.out)⟩
  rw [if_neg c108] at H
  exact absurd ((Option.some.inj H).trans hr) Bool.false_ne_true
 · exact absurd (Option.some.inj (A3.out.symm.trans (rfl : conclavelaw09_anchor.f k = some true))) c4
def conclavelaw09_CardNames.Pure : Prop := ∀ (a0_0 : Int) (a0_1 : Int) (a0_2 : Int) (a0_3 : Int) (a0_4 : Int) (a1_0 : Int) (a1_1 : Int) (a1_2 : Int) (a1_3 : Int) (a1_4 : Int), (Lit.int .i64 a0_0).wf = true → (Lit.int .i64 a0_1).wf = true → (Lit.int .i64 a0_2).wf = true → (Lit.int .i64 a0_3).wf = true → (Lit.int .i64 a0_4).wf = true → (Lit.int .i64 a1_0).wf = true → (Lit.int .i64 a1_1).wf = true → (Lit.int .i64 a1_2).wf = true → (Lit.int .i64 a1_3).wf = true → (Lit.int .i64 a1_4).wf = true → ∃ k, conclavelaw09_CardNames.f k a0_0 a0_1 a0_2 a0_3 a0_4 a1_0 a1_1 a1_2 a1_3 a1_4 = some true
theorem conclavelaw09_CardNames.walk (P : conclavelaw09_CardNames.Pure) (a0_0 : Int) (a0_1 : Int) (a0_2 : Int) (a0_3 : Int) (a0_4 : Int) (a1_0 : Int) (a1_1 : Int) (a1_2 : Int) (a1_3 : Int) (a1_4 : Int) (w : World) (hrG : TabG w)  (h0 : (Lit.int .i64 a0_0).wf = true) (h1 : (Lit.int .i64 a0_1).wf = true) (h2 : (Lit.int .i64 a0_2).wf = true) (h3 : (Lit.int .i64 a0_3).wf = true) (h4 : (Lit.int .i64 a0_4).wf = true) (h5 : (Lit.int .i64 a1_0).wf = true) (h6 : (Lit.int .i64 a1_1).wf = true) (h7 : (Lit.int .i64 a1_2).wf = true) (h8 : (Lit.int .i64 a1_3).wf = true) (h9 : (Lit.int .i64 a1_4).wf = true) :
 Calls Tryd.prog 6 #[.agg #[.int .i64 a0_0, .int .i64 a0_1, .int .i64 a0_2, .int .i64 a0_3, .int .i64 a0_4], .agg #[.int .i64 a1_0, .int .i64 a1_1, .int .i64 a1_2, .int .i64 a1_3, .int .i64 a1_4]] w fun e w' => e = .returned (.bool true) ∧ Below w.heap.size w w' := by
 obtain ⟨k, h⟩ := P a0_0 a0_1 a0_2 a0_3 a0_4 a1_0 a1_1 a1_2 a1_3 a1_4 h0 h1 h2 h3 h4 h5 h6 h7 h8 h9
 refine (conclavelaw09_CardNames.calls (hrG := hrG) k a0_0 a0_1 a0_2 a0_3 a0_4 a1_0 a1_1 a1_2 a1_3 a1_4 true w  h rfl).mono ?_
 rintro e w' ⟨rfl, hd⟩
 exact ⟨rfl, hd⟩
end Go.Proofs.YteljmaebhjhedaaDoor.PCn
