-- Written by a program of this session over the translation.
import Derived.Test.YtbblomnhobodkaaDoorPTvx0
import Derived.Test.YtbblomnhobodkaaDoorPTvx1
import Derived.Test.YtbblomnhobodkaaDoorPTvx7
import Derived.Test.YtbblomnhobodkaaDoorPTvx8
namespace Go.Proofs.YtbblomnhobodkaaDoor.PTv
open Go.RowKit Go.Proofs.YtbblomnhobodkaaDoorW.PrintWords Go.Proofs.YtbblomnhobodkaaDoorW.PrintLast Go.Proofs.YtbblomnhobodkaaDoorW.PrintMore
attribute [local go_sem] max2_int min2_int max_two min_two max_three min_three max_four min_four   -- for this text's walks alone
set_option linter.unusedVariables false
set_option linter.unusedSimpArgs false

/-! ### conclaveref04_vertex: function 46 -/
def conclaveref04_vertex.l0 : Nat → List (S29) → Int → Int → Int → Bool → Int → Int → Int → Int → List Int → Option (Bool)
  | 0, _, _, _, _, _, _, _, _, _, _ => none
  | k + 1, x0, x1, x6, x7, x313000, x313001, x313002, x313003, x313004, x313005 => if x7 < (x313005.length : Int) then (if 0 ≤ x7 then (if (rd x313005 x7) ≤ x6 then (some false) else (if (rd x313005 x7) ≥ 64 then (some false) else ((conclaveref04_Full.f x0 (rd x313005 x7)).bind fun t314 => (if t314 = true then ((conclaveref04_Leaves.f x0).bind fun t315 => ((conclaveref03_Under.f k (wrap64 (2 * (rd x313005 x7))) x1 t315).bind fun t316 => (if t316 = true then (conclaveref04_vertex.l0 k x0 x1 (rd x313005 x7) (wrap64 (x7 + 1)) x313000 x313001 x313002 x313003 x313004 x313005) else (some false)))) else (some false))))) else (none)) else (if x313002 = 0 then (some (x313003 == 0)) else (some false))
def conclaveref04_vertex.f (k : Nat) (l0 : List (S29)) (a1 : Int) : Option (Bool) := if 0 ≤ a1 then (if a1 < (l0.length : Int) then (if ((rd_T29 l0 a1).f0 = true) then (if (Int.tmod a1 2) = 0 then (some ((((rd_T29 l0 a1).f5).length : Int) == 0)) else (conclaveref04_vertex.l0 k l0 a1 (-1) 0 ((rd_T29 l0 a1).f0) ((rd_T29 l0 a1).f1) ((rd_T29 l0 a1).f2) ((rd_T29 l0 a1).f3) ((rd_T29 l0 a1).f4) ((rd_T29 l0 a1).f5))) else (if ((rd_T29 l0 a1).f1) = 0 then (if ((rd_T29 l0 a1).f2) = 0 then (if ((rd_T29 l0 a1).f3) = 0 then (if ((rd_T29 l0 a1).f4) = 0 then (some ((((rd_T29 l0 a1).f5).length : Int) == 0)) else (some false)) else (some false)) else (some false)) else (some false))) else (none)) else (none)
theorem conclaveref04_vertex.mono_l : ∀ k, (∀ y0 y1 y2 y3 y4 y5 y6 y7 y8 y9, LeO (conclaveref04_vertex.l0 k y0 y1 y2 y3 y4 y5 y6 y7 y8 y9) (conclaveref04_vertex.l0 (k + 1) y0 y1 y2 y3 y4 y5 y6 y7 y8 y9))
  | 0 => fun _ _ _ _ _ _ _ _ _ _ r h => by simp [conclaveref04_vertex.l0] at h
  | k + 1 => by
    have ih0 := conclaveref04_vertex.mono_l k
    · intro y0 y1 y2 y3 y4 y5 y6 y7 y8 y9
      unfold conclaveref04_vertex.l0
      repeat' first
      | (with_reducible exact ih0 _ _ _ _ _ _ _ _ _ _)
      | (with_reducible exact conclaveref03_Under.mono _ _ _ _)
      | (with_reducible exact LeO.refl _)
      | (with_reducible exact LeO.none _)
      | (with_reducible refine LeO.ite ?_ ?_)
      | (with_reducible refine LeO.bind ?_ (fun _ => ?_))
      | exact ih0 _ _ _ _ _ _ _ _ _ _
      | exact conclaveref03_Under.mono _ _ _ _
      | exact LeO.none _
      | refine LeO.ite ?_ ?_
      | refine LeO.bind ?_ (fun _ => ?_)
theorem conclaveref04_vertex.mono : ∀ a0 a1 k, LeO (conclaveref04_vertex.f k a0 a1) (conclaveref04_vertex.f (k + 1) a0 a1) := by
  intro a0 a1 k
  have ih0 := conclaveref04_vertex.mono_l k
  unfold conclaveref04_vertex.f
  repeat' first
      | (with_reducible exact ih0 _ _ _ _ _ _ _ _ _ _)
      | (with_reducible exact conclaveref03_Under.mono _ _ _ _)
      | (with_reducible exact LeO.refl _)
      | (with_reducible exact LeO.none _)
      | (with_reducible refine LeO.ite ?_ ?_)
      | (with_reducible refine LeO.bind ?_ (fun _ => ?_))
      | exact ih0 _ _ _ _ _ _ _ _ _ _
      | exact conclaveref03_Under.mono _ _ _ _
      | exact LeO.none _
      | refine LeO.ite ?_ ?_
      | refine LeO.bind ?_ (fun _ => ?_)
set_option maxHeartbeats 8000000 in
set_option maxRecDepth 100000 in
theorem conclaveref04_vertex.calls (k : Nat) (A0 : Option Addr) (c0 : Nat) (l0 : List (S29)) (a1 : Int) (r : Bool) (w : World) (hr0 : Kd.C k29 w A0 l0.length l0) (hc0 : l0.length ≤ c0) (h : conclaveref04_vertex.f k l0 a1 = some r) :
    Calls Tryd.prog 46 #[.slice A0 l0.length c0, .int .i64 a1] w fun e w' => e = .returned (.bool r) ∧ Below w.heap.size w w' := by
  have hu29 := Tryd.underlying29
  have HR0 := Aside0.mk hr0
  have HC0 := Aside0.mk hc0
  clear hr0 hc0
  have HB := Aside0.mk (Below.refl w.heap.size w)
  have H : (if 0 ≤ a1 then (if a1 < (l0.length : Int) then (if ((rd_T29 l0 a1).f0 = true) then (if (Int.tmod a1 2) = 0 then (some ((((rd_T29 l0 a1).f5).length : Int) == 0)) else (conclaveref04_vertex.l0 k l0 a1 (-1) 0 ((rd_T29 l0 a1).f0) ((rd_T29 l0 a1).f1) ((rd_T29 l0 a1).f2) ((rd_T29 l0 a1).f3) ((rd_T29 l0 a1).f4) ((rd_T29 l0 a1).f5))) else (if ((rd_T29 l0 a1).f1) = 0 then (if ((rd_T29 l0 a1).f2) = 0 then (if ((rd_T29 l0 a1).f3) = 0 then (if ((rd_T29 l0 a1).f4) = 0 then (some ((((rd_T29 l0 a1).f5).length : Int) == 0)) else (some false)) else (some false)) else (some false)) else (some false))) else (none)) else (none)) = some r := h
  clear h
  by_cases c3 : 0 ≤ a1
  · rw [if_pos c3] at H
    have c3b0 : decide (0 ≤ a1) = true := decide_eq_true c3
    clear c3
    by_cases c4 : a1 < (l0.length : Int)
    · rw [if_pos c4] at H
      have c4b0 : decide (a1 < (l0.length : Int)) = true := decide_eq_true c4
      clear c4
      obtain ⟨bq5, hbq5⟩ : ∃ b_ : Bool, b_ = ((rd_T29 l0 a1).f0) := ⟨_, rfl⟩
      replace H : (if (bq5 = true) then (if (Int.tmod a1 2) = 0 then (some ((((rd_T29 l0 a1).f5).length : Int) == 0)) else (conclaveref04_vertex.l0 k l0 a1 (-1) 0 bq5 ((rd_T29 l0 a1).f1) ((rd_T29 l0 a1).f2) ((rd_T29 l0 a1).f3) ((rd_T29 l0 a1).f4) ((rd_T29 l0 a1).f5))) else (if ((rd_T29 l0 a1).f1) = 0 then (if ((rd_T29 l0 a1).f2) = 0 then (if ((rd_T29 l0 a1).f3) = 0 then (if ((rd_T29 l0 a1).f4) = 0 then (some ((((rd_T29 l0 a1).f5).length : Int) == 0)) else (some false)) else (some false)) else (some false)) else (some false))) = some r := by rw [← hbq5] at H; exact H
      have Nbq5 := Aside0.mk hbq5
      clear hbq5
      by_cases c6 : (bq5 = true)
      · subst c6
        have H1 : (if (Int.tmod a1 2) = 0 then (some ((((rd_T29 l0 a1).f5).length : Int) == 0)) else (conclaveref04_vertex.l0 k l0 a1 (-1) 0 true ((rd_T29 l0 a1).f1) ((rd_T29 l0 a1).f2) ((rd_T29 l0 a1).f3) ((rd_T29 l0 a1).f4) ((rd_T29 l0 a1).f5))) = some r := by rw [if_pos rfl] at H; exact H
        clear H
        have H := H1
        clear H1
        by_cases c7 : (Int.tmod a1 2) = 0
        · rw [if_pos c7] at H
          have c7b0 : ((Int.tmod a1 2) == 0) = true := beq_iff_eq.mpr c7
          have c7b1 : ((Int.tmod a1 2) != 0) = false := bne_eq_false_iff_eq.mpr c7
          clear c7
          obtain rfl := Option.some.inj H
          have p311 : 0 ≤ (a1 : Int) := of_decide_eq_true (by first | (with_reducible assumption) | assumption)
          have q311 : a1 < (l0.length : Int) := of_decide_eq_true (by first | (with_reducible assumption) | assumption)
          obtain ⟨ad311, A311_5, c311_5, e311, hx311_0, hx311_1, hx311_2, hx311_3, hx311_4, hx311_5, hl311_5, hi311_5⟩ := at_T29 HR0.out a1 p311 q311
          (try rw [← Nbq5.out] at hx311_0)
          cases e311
          have HR311_5 := Aside0.mk hi311_5
          have HC311_5 := Aside0.mk hl311_5
          clear hi311_5 hl311_5
          replace p311 := eq_true p311
          replace q311 := eq_true q311
          go_enter Tryd.func46, Tryd.ntmps46
          go_wp2_with (first | ((with_reducible refine gate_dst (N := 5) rfl ?_); (try (refine gate_guard (by rfl) ?_; dsimp only)); refine box_event ?hg (N := 5) ?hd (cs := #[.bool false, .int .i64 0, .int .i64 0, .int .i64 0, .int .i64 0, .slice none 0 0]) (t := 29) ?hr ?_; (case hd => rfl); (case hg => rfl); (case hr => first | (go_simp; done) | (go_simp; rfl)); intro gb312 hg w8 hbox hb; have n0_ := Aside0.mk (below_step (by repeat (first | (with_reducible first | exact HB.out | apply below_alloc | apply pw_below_drewN | apply below_drew1) | exact HB.out)) hb); have n1_ := Aside0.mk (hbox); have n2_ := Aside0.mk ((by rw [hg]; exact (below_size (by repeat (first | (with_reducible first | exact HB.out | apply below_alloc | apply pw_below_drewN | apply below_drew1) | exact HB.out))) : w.heap.size ≤ gb312)); have n3_ := Aside0.mk ((by rw [hg]; exact (below_size (by repeat (first | (with_reducible first | exact HB.out | apply below_alloc | apply pw_below_drewN | apply below_drew1) | exact HB.out))) : w.heap.size ≤ gb312)); clear HB; have HB := n0_; have BK312 := n1_; have GW312 := n2_; have GE312 := n3_; clear n0_ n1_ n2_ n3_; clear hb hbox hg; have hcz9_0 : w8.cell? ⟨gb312, 0, none⟩ = some (.bool false) := (blk_cell BK312.out 0).trans rfl; have hcz9_1 : w8.cell? ⟨gb312, 1, none⟩ = some (.int .i64 0) := (blk_cell BK312.out 1).trans rfl; have hcz9_2 : w8.cell? ⟨gb312, 2, none⟩ = some (.int .i64 0) := (blk_cell BK312.out 2).trans rfl; have hcz9_3 : w8.cell? ⟨gb312, 3, none⟩ = some (.int .i64 0) := (blk_cell BK312.out 3).trans rfl; have hcz9_4 : w8.cell? ⟨gb312, 4, none⟩ = some (.int .i64 0) := (blk_cell BK312.out 4).trans rfl; have hcz9_5 : w8.cell? ⟨gb312, 5, none⟩ = some (.slice none 0 0) := (blk_cell BK312.out 5).trans rfl; have hfz9_0 := blk_frozen BK312.out 0; have hfz9_1 := blk_frozen BK312.out 1; have hfz9_2 := blk_frozen BK312.out 2; have hfz9_3 := blk_frozen BK312.out 3; have hfz9_4 := blk_frozen BK312.out 4; have hfz9_5 := blk_frozen BK312.out 5))
          go_ret
          exact ⟨by first | rfl | (simp [errW_none, errW_some] <;> rfl) | (simp [*, errW_none, errW_some] <;> rfl), by repeat (first | (with_reducible first | exact HB.out | apply below_alloc | apply pw_below_drewN | apply below_drew1 | refine below_set ?_ GE312.out) | exact HB.out)⟩
        · rw [if_neg c7] at H
          have c7b0 : ((Int.tmod a1 2) == 0) = false := beq_eq_false_iff_ne.mpr c7
          have c7b1 : ((Int.tmod a1 2) != 0) = true := bne_iff_ne.mpr c7
          have H' := Aside0.mk H
          clear H
          have p311 : 0 ≤ (a1 : Int) := of_decide_eq_true (by first | (with_reducible assumption) | assumption)
          have q311 : a1 < (l0.length : Int) := of_decide_eq_true (by first | (with_reducible assumption) | assumption)
          obtain ⟨ad311, A311_5, c311_5, e311, hx311_0, hx311_1, hx311_2, hx311_3, hx311_4, hx311_5, hl311_5, hi311_5⟩ := at_T29 HR0.out a1 p311 q311
          (try rw [← Nbq5.out] at hx311_0)
          cases e311
          have HR311_5 := Aside0.mk hi311_5
          have HC311_5 := Aside0.mk hl311_5
          clear hi311_5 hl311_5
          replace p311 := eq_true p311
          replace q311 := eq_true q311
          go_enter Tryd.func46, Tryd.ntmps46
          go_wp2_with (first | ((with_reducible refine gate_dst (N := 5) rfl ?_); (try (refine gate_guard (by rfl) ?_; dsimp only)); refine box_event ?hg (N := 5) ?hd (cs := #[.bool false, .int .i64 0, .int .i64 0, .int .i64 0, .int .i64 0, .slice none 0 0]) (t := 29) ?hr ?_; (case hd => rfl); (case hg => rfl); (case hr => first | (go_simp; done) | (go_simp; rfl)); intro gb312 hg w10 hbox hb; have n0_ := Aside0.mk (below_step (by repeat (first | (with_reducible first | exact HB.out | apply below_alloc | apply pw_below_drewN | apply below_drew1) | exact HB.out)) hb); have n1_ := Aside0.mk (hbox); have n2_ := Aside0.mk ((by rw [hg]; exact (below_size (by repeat (first | (with_reducible first | exact HB.out | apply below_alloc | apply pw_below_drewN | apply below_drew1) | exact HB.out))) : w.heap.size ≤ gb312)); have n3_ := Aside0.mk ((by rw [hg]; exact (below_size (by repeat (first | (with_reducible first | exact HB.out | apply below_alloc | apply pw_below_drewN | apply below_drew1) | exact HB.out))) : w.heap.size ≤ gb312)); clear HB; have HB := n0_; have BK312 := n1_; have GW312 := n2_; have GE312 := n3_; clear n0_ n1_ n2_ n3_; clear hb hbox hg; have hcz11_0 : w10.cell? ⟨gb312, 0, none⟩ = some (.bool false) := (blk_cell BK312.out 0).trans rfl; have hcz11_1 : w10.cell? ⟨gb312, 1, none⟩ = some (.int .i64 0) := (blk_cell BK312.out 1).trans rfl; have hcz11_2 : w10.cell? ⟨gb312, 2, none⟩ = some (.int .i64 0) := (blk_cell BK312.out 2).trans rfl; have hcz11_3 : w10.cell? ⟨gb312, 3, none⟩ = some (.int .i64 0) := (blk_cell BK312.out 3).trans rfl; have hcz11_4 : w10.cell? ⟨gb312, 4, none⟩ = some (.int .i64 0) := (blk_cell BK312.out 4).trans rfl; have hcz11_5 : w10.cell? ⟨gb312, 5, none⟩ = some (.slice none 0 0) := (blk_cell BK312.out 5).trans rfl; have hfz11_0 := blk_frozen BK312.out 0; have hfz11_1 := blk_frozen BK312.out 1; have hfz11_2 := blk_frozen BK312.out 2; have hfz11_3 := blk_frozen BK312.out 3; have hfz11_4 := blk_frozen BK312.out 4; have hfz11_5 := blk_frozen BK312.out 5))
          go_loopg [6, 7] k (fun kq v6 v7 w' => ∃ (x6_1 : Int) (x7_1 : Int), v6 = .int .i64 x6_1 ∧ v7 = .int .i64 x7_1 ∧ Aside0 (conclaveref04_vertex.l0 kq l0 a1 x6_1 x7_1 true ((rd_T29 l0 a1).f1) ((rd_T29 l0 a1).f2) ((rd_T29 l0 a1).f3) ((rd_T29 l0 a1).f4) ((rd_T29 l0 a1).f5) = some r) ∧ Aside0 (kq ≤ k) ∧ Aside0 (w'.heap[gb312]? = some (.cells #[.bool true, .int .i64 ((rd_T29 l0 a1).f1), .int .i64 ((rd_T29 l0 a1).f2), .int .i64 ((rd_T29 l0 a1).f3), .int .i64 ((rd_T29 l0 a1).f4), (.slice A311_5 ((rd_T29 l0 a1).f5).length c311_5)] 29 (0, 0))) ∧ Aside0 (Below w.heap.size w w'))
          case atStart => exact ⟨((-1)), (0), (by first | rfl | (simp; done) | (simp [*]; done)), (by first | rfl | (simp; done) | (simp [*]; done)), H', ⟨Nat.le_refl _⟩, ⟨by (with_reducible repeat (first | refine blk_drewN ?_ _ | refine blk_drew ?_ | refine blk_alloc ?_ _)); refine blk_put (cs := #[.bool true, .int .i64 ((rd_T29 l0 a1).f1), .int .i64 ((rd_T29 l0 a1).f2), .int .i64 ((rd_T29 l0 a1).f3), .int .i64 ((rd_T29 l0 a1).f4), .slice none 0 0]) ?_ 5 _ rfl; (with_reducible repeat (first | refine blk_drewN ?_ _ | refine blk_drew ?_ | refine blk_alloc ?_ _)); refine blk_put (cs := #[.bool true, .int .i64 ((rd_T29 l0 a1).f1), .int .i64 ((rd_T29 l0 a1).f2), .int .i64 ((rd_T29 l0 a1).f3), .int .i64 0, .slice none 0 0]) ?_ 4 _ rfl; (with_reducible repeat (first | refine blk_drewN ?_ _ | refine blk_drew ?_ | refine blk_alloc ?_ _)); refine blk_put (cs := #[.bool true, .int .i64 ((rd_T29 l0 a1).f1), .int .i64 ((rd_T29 l0 a1).f2), .int .i64 0, .int .i64 0, .slice none 0 0]) ?_ 3 _ rfl; (with_reducible repeat (first | refine blk_drewN ?_ _ | refine blk_drew ?_ | refine blk_alloc ?_ _)); refine blk_put (cs := #[.bool true, .int .i64 ((rd_T29 l0 a1).f1), .int .i64 0, .int .i64 0, .int .i64 0, .slice none 0 0]) ?_ 2 _ rfl; (with_reducible repeat (first | refine blk_drewN ?_ _ | refine blk_drew ?_ | refine blk_alloc ?_ _)); refine blk_put (cs := #[.bool true, .int .i64 0, .int .i64 0, .int .i64 0, .int .i64 0, .slice none 0 0]) ?_ 1 _ rfl; (with_reducible repeat (first | refine blk_drewN ?_ _ | refine blk_drew ?_ | refine blk_alloc ?_ _)); refine blk_put (cs := #[.bool false, .int .i64 0, .int .i64 0, .int .i64 0, .int .i64 0, .slice none 0 0]) ?_ 0 _ rfl; (with_reducible repeat (first | refine blk_drewN ?_ _ | refine blk_drew ?_ | refine blk_alloc ?_ _)); exact BK312.out⟩, ⟨by repeat (first | (with_reducible first | exact HB.out | apply below_alloc | apply pw_below_drewN | apply below_drew1 | refine below_set ?_ GE312.out) | exact HB.out)⟩⟩
          case round =>
            clear H'
            try clear p2
            try clear c3
            try clear c3b0
            try clear p3
            try clear q3
            try clear hx3
            try clear c4
            try clear c4b0
            try clear q5
            try clear c6
            try clear c7
            try clear c7b0
            try clear c7b1
            try clear hcz11_0
            try clear hcz11_1
            try clear hcz11_2
            try clear hcz11_3
            try clear hcz11_4
            try clear hcz11_5
            try clear hcz9_0
            try clear hcz9_1
            try clear hcz9_2
            try clear hcz9_3
            try clear hcz9_4
            try clear hcz9_5
            try clear hfz11_0
            try clear hfz11_1
            try clear hfz11_2
            try clear hfz11_3
            try clear hfz11_4
            try clear hfz11_5
            try clear hfz9_0
            try clear hfz9_1
            try clear hfz9_2
            try clear hfz9_3
            try clear hfz9_4
            try clear hfz9_5
            try clear hx311_0
            try clear hx311_1
            try clear hx311_2
            try clear hx311_3
            try clear hx311_4
            try clear hx311_5
            try clear p311
            try clear q311
            obtain ⟨x6_1, x7_1, rfl, rfl, HA, HK1, BK312, HB⟩ := hrel
            cases gk with
            | zero => exact absurd HA.out (by simp [conclaveref04_vertex.l0])
            | succ k1 =>
              have H := HA.out
              clear HA
              simp only [conclaveref04_vertex.l0] at H
              by_cases c12 : x7_1 < (((rd_T29 l0 a1).f5).length : Int)
              · rw [if_pos c12] at H
                have c12b0 : decide (x7_1 < (((rd_T29 l0 a1).f5).length : Int)) = true := decide_eq_true c12
                clear c12
                by_cases c13 : 0 ≤ x7_1
                · rw [if_pos c13] at H
                  have c13b0 : decide (0 ≤ x7_1) = true := decide_eq_true c13
                  clear c13
                  by_cases c14 : (rd ((rd_T29 l0 a1).f5) x7_1) ≤ x6_1
                  · rw [if_pos c14] at H
                    have c14b0 : decide ((rd ((rd_T29 l0 a1).f5) x7_1) ≤ x6_1) = true := decide_eq_true c14
                    clear c14
                    obtain rfl := Option.some.inj H
                    have hcz15_0 : wr.cell? ⟨gb312, 0, none⟩ = some (.bool true) := (blk_cell BK312.out 0).trans rfl
                    have hcz15_1 : wr.cell? ⟨gb312, 1, none⟩ = some (.int .i64 ((rd_T29 l0 a1).f1)) := (blk_cell BK312.out 1).trans rfl
                    have hcz15_2 : wr.cell? ⟨gb312, 2, none⟩ = some (.int .i64 ((rd_T29 l0 a1).f2)) := (blk_cell BK312.out 2).trans rfl
                    have hcz15_3 : wr.cell? ⟨gb312, 3, none⟩ = some (.int .i64 ((rd_T29 l0 a1).f3)) := (blk_cell BK312.out 3).trans rfl
                    have hcz15_4 : wr.cell? ⟨gb312, 4, none⟩ = some (.int .i64 ((rd_T29 l0 a1).f4)) := (blk_cell BK312.out 4).trans rfl
                    have hcz15_5 : wr.cell? ⟨gb312, 5, none⟩ = some (.slice A311_5 ((rd_T29 l0 a1).f5).length c311_5) := (blk_cell BK312.out 5).trans rfl
                    have hfz15_0 := blk_frozen BK312.out 0
                    have hfz15_1 := blk_frozen BK312.out 1
                    have hfz15_2 := blk_frozen BK312.out 2
                    have hfz15_3 := blk_frozen BK312.out 3
                    have hfz15_4 := blk_frozen BK312.out 4
                    have hfz15_5 := blk_frozen BK312.out 5
                    have p313 : 0 ≤ (x7_1 : Int) := of_decide_eq_true (by first | (with_reducible assumption) | assumption)
                    have q313 : x7_1 < (((rd_T29 l0 a1).f5).length : Int) := of_decide_eq_true (by first | (with_reducible assumption) | assumption)
                    obtain ⟨ad313, e313, hx313_0⟩ := Kd.at_int HR311_5.out x7_1 p313 q313
                    cases e313
                    replace hx313_0 := (HB.out.cell (World.block_lt_of_cell? w _ hx313_0)).trans hx313_0
                    replace p313 := eq_true p313
                    replace q313 := eq_true q313
                    go_wp2
                    go_ret
                    exact ⟨by first | rfl | (simp [errW_none, errW_some] <;> rfl) | (simp [*, errW_none, errW_some] <;> rfl), by repeat (first | (with_reducible first | exact HB.out | apply below_alloc | apply pw_below_drewN | apply below_drew1 | refine below_set ?_ GE312.out) | exact HB.out)⟩
                  · rw [if_neg c14] at H
                    have c14b0 : decide ((rd ((rd_T29 l0 a1).f5) x7_1) ≤ x6_1) = false := decide_eq_false c14
                    clear c14
                    by_cases c16 : (rd ((rd_T29 l0 a1).f5) x7_1) ≥ 64
                    · rw [if_pos c16] at H
                      have c16b0 : decide (64 ≤ (rd ((rd_T29 l0 a1).f5) x7_1)) = true := decide_eq_true c16
                      clear c16
                      obtain rfl := Option.some.inj H
                      have hcz17_0 : wr.cell? ⟨gb312, 0, none⟩ = some (.bool true) := (blk_cell BK312.out 0).trans rfl
                      have hcz17_1 : wr.cell? ⟨gb312, 1, none⟩ = some (.int .i64 ((rd_T29 l0 a1).f1)) := (blk_cell BK312.out 1).trans rfl
                      have hcz17_2 : wr.cell? ⟨gb312, 2, none⟩ = some (.int .i64 ((rd_T29 l0 a1).f2)) := (blk_cell BK312.out 2).trans rfl
                      have hcz17_3 : wr.cell? ⟨gb312, 3, none⟩ = some (.int .i64 ((rd_T29 l0 a1).f3)) := (blk_cell BK312.out 3).trans rfl
                      have hcz17_4 : wr.cell? ⟨gb312, 4, none⟩ = some (.int .i64 ((rd_T29 l0 a1).f4)) := (blk_cell BK312.out 4).trans rfl
                      have hcz17_5 : wr.cell? ⟨gb312, 5, none⟩ = some (.slice A311_5 ((rd_T29 l0 a1).f5).length c311_5) := (blk_cell BK312.out 5).trans rfl
                      have hfz17_0 := blk_frozen BK312.out 0
                      have hfz17_1 := blk_frozen BK312.out 1
                      have hfz17_2 := blk_frozen BK312.out 2
                      have hfz17_3 := blk_frozen BK312.out 3
                      have hfz17_4 := blk_frozen BK312.out 4
                      have hfz17_5 := blk_frozen BK312.out 5
                      have p313 : 0 ≤ (x7_1 : Int) := of_decide_eq_true (by first | (with_reducible assumption) | assumption)
                      have q313 : x7_1 < (((rd_T29 l0 a1).f5).length : Int) := of_decide_eq_true (by first | (with_reducible assumption) | assumption)
                      obtain ⟨ad313, e313, hx313_0⟩ := Kd.at_int HR311_5.out x7_1 p313 q313
                      cases e313
                      replace hx313_0 := (HB.out.cell (World.block_lt_of_cell? w _ hx313_0)).trans hx313_0
                      replace p313 := eq_true p313
                      replace q313 := eq_true q313
                      go_wp2
                      go_ret
                      exact ⟨by first | rfl | (simp [errW_none, errW_some] <;> rfl) | (simp [*, errW_none, errW_some] <;> rfl), by repeat (first | (with_reducible first | exact HB.out | apply below_alloc | apply pw_below_drewN | apply below_drew1 | refine below_set ?_ GE312.out) | exact HB.out)⟩
                    · rw [if_neg c16] at H
                      have c16b0 : decide (64 ≤ (rd ((rd_T29 l0 a1).f5) x7_1)) = false := decide_eq_false c16
                      clear c16
                      replace H := Option.bind_eq_some_iff.mp H
                      obtain ⟨t314, A180, H⟩ := H
                      replace H : (if t314 = true then ((conclaveref04_Leaves.f l0).bind fun t315 => ((conclaveref03_Under.f k1 (wrap64 (2 * (rd ((rd_T29 l0 a1).f5) x7_1))) a1 t315).bind fun t316 => (if t316 = true then (conclaveref04_vertex.l0 k1 l0 a1 (rd ((rd_T29 l0 a1).f5) x7_1) (wrap64 (x7_1 + 1)) true ((rd_T29 l0 a1).f1) ((rd_T29 l0 a1).f2) ((rd_T29 l0 a1).f3) ((rd_T29 l0 a1).f4) ((rd_T29 l0 a1).f5)) else (some false)))) else (some false)) = some r := H
                      have A18 := Aside0.mk A180
                      clear A180
                      by_cases c19 : t314 = true
                      · subst c19
                        have H1 : ((conclaveref04_Leaves.f l0).bind fun t315 => ((conclaveref03_Under.f k1 (wrap64 (2 * (rd ((rd_T29 l0 a1).f5) x7_1))) a1 t315).bind fun t316 => (if t316 = true then (conclaveref04_vertex.l0 k1 l0 a1 (rd ((rd_T29 l0 a1).f5) x7_1) (wrap64 (x7_1 + 1)) true ((rd_T29 l0 a1).f1) ((rd_T29 l0 a1).f2) ((rd_T29 l0 a1).f3) ((rd_T29 l0 a1).f4) ((rd_T29 l0 a1).f5)) else (some false)))) = some r := by rw [if_pos rfl] at H; exact H
                        clear H
                        have H := H1
                        clear H1
                        replace H := Option.bind_eq_some_iff.mp H
                        obtain ⟨t315, A200, H⟩ := H
                        replace H : ((conclaveref03_Under.f k1 (wrap64 (2 * (rd ((rd_T29 l0 a1).f5) x7_1))) a1 t315).bind fun t316 => (if t316 = true then (conclaveref04_vertex.l0 k1 l0 a1 (rd ((rd_T29 l0 a1).f5) x7_1) (wrap64 (x7_1 + 1)) true ((rd_T29 l0 a1).f1) ((rd_T29 l0 a1).f2) ((rd_T29 l0 a1).f3) ((rd_T29 l0 a1).f4) ((rd_T29 l0 a1).f5)) else (some false))) = some r := H
                        have A20 := Aside0.mk A200
                        clear A200
                        replace H := Option.bind_eq_some_iff.mp H
                        obtain ⟨t316, A210, H⟩ := H
                        replace H : (if t316 = true then (conclaveref04_vertex.l0 k1 l0 a1 (rd ((rd_T29 l0 a1).f5) x7_1) (wrap64 (x7_1 + 1)) true ((rd_T29 l0 a1).f1) ((rd_T29 l0 a1).f2) ((rd_T29 l0 a1).f3) ((rd_T29 l0 a1).f4) ((rd_T29 l0 a1).f5)) else (some false)) = some r := H
                        have A21 := Aside0.mk A210
                        clear A210
                        by_cases c22 : t316 = true
                        · subst c22
                          have H1 : (conclaveref04_vertex.l0 k1 l0 a1 (rd ((rd_T29 l0 a1).f5) x7_1) (wrap64 (x7_1 + 1)) true ((rd_T29 l0 a1).f1) ((rd_T29 l0 a1).f2) ((rd_T29 l0 a1).f3) ((rd_T29 l0 a1).f4) ((rd_T29 l0 a1).f5)) = some r := by rw [if_pos rfl] at H; exact H
                          clear H
                          have H := H1
                          clear H1
                          have H' := Aside0.mk H
                          clear H
                          have hcz23_0 : wr.cell? ⟨gb312, 0, none⟩ = some (.bool true) := (blk_cell BK312.out 0).trans rfl
                          have hcz23_1 : wr.cell? ⟨gb312, 1, none⟩ = some (.int .i64 ((rd_T29 l0 a1).f1)) := (blk_cell BK312.out 1).trans rfl
                          have hcz23_2 : wr.cell? ⟨gb312, 2, none⟩ = some (.int .i64 ((rd_T29 l0 a1).f2)) := (blk_cell BK312.out 2).trans rfl
                          have hcz23_3 : wr.cell? ⟨gb312, 3, none⟩ = some (.int .i64 ((rd_T29 l0 a1).f3)) := (blk_cell BK312.out 3).trans rfl
                          have hcz23_4 : wr.cell? ⟨gb312, 4, none⟩ = some (.int .i64 ((rd_T29 l0 a1).f4)) := (blk_cell BK312.out 4).trans rfl
                          have hcz23_5 : wr.cell? ⟨gb312, 5, none⟩ = some (.slice A311_5 ((rd_T29 l0 a1).f5).length c311_5) := (blk_cell BK312.out 5).trans rfl
                          have hfz23_0 := blk_frozen BK312.out 0
                          have hfz23_1 := blk_frozen BK312.out 1
                          have hfz23_2 := blk_frozen BK312.out 2
                          have hfz23_3 := blk_frozen BK312.out 3
                          have hfz23_4 := blk_frozen BK312.out 4
                          have hfz23_5 := blk_frozen BK312.out 5
                          have p313 : 0 ≤ (x7_1 : Int) := of_decide_eq_true (by first | (with_reducible assumption) | assumption)
                          have q313 : x7_1 < (((rd_T29 l0 a1).f5).length : Int) := of_decide_eq_true (by first | (with_reducible assumption) | assumption)
                          obtain ⟨ad313, e313, hx313_0⟩ := Kd.at_int HR311_5.out x7_1 p313 q313
                          cases e313
                          replace hx313_0 := (HB.out.cell (World.block_lt_of_cell? w _ hx313_0)).trans hx313_0
                          replace p313 := eq_true p313
                          replace q313 := eq_true q313
                          go_wp2_with (first | (go_at_call 22; (with_reducible refine (conclaveref04_Full.calls _ _ l0 (rd ((rd_T29 l0 a1).f5) x7_1) true _ ?side1 ?side2 A18.out).mono ?_); (case side1 => repeat (first | exact (Kd.C_below HR0.out HB.out) | (with_reducible refine Kd.C_alloc ?_ _) | (with_reducible refine Kd.C_drewN ?_ _) | (with_reducible refine Kd.C_drew ?_))); (case side2 => exact HC0.out); rintro e w' ⟨rfl, ⟨nd, rfl⟩⟩) | (go_at_call 21; (with_reducible refine (conclaveref04_Leaves.calls _ _ l0 t315 _ ?side1 ?side2 A20.out).mono ?_); (case side1 => repeat (first | exact (Kd.C_below HR0.out (by repeat (first | (with_reducible first | exact HB.out | apply below_alloc | apply pw_below_drewN | apply below_drew1 | refine below_set ?_ GE312.out) | exact HB.out))) | (with_reducible refine Kd.C_alloc ?_ _) | (with_reducible refine Kd.C_drewN ?_ _) | (with_reducible refine Kd.C_drew ?_))); (case side2 => exact HC0.out); rintro e w' ⟨rfl, ⟨nd, rfl⟩⟩) | (go_at_call 26; (with_reducible refine (conclaveref03_Under.calls k1 (wrap64 (2 * (rd ((rd_T29 l0 a1).f5) x7_1))) a1 t315 true _ A21.out).mono ?_); rintro e w' ⟨rfl, ⟨nd, rfl⟩⟩))
                          go_roundg k1
                          case measure => have := HK1.out; omega
                          case rel => exact ⟨(rd ((rd_T29 l0 a1).f5) x7_1), (wrap64 (x7_1 + 1)), (by first | rfl | (simp; done) | (simp [*]; done)), (by first | rfl | (simp; done) | (simp [*]; done)), H', ⟨by have := HK1.out; omega⟩, ⟨by (with_reducible repeat (first | refine blk_drewN ?_ _ | refine blk_drew ?_ | refine blk_alloc ?_ _)); exact BK312.out⟩, ⟨by repeat (first | (with_reducible first | exact HB.out | apply below_alloc | apply pw_below_drewN | apply below_drew1 | refine below_set ?_ GE312.out) | exact HB.out)⟩⟩
                        · replace c22 := Bool.eq_false_iff.mpr c22
                          subst c22
                          have H1 : (some false) = some r := by rw [if_neg (show ¬ (false = true) by decide)] at H; exact H
                          clear H
                          have H := H1
                          clear H1
                          obtain rfl := Option.some.inj H
                          have hcz24_0 : wr.cell? ⟨gb312, 0, none⟩ = some (.bool true) := (blk_cell BK312.out 0).trans rfl
                          have hcz24_1 : wr.cell? ⟨gb312, 1, none⟩ = some (.int .i64 ((rd_T29 l0 a1).f1)) := (blk_cell BK312.out 1).trans rfl
                          have hcz24_2 : wr.cell? ⟨gb312, 2, none⟩ = some (.int .i64 ((rd_T29 l0 a1).f2)) := (blk_cell BK312.out 2).trans rfl
                          have hcz24_3 : wr.cell? ⟨gb312, 3, none⟩ = some (.int .i64 ((rd_T29 l0 a1).f3)) := (blk_cell BK312.out 3).trans rfl
                          have hcz24_4 : wr.cell? ⟨gb312, 4, none⟩ = some (.int .i64 ((rd_T29 l0 a1).f4)) := (blk_cell BK312.out 4).trans rfl
                          have hcz24_5 : wr.cell? ⟨gb312, 5, none⟩ = some (.slice A311_5 ((rd_T29 l0 a1).f5).length c311_5) := (blk_cell BK312.out 5).trans rfl
                          have hfz24_0 := blk_frozen BK312.out 0
                          have hfz24_1 := blk_frozen BK312.out 1
                          have hfz24_2 := blk_frozen BK312.out 2
                          have hfz24_3 := blk_frozen BK312.out 3
                          have hfz24_4 := blk_frozen BK312.out 4
                          have hfz24_5 := blk_frozen BK312.out 5
                          have p313 : 0 ≤ (x7_1 : Int) := of_decide_eq_true (by first | (with_reducible assumption) | assumption)
                          have q313 : x7_1 < (((rd_T29 l0 a1).f5).length : Int) := of_decide_eq_true (by first | (with_reducible assumption) | assumption)
                          obtain ⟨ad313, e313, hx313_0⟩ := Kd.at_int HR311_5.out x7_1 p313 q313
                          cases e313
                          replace hx313_0 := (HB.out.cell (World.block_lt_of_cell? w _ hx313_0)).trans hx313_0
                          replace p313 := eq_true p313
                          replace q313 := eq_true q313
                          go_wp2_with (first | (go_at_call 22; (with_reducible refine (conclaveref04_Full.calls _ _ l0 (rd ((rd_T29 l0 a1).f5) x7_1) true _ ?side1 ?side2 A18.out).mono ?_); (case side1 => repeat (first | exact (Kd.C_below HR0.out HB.out) | (with_reducible refine Kd.C_alloc ?_ _) | (with_reducible refine Kd.C_drewN ?_ _) | (with_reducible refine Kd.C_drew ?_))); (case side2 => exact HC0.out); rintro e w' ⟨rfl, ⟨nd, rfl⟩⟩) | (go_at_call 21; (with_reducible refine (conclaveref04_Leaves.calls _ _ l0 t315 _ ?side1 ?side2 A20.out).mono ?_); (case side1 => repeat (first | exact (Kd.C_below HR0.out (by repeat (first | (with_reducible first | exact HB.out | apply below_alloc | apply pw_below_drewN | apply below_drew1 | refine below_set ?_ GE312.out) | exact HB.out))) | (with_reducible refine Kd.C_alloc ?_ _) | (with_reducible refine Kd.C_drewN ?_ _) | (with_reducible refine Kd.C_drew ?_))); (case side2 => exact HC0.out); rintro e w' ⟨rfl, ⟨nd, rfl⟩⟩) | (go_at_call 26; (with_reducible refine (conclaveref03_Under.calls k1 (wrap64 (2 * (rd ((rd_T29 l0 a1).f5) x7_1))) a1 t315 false _ A21.out).mono ?_); rintro e w' ⟨rfl, ⟨nd, rfl⟩⟩))
                          go_ret
                          exact ⟨by first | rfl | (simp [errW_none, errW_some] <;> rfl) | (simp [*, errW_none, errW_some] <;> rfl), by repeat (first | (with_reducible first | exact HB.out | apply below_alloc | apply pw_below_drewN | apply below_drew1 | refine below_set ?_ GE312.out) | exact HB.out)⟩
                      · replace c19 := Bool.eq_false_iff.mpr c19
                        subst c19
                        have H1 : (some false) = some r := by rw [if_neg (show ¬ (false = true) by decide)] at H; exact H
                        clear H
                        have H := H1
                        clear H1
                        obtain rfl := Option.some.inj H
                        have hcz25_0 : wr.cell? ⟨gb312, 0, none⟩ = some (.bool true) := (blk_cell BK312.out 0).trans rfl
                        have hcz25_1 : wr.cell? ⟨gb312, 1, none⟩ = some (.int .i64 ((rd_T29 l0 a1).f1)) := (blk_cell BK312.out 1).trans rfl
                        have hcz25_2 : wr.cell? ⟨gb312, 2, none⟩ = some (.int .i64 ((rd_T29 l0 a1).f2)) := (blk_cell BK312.out 2).trans rfl
                        have hcz25_3 : wr.cell? ⟨gb312, 3, none⟩ = some (.int .i64 ((rd_T29 l0 a1).f3)) := (blk_cell BK312.out 3).trans rfl
                        have hcz25_4 : wr.cell? ⟨gb312, 4, none⟩ = some (.int .i64 ((rd_T29 l0 a1).f4)) := (blk_cell BK312.out 4).trans rfl
                        have hcz25_5 : wr.cell? ⟨gb312, 5, none⟩ = some (.slice A311_5 ((rd_T29 l0 a1).f5).length c311_5) := (blk_cell BK312.out 5).trans rfl
                        have hfz25_0 := blk_frozen BK312.out 0
                        have hfz25_1 := blk_frozen BK312.out 1
                        have hfz25_2 := blk_frozen BK312.out 2
                        have hfz25_3 := blk_frozen BK312.out 3
                        have hfz25_4 := blk_frozen BK312.out 4
                        have hfz25_5 := blk_frozen BK312.out 5
                        have p313 : 0 ≤ (x7_1 : Int) := of_decide_eq_true (by first | (with_reducible assumption) | assumption)
                        have q313 : x7_1 < (((rd_T29 l0 a1).f5).length : Int) := of_decide_eq_true (by first | (with_reducible assumption) | assumption)
                        obtain ⟨ad313, e313, hx313_0⟩ := Kd.at_int HR311_5.out x7_1 p313 q313
                        cases e313
                        replace hx313_0 := (HB.out.cell (World.block_lt_of_cell? w _ hx313_0)).trans hx313_0
                        replace p313 := eq_true p313
                        replace q313 := eq_true q313
                        go_wp2_with (first | (go_at_call 22; (with_reducible refine (conclaveref04_Full.calls _ _ l0 (rd ((rd_T29 l0 a1).f5) x7_1) false _ ?side1 ?side2 A18.out).mono ?_); (case side1 => repeat (first | exact (Kd.C_below HR0.out HB.out) | (with_reducible refine Kd.C_alloc ?_ _) | (with_reducible refine Kd.C_drewN ?_ _) | (with_reducible refine Kd.C_drew ?_))); (case side2 => exact HC0.out); rintro e w' ⟨rfl, ⟨nd, rfl⟩⟩))
                        go_ret
                        exact ⟨by first | rfl | (simp [errW_none, errW_some] <;> rfl) | (simp [*, errW_none, errW_some] <;> rfl), by repeat (first | (with_reducible first | exact HB.out | apply below_alloc | apply pw_below_drewN | apply below_drew1 | refine below_set ?_ GE312.out) | exact HB.out)⟩
                · rw [if_neg c13] at H
                  exact absurd H (by simp)
              · rw [if_neg c12] at H
                have c12b0 : decide (x7_1 < (((rd_T29 l0 a1).f5).length : Int)) = false := decide_eq_false c12
                clear c12
                by_cases c26 : ((rd_T29 l0 a1).f2) = 0
                · rw [if_pos c26] at H
                  have c26b0 : (((rd_T29 l0 a1).f2) == 0) = true := beq_iff_eq.mpr c26
                  have c26b1 : (((rd_T29 l0 a1).f2) != 0) = false := bne_eq_false_iff_eq.mpr c26
                  clear c26
                  obtain rfl := Option.some.inj H
                  have hcz27_0 : wr.cell? ⟨gb312, 0, none⟩ = some (.bool true) := (blk_cell BK312.out 0).trans rfl
                  have hcz27_1 : wr.cell? ⟨gb312, 1, none⟩ = some (.int .i64 ((rd_T29 l0 a1).f1)) := (blk_cell BK312.out 1).trans rfl
                  have hcz27_2 : wr.cell? ⟨gb312, 2, none⟩ = some (.int .i64 ((rd_T29 l0 a1).f2)) := (blk_cell BK312.out 2).trans rfl
                  have hcz27_3 : wr.cell? ⟨gb312, 3, none⟩ = some (.int .i64 ((rd_T29 l0 a1).f3)) := (blk_cell BK312.out 3).trans rfl
                  have hcz27_4 : wr.cell? ⟨gb312, 4, none⟩ = some (.int .i64 ((rd_T29 l0 a1).f4)) := (blk_cell BK312.out 4).trans rfl
                  have hcz27_5 : wr.cell? ⟨gb312, 5, none⟩ = some (.slice A311_5 ((rd_T29 l0 a1).f5).length c311_5) := (blk_cell BK312.out 5).trans rfl
                  have hfz27_0 := blk_frozen BK312.out 0
                  have hfz27_1 := blk_frozen BK312.out 1
                  have hfz27_2 := blk_frozen BK312.out 2
                  have hfz27_3 := blk_frozen BK312.out 3
                  have hfz27_4 := blk_frozen BK312.out 4
                  have hfz27_5 := blk_frozen BK312.out 5
                  go_wp2
                  go_ret
                  exact ⟨by first | rfl | (simp [errW_none, errW_some] <;> rfl) | (simp [*, errW_none, errW_some] <;> rfl), by repeat (first | (with_reducible first | exact HB.out | apply below_alloc | apply pw_below_drewN | apply below_drew1 | refine below_set ?_ GE312.out) | exact HB.out)⟩
                · rw [if_neg c26] at H
                  have c26b0 : (((rd_T29 l0 a1).f2) == 0) = false := beq_eq_false_iff_ne.mpr c26
                  have c26b1 : (((rd_T29 l0 a1).f2) != 0) = true := bne_iff_ne.mpr c26
                  obtain rfl := Option.some.inj H
                  have hcz28_0 : wr.cell? ⟨gb312, 0, none⟩ = some (.bool true) := (blk_cell BK312.out 0).trans rfl
                  have hcz28_1 : wr.cell? ⟨gb312, 1, none⟩ = some (.int .i64 ((rd_T29 l0 a1).f1)) := (blk_cell BK312.out 1).trans rfl
                  have hcz28_2 : wr.cell? ⟨gb312, 2, none⟩ = some (.int .i64 ((rd_T29 l0 a1).f2)) := (blk_cell BK312.out 2).trans rfl
                  have hcz28_3 : wr.cell? ⟨gb312, 3, none⟩ = some (.int .i64 ((rd_T29 l0 a1).f3)) := (blk_cell BK312.out 3).trans rfl
                  have hcz28_4 : wr.cell? ⟨gb312, 4, none⟩ = some (.int .i64 ((rd_T29 l0 a1).f4)) := (blk_cell BK312.out 4).trans rfl
                  have hcz28_5 : wr.cell? ⟨gb312, 5, none⟩ = some (.slice A311_5 ((rd_T29 l0 a1).f5).length c311_5) := (blk_cell BK312.out 5).trans rfl
                  have hfz28_0 := blk_frozen BK312.out 0
                  have hfz28_1 := blk_frozen BK312.out 1
                  have hfz28_2 := blk_frozen BK312.out 2
                  have hfz28_3 := blk_frozen BK312.out 3
                  have hfz28_4 := blk_frozen BK312.out 4
                  have hfz28_5 := blk_frozen BK312.out 5
                  go_wp2
                  go_ret
                  exact ⟨by first | rfl | (simp [errW_none, errW_some] <;> rfl) | (simp [*, errW_none, errW_some] <;> rfl), by repeat (first | (with_reducible first | exact HB.out | apply below_alloc | apply pw_below_drewN | apply below_drew1 | refine below_set ?_ GE312.out) | exact HB.out)⟩
      · replace c6 := Bool.eq_false_iff.mpr c6
        subst c6
        have H1 : (if ((rd_T29 l0 a1).f1) = 0 then (if ((rd_T29 l0 a1).f2) = 0 then (if ((rd_T29 l0 a1).f3) = 0 then (if ((rd_T29 l0 a1).f4) = 0 then (some ((((rd_T29 l0 a1).f5).length : Int) == 0)) else (some false)) else (some false)) else (some false)) else (some false)) = some r := by rw [if_neg (show ¬ (false = true) by decide)] at H; exact H
        clear H
        have H := H1
        clear H1
        by_cases c29 : ((rd_T29 l0 a1).f1) = 0
        · rw [if_pos c29] at H
          have c29b0 : (((rd_T29 l0 a1).f1) == 0) = true := beq_iff_eq.mpr c29
          have c29b1 : (((rd_T29 l0 a1).f1) != 0) = false := bne_eq_false_iff_eq.mpr c29
          clear c29
          by_cases c30 : ((rd_T29 l0 a1).f2) = 0
          · rw [if_pos c30] at H
            have c30b0 : (((rd_T29 l0 a1).f2) == 0) = true := beq_iff_eq.mpr c30
            have c30b1 : (((rd_T29 l0 a1).f2) != 0) = false := bne_eq_false_iff_eq.mpr c30
            clear c30
            by_cases c31 : ((rd_T29 l0 a1).f3) = 0
            · rw [if_pos c31] at H
              have c31b0 : (((rd_T29 l0 a1).f3) == 0) = true := beq_iff_eq.mpr c31
              have c31b1 : (((rd_T29 l0 a1).f3) != 0) = false := bne_eq_false_iff_eq.mpr c31
              clear c31
              by_cases c32 : ((rd_T29 l0 a1).f4) = 0
              · rw [if_pos c32] at H
                have c32b0 : (((rd_T29 l0 a1).f4) == 0) = true := beq_iff_eq.mpr c32
                have c32b1 : (((rd_T29 l0 a1).f4) != 0) = false := bne_eq_false_iff_eq.mpr c32
                clear c32
                obtain rfl := Option.some.inj H
                have p311 : 0 ≤ (a1 : Int) := of_decide_eq_true (by first | (with_reducible assumption) | assumption)
                have q311 : a1 < (l0.length : Int) := of_decide_eq_true (by first | (with_reducible assumption) | assumption)
                obtain ⟨ad311, A311_5, c311_5, e311, hx311_0, hx311_1, hx311_2, hx311_3, hx311_4, hx311_5, hl311_5, hi311_5⟩ := at_T29 HR0.out a1 p311 q311
                (try rw [← Nbq5.out] at hx311_0)
                cases e311
                have HR311_5 := Aside0.mk hi311_5
                have HC311_5 := Aside0.mk hl311_5
                clear hi311_5 hl311_5
                replace p311 := eq_true p311
                replace q311 := eq_true q311
                go_enter Tryd.func46, Tryd.ntmps46
                go_wp2_with (first | ((with_reducible refine gate_dst (N := 5) rfl ?_); (try (refine gate_guard (by rfl) ?_; dsimp only)); refine box_event ?hg (N := 5) ?hd (cs := #[.bool false, .int .i64 0, .int .i64 0, .int .i64 0, .int .i64 0, .slice none 0 0]) (t := 29) ?hr ?_; (case hd => rfl); (case hg => rfl); (case hr => first | (go_simp; done) | (go_simp; rfl)); intro gb312 hg w33 hbox hb; have n0_ := Aside0.mk (below_step (by repeat (first | (with_reducible first | exact HB.out | apply below_alloc | apply pw_below_drewN | apply below_drew1) | exact HB.out)) hb); have n1_ := Aside0.mk (hbox); have n2_ := Aside0.mk ((by rw [hg]; exact (below_size (by repeat (first | (with_reducible first | exact HB.out | apply below_alloc | apply pw_below_drewN | apply below_drew1) | exact HB.out))) : w.heap.size ≤ gb312)); have n3_ := Aside0.mk ((by rw [hg]; exact (below_size (by repeat (first | (with_reducible first | exact HB.out | apply below_alloc | apply pw_below_drewN | apply below_drew1) | exact HB.out))) : w.heap.size ≤ gb312)); clear HB; have HB := n0_; have BK312 := n1_; have GW312 := n2_; have GE312 := n3_; clear n0_ n1_ n2_ n3_; clear hb hbox hg; have hcz34_0 : w33.cell? ⟨gb312, 0, none⟩ = some (.bool false) := (blk_cell BK312.out 0).trans rfl; have hcz34_1 : w33.cell? ⟨gb312, 1, none⟩ = some (.int .i64 0) := (blk_cell BK312.out 1).trans rfl; have hcz34_2 : w33.cell? ⟨gb312, 2, none⟩ = some (.int .i64 0) := (blk_cell BK312.out 2).trans rfl; have hcz34_3 : w33.cell? ⟨gb312, 3, none⟩ = some (.int .i64 0) := (blk_cell BK312.out 3).trans rfl; have hcz34_4 : w33.cell? ⟨gb312, 4, none⟩ = some (.int .i64 0) := (blk_cell BK312.out 4).trans rfl; have hcz34_5 : w33.cell? ⟨gb312, 5, none⟩ = some (.slice none 0 0) := (blk_cell BK312.out 5).trans rfl; have hfz34_0 := blk_frozen BK312.out 0; have hfz34_1 := blk_frozen BK312.out 1; have hfz34_2 := blk_frozen BK312.out 2; have hfz34_3 := blk_frozen BK312.out 3; have hfz34_4 := blk_frozen BK312.out 4; have hfz34_5 := blk_frozen BK312.out 5))
                go_ret
                exact ⟨by first | rfl | (simp [errW_none, errW_some] <;> rfl) | (simp [*, errW_none, errW_some] <;> rfl), by repeat (first | (with_reducible first | exact HB.out | apply below_alloc | apply pw_below_drewN | apply below_drew1 | refine below_set ?_ GE312.out) | exact HB.out)⟩
              · rw [if_neg c32] at H
                have c32b0 : (((rd_T29 l0 a1).f4) == 0) = false := beq_eq_false_iff_ne.mpr c32
                have c32b1 : (((rd_T29 l0 a1).f4) != 0) = true := bne_iff_ne.mpr c32
                obtain rfl := Option.some.inj H
                have p311 : 0 ≤ (a1 : Int) := of_decide_eq_true (by first | (with_reducible assumption) | assumption)
                have q311 : a1 < (l0.length : Int) := of_decide_eq_true (by first | (with_reducible assumption) | assumption)
                obtain ⟨ad311, A311_5, c311_5, e311, hx311_0, hx311_1, hx311_2, hx311_3, hx311_4, hx311_5, hl311_5, hi311_5⟩ := at_T29 HR0.out a1 p311 q311
                (try rw [← Nbq5.out] at hx311_0)
                cases e311
                have HR311_5 := Aside0.mk hi311_5
                have HC311_5 := Aside0.mk hl311_5
                clear hi311_5 hl311_5
                replace p311 := eq_true p311
                replace q311 := eq_true q311
                go_enter Tryd.func46, Tryd.ntmps46
                go_wp2_with (first | ((with_reducible refine gate_dst (N := 5) rfl ?_); (try (refine gate_guard (by rfl) ?_; dsimp only)); refine box_event ?hg (N := 5) ?hd (cs := #[.bool false, .int .i64 0, .int .i64 0, .int .i64 0, .int .i64 0, .slice none 0 0]) (t := 29) ?hr ?_; (case hd => rfl); (case hg => rfl); (case hr => first | (go_simp; done) | (go_simp; rfl)); intro gb312 hg w35 hbox hb; have n0_ := Aside0.mk (below_step (by repeat (first | (with_reducible first | exact HB.out | apply below_alloc | apply pw_below_drewN | apply below_drew1) | exact HB.out)) hb); have n1_ := Aside0.mk (hbox); have n2_ := Aside0.mk ((by rw [hg]; exact (below_size (by repeat (first | (with_reducible first | exact HB.out | apply below_alloc | apply pw_below_drewN | apply below_drew1) | exact HB.out))) : w.heap.size ≤ gb312)); have n3_ := Aside0.mk ((by rw [hg]; exact (below_size (by repeat (first | (with_reducible first | exact HB.out | apply below_alloc | apply pw_below_drewN | apply below_drew1) | exact HB.out))) : w.heap.size ≤ gb312)); clear HB; have HB := n0_; have BK312 := n1_; have GW312 := n2_; have GE312 := n3_; clear n0_ n1_ n2_ n3_; clear hb hbox hg; have hcz36_0 : w35.cell? ⟨gb312, 0, none⟩ = some (.bool false) := (blk_cell BK312.out 0).trans rfl; have hcz36_1 : w35.cell? ⟨gb312, 1, none⟩ = some (.int .i64 0) := (blk_cell BK312.out 1).trans rfl; have hcz36_2 : w35.cell? ⟨gb312, 2, none⟩ = some (.int .i64 0) := (blk_cell BK312.out 2).trans rfl; have hcz36_3 : w35.cell? ⟨gb312, 3, none⟩ = some (.int .i64 0) := (blk_cell BK312.out 3).trans rfl; have hcz36_4 : w35.cell? ⟨gb312, 4, none⟩ = some (.int .i64 0) := (blk_cell BK312.out 4).trans rfl; have hcz36_5 : w35.cell? ⟨gb312, 5, none⟩ = some (.slice none 0 0) := (blk_cell BK312.out 5).trans rfl; have hfz36_0 := blk_frozen BK312.out 0; have hfz36_1 := blk_frozen BK312.out 1; have hfz36_2 := blk_frozen BK312.out 2; have hfz36_3 := blk_frozen BK312.out 3; have hfz36_4 := blk_frozen BK312.out 4; have hfz36_5 := blk_frozen BK312.out 5))
                go_ret
                exact ⟨by first | rfl | (simp [errW_none, errW_some] <;> rfl) | (simp [*, errW_none, errW_some] <;> rfl), by repeat (first | (with_reducible first | exact HB.out | apply below_alloc | apply pw_below_drewN | apply below_drew1 | refine below_set ?_ GE312.out) | exact HB.out)⟩
            · rw [if_neg c31] at H
              have c31b0 : (((rd_T29 l0 a1).f3) == 0) = false := beq_eq_false_iff_ne.mpr c31
              have c31b1 : (((rd_T29 l0 a1).f3) != 0) = true := bne_iff_ne.mpr c31
              obtain rfl := Option.some.inj H
              have p311 : 0 ≤ (a1 : Int) := of_decide_eq_true (by first | (with_reducible assumption) | assumption)
              have q311 : a1 < (l0.length : Int) := of_decide_eq_true (by first | (with_reducible assumption) | assumption)
              obtain ⟨ad311, A311_5, c311_5, e311, hx311_0, hx311_1, hx311_2, hx311_3, hx311_4, hx311_5, hl311_5, hi311_5⟩ := at_T29 HR0.out a1 p311 q311
              (try rw [← Nbq5.out] at hx311_0)
              cases e311
              have HR311_5 := Aside0.mk hi311_5
              have HC311_5 := Aside0.mk hl311_5
              clear hi311_5 hl311_5
              replace p311 := eq_true p311
              replace q311 := eq_true q311
              go_enter Tryd.func46, Tryd.ntmps46
              go_wp2_with (first | ((with_reducible refine gate_dst (N := 5) rfl ?_); (try (refine gate_guard (by rfl) ?_; dsimp only)); refine box_event ?hg (N := 5) ?hd (cs := #[.bool false, .int .i64 0, .int .i64 0, .int .i64 0, .int .i64 0, .slice none 0 0]) (t := 29) ?hr ?_; (case hd => rfl); (case hg => rfl); (case hr => first | (go_simp; done) | (go_simp; rfl)); intro gb312 hg w37 hbox hb; have n0_ := Aside0.mk (below_step (by repeat (first | (with_reducible first | exact HB.out | apply below_alloc | apply pw_below_drewN | apply below_drew1) | exact HB.out)) hb); have n1_ := Aside0.mk (hbox); have n2_ := Aside0.mk ((by rw [hg]; exact (below_size (by repeat (first | (with_reducible first | exact HB.out | apply below_alloc | apply pw_below_drewN | apply below_drew1) | exact HB.out))) : w.heap.size ≤ gb312)); have n3_ := Aside0.mk ((by rw [hg]; exact (below_size (by repeat (first | (with_reducible first | exact HB.out | apply below_alloc | apply pw_below_drewN | apply below_drew1) | exact HB.out))) : w.heap.size ≤ gb312)); clear HB; have HB := n0_; have BK312 := n1_; have GW312 := n2_; have GE312 := n3_; clear n0_ n1_ n2_ n3_; clear hb hbox hg; have hcz38_0 : w37.cell? ⟨gb312, 0, none⟩ = some (.bool false) := (blk_cell BK312.out 0).trans rfl; have hcz38_1 : w37.cell? ⟨gb312, 1, none⟩ = some (.int .i64 0) := (blk_cell BK312.out 1).trans rfl; have hcz38_2 : w37.cell? ⟨gb312, 2, none⟩ = some (.int .i64 0) := (blk_cell BK312.out 2).trans rfl; have hcz38_3 : w37.cell? ⟨gb312, 3, none⟩ = some (.int .i64 0) := (blk_cell BK312.out 3).trans rfl; have hcz38_4 : w37.cell? ⟨gb312, 4, none⟩ = some (.int .i64 0) := (blk_cell BK312.out 4).trans rfl; have hcz38_5 : w37.cell? ⟨gb312, 5, none⟩ = some (.slice none 0 0) := (blk_cell BK312.out 5).trans rfl; have hfz38_0 := blk_frozen BK312.out 0; have hfz38_1 := blk_frozen BK312.out 1; have hfz38_2 := blk_frozen BK312.out 2; have hfz38_3 := blk_frozen BK312.out 3; have hfz38_4 := blk_frozen BK312.out 4; have hfz38_5 := blk_frozen BK312.out 5))
              go_ret
              exact ⟨by first | rfl | (simp [errW_none, errW_some] <;> rfl) | (simp [*, errW_none, errW_some] <;> rfl), by repeat (first | (with_reducible first | exact HB.out | apply below_alloc | apply pw_below_drewN | apply below_drew1 | refine below_set ?_ GE312.out) | exact HB.out)⟩
          · rw [if_neg c30] at H
            have c30b0 : (((rd_T29 l0 a1).f2) == 0) = false := beq_eq_false_iff_ne.mpr c30
            have c30b1 : (((rd_T29 l0 a1).f2) != 0) = true := bne_iff_ne.mpr c30
            obtain rfl := Option.some.inj H
            have p311 : 0 ≤ (a1 : Int) := of_decide_eq_true (by first | (with_reducible assumption) | assumption)
            have q311 : a1 < (l0.length : Int) := of_decide_eq_true (by first | (with_reducible assumption) | assumption)
            obtain ⟨ad311, A311_5, c311_5, e311, hx311_0, hx311_1, hx311_2, hx311_3, hx311_4, hx311_5, hl311_5, hi311_5⟩ := at_T29 HR0.out a1 p311 q311
            (try rw [← Nbq5.out] at hx311_0)
            cases e311
            have HR311_5 := Aside0.mk hi311_5
            have HC311_5 := Aside0.mk hl311_5
            clear hi311_5 hl311_5
            replace p311 := eq_true p311
            replace q311 := eq_true q311
            go_enter Tryd.func46, Tryd.ntmps46
            go_wp2_with (first | ((with_reducible refine gate_dst (N := 5) rfl ?_); (try (refine gate_guard (by rfl) ?_; dsimp only)); refine box_event ?hg (N := 5) ?hd (cs := #[.bool false, .int .i64 0, .int .i64 0, .int .i64 0, .int .i64 0, .slice none 0 0]) (t := 29) ?hr ?_; (case hd => rfl); (case hg => rfl); (case hr => first | (go_simp; done) | (go_simp; rfl)); intro gb312 hg w39 hbox hb; have n0_ := Aside0.mk (below_step (by repeat (first | (with_reducible first | exact HB.out | apply below_alloc | apply pw_below_drewN | apply below_drew1) | exact HB.out)) hb); have n1_ := Aside0.mk (hbox); have n2_ := Aside0.mk ((by rw [hg]; exact (below_size (by repeat (first | (with_reducible first | exact HB.out | apply below_alloc | apply pw_below_drewN | apply below_drew1) | exact HB.out))) : w.heap.size ≤ gb312)); have n3_ := Aside0.mk ((by rw [hg]; exact (below_size (by repeat (first | (with_reducible first | exact HB.out | apply below_alloc | apply pw_below_drewN | apply below_drew1) | exact HB.out))) : w.heap.size ≤ gb312)); clear HB; have HB := n0_; have BK312 := n1_; have GW312 := n2_; have GE312 := n3_; clear n0_ n1_ n2_ n3_; clear hb hbox hg; have hcz40_0 : w39.cell? ⟨gb312, 0, none⟩ = some (.bool false) := (blk_cell BK312.out 0).trans rfl; have hcz40_1 : w39.cell? ⟨gb312, 1, none⟩ = some (.int .i64 0) := (blk_cell BK312.out 1).trans rfl; have hcz40_2 : w39.cell? ⟨gb312, 2, none⟩ = some (.int .i64 0) := (blk_cell BK312.out 2).trans rfl; have hcz40_3 : w39.cell? ⟨gb312, 3, none⟩ = some (.int .i64 0) := (blk_cell BK312.out 3).trans rfl; have hcz40_4 : w39.cell? ⟨gb312, 4, none⟩ = some (.int .i64 0) := (blk_cell BK312.out 4).trans rfl; have hcz40_5 : w39.cell? ⟨gb312, 5, none⟩ = some (.slice none 0 0) := (blk_cell BK312.out 5).trans rfl; have hfz40_0 := blk_frozen BK312.out 0; have hfz40_1 := blk_frozen BK312.out 1; have hfz40_2 := blk_frozen BK312.out 2; have hfz40_3 := blk_frozen BK312.out 3; have hfz40_4 := blk_frozen BK312.out 4; have hfz40_5 := blk_frozen BK312.out 5))
            go_ret
            exact ⟨by first | rfl | (simp [errW_none, errW_some] <;> rfl) | (simp [*, errW_none, errW_some] <;> rfl), by repeat (first | (with_reducible first | exact HB.out | apply below_alloc | apply pw_below_drewN | apply below_drew1 | refine below_set ?_ GE312.out) | exact HB.out)⟩
        · rw [if_neg c29] at H
          have c29b0 : (((rd_T29 l0 a1).f1) == 0) = false := beq_eq_false_iff_ne.mpr c29
          have c29b1 : (((rd_T29 l0 a1).f1) != 0) = true := bne_iff_ne.mpr c29
          obtain rfl := Option.some.inj H
          have p311 : 0 ≤ (a1 : Int) := of_decide_eq_true (by first | (with_reducible assumption) | assumption)
          have q311 : a1 < (l0.length : Int) := of_decide_eq_true (by first | (with_reducible assumption) | assumption)
          obtain ⟨ad311, A311_5, c311_5, e311, hx311_0, hx311_1, hx311_2, hx311_3, hx311_4, hx311_5, hl311_5, hi311_5⟩ := at_T29 HR0.out a1 p311 q311
          (try rw [← Nbq5.out] at hx311_0)
          cases e311
          have HR311_5 := Aside0.mk hi311_5
          have HC311_5 := Aside0.mk hl311_5
          clear hi311_5 hl311_5
          replace p311 := eq_true p311
          replace q311 := eq_true q311
          go_enter Tryd.func46, Tryd.ntmps46
          go_wp2_with (first | ((with_reducible refine gate_dst (N := 5) rfl ?_); (try (refine gate_guard (by rfl) ?_; dsimp only)); refine box_event ?hg (N := 5) ?hd (cs := #[.bool false, .int .i64 0, .int .i64 0, .int .i64 0, .int .i64 0, .slice none 0 0]) (t := 29) ?hr ?_; (case hd => rfl); (case hg => rfl); (case hr => first | (go_simp; done) | (go_simp; rfl)); intro gb312 hg w41 hbox hb; have n0_ := Aside0.mk (below_step (by repeat (first | (with_reducible first | exact HB.out | apply below_alloc | apply pw_below_drewN | apply below_drew1) | exact HB.out)) hb); have n1_ := Aside0.mk (hbox); have n2_ := Aside0.mk ((by rw [hg]; exact (below_size (by repeat (first | (with_reducible first | exact HB.out | apply below_alloc | apply pw_below_drewN | apply below_drew1) | exact HB.out))) : w.heap.size ≤ gb312)); have n3_ := Aside0.mk ((by rw [hg]; exact (below_size (by repeat (first | (with_reducible first | exact HB.out | apply below_alloc | apply pw_below_drewN | apply below_drew1) | exact HB.out))) : w.heap.size ≤ gb312)); clear HB; have HB := n0_; have BK312 := n1_; have GW312 := n2_; have GE312 := n3_; clear n0_ n1_ n2_ n3_; clear hb hbox hg; have hcz42_0 : w41.cell? ⟨gb312, 0, none⟩ = some (.bool false) := (blk_cell BK312.out 0).trans rfl; have hcz42_1 : w41.cell? ⟨gb312, 1, none⟩ = some (.int .i64 0) := (blk_cell BK312.out 1).trans rfl; have hcz42_2 : w41.cell? ⟨gb312, 2, none⟩ = some (.int .i64 0) := (blk_cell BK312.out 2).trans rfl; have hcz42_3 : w41.cell? ⟨gb312, 3, none⟩ = some (.int .i64 0) := (blk_cell BK312.out 3).trans rfl; have hcz42_4 : w41.cell? ⟨gb312, 4, none⟩ = some (.int .i64 0) := (blk_cell BK312.out 4).trans rfl; have hcz42_5 : w41.cell? ⟨gb312, 5, none⟩ = some (.slice none 0 0) := (blk_cell BK312.out 5).trans rfl; have hfz42_0 := blk_frozen BK312.out 0; have hfz42_1 := blk_frozen BK312.out 1; have hfz42_2 := blk_frozen BK312.out 2; have hfz42_3 := blk_frozen BK312.out 3; have hfz42_4 := blk_frozen BK312.out 4; have hfz42_5 := blk_frozen BK312.out 5))
          go_ret
          exact ⟨by first | rfl | (simp [errW_none, errW_some] <;> rfl) | (simp [*, errW_none, errW_some] <;> rfl), by repeat (first | (with_reducible first | exact HB.out | apply below_alloc | apply pw_below_drewN | apply below_drew1 | refine below_set ?_ GE312.out) | exact HB.out)⟩
    · rw [if_neg c4] at H
      exact absurd H (by simp)
  · rw [if_neg c3] at H
    exact absurd H (by simp)

end Go.Proofs.YtbblomnhobodkaaDoor.PTv
