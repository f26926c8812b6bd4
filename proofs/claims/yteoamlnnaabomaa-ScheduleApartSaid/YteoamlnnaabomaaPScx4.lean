-- Written by a program of this session over the translation.
import Derived.Test.YteoamlnnaabomaaPScx0
import Derived.Test.YteoamlnnaabomaaPScx1
import Derived.Test.YteoamlnnaabomaaPScx2
import Derived.Test.YteoamlnnaabomaaPScx3
namespace Go.Proofs.Yteoamlnnaabomaa.PSc
open Go.RowKit Go.Proofs.YteoamlnnaabomaaW.PrintWords Go.Proofs.YteoamlnnaabomaaW.PrintLast Go.Proofs.YteoamlnnaabomaaW.PrintMore
attribute [local go_sem] max2_int min2_int max_two min_two max_three min_three max_four min_four   -- for this text's walks alone
set_option linter.unusedVariables false
set_option linter.unusedSimpArgs false

/-! ### conclavelaw07_right: function 7 -/
def conclavelaw07_right.l0 : Nat → Int → List Int → Int → Int → Option (Bool)
  | 0, _, _, _, _ => none
  | k + 1, x1, x7, x8, x9 => if x9 < x8 then (if 0 ≤ x9 then (if x9 < (x7.length : Int) then (if (rd x7 x9) < 1 then (some false) else (if (rd x7 x9) > x1 then (some false) else (conclavelaw07_right.l0 k x1 x7 x8 (wrap64 (x9 + 1))))) else (none)) else (none)) else (some true)
def conclavelaw07_right.f (k : Nat) (l0 : List Int) (a1 : Int) : Option (Bool) := conclavelaw07_right.l0 k a1 l0 (l0.length : Int) 0
theorem conclavelaw07_right.mono_l : ∀ k, (∀ y0 y1 y2 y3, LeO (conclavelaw07_right.l0 k y0 y1 y2 y3) (conclavelaw07_right.l0 (k + 1) y0 y1 y2 y3))
  | 0 => fun _ _ _ _ r h => by simp [conclavelaw07_right.l0] at h
  | k + 1 => by
    have ih0 := conclavelaw07_right.mono_l k
    · intro y0 y1 y2 y3
      unfold conclavelaw07_right.l0
      repeat' first
      | (with_reducible exact ih0 _ _ _ _)
      | (with_reducible exact LeO.refl _)
      | (with_reducible exact LeO.none _)
      | (with_reducible refine LeO.ite ?_ ?_)
      | (with_reducible refine LeO.bind ?_ (fun _ => ?_))
      | exact ih0 _ _ _ _
      | exact LeO.none _
      | refine LeO.ite ?_ ?_
      | refine LeO.bind ?_ (fun _ => ?_)
theorem conclavelaw07_right.mono : ∀ a0 a1 k, LeO (conclavelaw07_right.f k a0 a1) (conclavelaw07_right.f (k + 1) a0 a1) := by
  intro a0 a1 k
  have ih0 := conclavelaw07_right.mono_l k
  unfold conclavelaw07_right.f
  repeat' first
      | (with_reducible exact ih0 _ _ _ _)
      | (with_reducible exact LeO.refl _)
      | (with_reducible exact LeO.none _)
      | (with_reducible refine LeO.ite ?_ ?_)
      | (with_reducible refine LeO.bind ?_ (fun _ => ?_))
      | exact ih0 _ _ _ _
      | exact LeO.none _
      | refine LeO.ite ?_ ?_
      | refine LeO.bind ?_ (fun _ => ?_)
set_option maxHeartbeats 8000000 in
set_option maxRecDepth 100000 in
theorem conclavelaw07_right.calls (k : Nat) (A0 : Option Addr) (c0 : Nat) (l0 : List Int) (a1 : Int) (r : Bool) (w : World) (hr0 : Kd.C (Kd.int .i64) w A0 l0.length l0) (hc0 : l0.length ≤ c0) (h : conclavelaw07_right.f k l0 a1 = some r) :
    Calls Try.prog 7 #[.slice A0 l0.length c0, .int .i64 a1] w fun e w' => e = .returned (.bool r) ∧ Drawn0 w w' := by
  have HR0 := Aside0.mk hr0
  have HC0 := Aside0.mk hc0
  clear hr0 hc0
  have H : (conclavelaw07_right.l0 k a1 l0 (l0.length : Int) 0) = some r := h
  clear h
  have H' := Aside0.mk H
  clear H
  go_enter Try.func7, Try.ntmps7
  go_wp2
  go_loopg [9] k (fun kq v9 w' => ∃ (x9_1 : Int), v9 = .int .i64 x9_1 ∧ Aside0 (conclavelaw07_right.l0 kq a1 l0 (l0.length : Int) x9_1 = some r) ∧ Aside0 (kq ≤ k) ∧ Drawn0 w w')
  case atStart => exact ⟨(0), (by first | rfl | (simp; done) | (simp [*]; done)), H', ⟨Nat.le_refl _⟩, by repeat (first | exact Drawn0.refl _ | apply Drawn0.step)⟩
  case round =>
    clear H'
    try clear p2
    obtain ⟨x9_1, rfl, HA, HK1, ⟨m1, rfl⟩⟩ := hrel
    cases gk with
    | zero => exact absurd HA.out (by simp [conclavelaw07_right.l0])
    | succ k1 =>
      have H := HA.out
      clear HA
      simp only [conclavelaw07_right.l0] at H
      by_cases c3 : x9_1 < (l0.length : Int)
      · rw [if_pos c3] at H
        have c3b0 : decide (x9_1 < (l0.length : Int)) = true := decide_eq_true c3
        clear c3
        by_cases c4 : 0 ≤ x9_1
        · rw [if_pos c4] at H
          have c4b0 : decide (0 ≤ x9_1) = true := decide_eq_true c4
          clear c4
          by_cases c5 : x9_1 < (l0.length : Int)
          · rw [if_pos c5] at H
            have c5b0 : decide (x9_1 < (l0.length : Int)) = true := decide_eq_true c5
            clear c5
            by_cases c6 : (rd l0 x9_1) < 1
            · rw [if_pos c6] at H
              have c6b0 : decide ((rd l0 x9_1) < 1) = true := decide_eq_true c6
              clear c6
              obtain rfl := Option.some.inj H
              have p173 : 0 ≤ (x9_1 : Int) := of_decide_eq_true (by first | (with_reducible assumption) | assumption)
              have q173 : x9_1 < (l0.length : Int) := of_decide_eq_true (by first | (with_reducible assumption) | assumption)
              obtain ⟨ad173, e173, hx173_0⟩ := Kd.at_int HR0.out x9_1 p173 q173
              cases e173
              replace p173 := eq_true p173
              replace q173 := eq_true q173
              go_wp2
              go_ret
              exact ⟨by first | rfl | (simp; done) | (simp [*]; done), by repeat (first | exact Drawn0.refl _ | apply Drawn0.step)⟩
            · rw [if_neg c6] at H
              have c6b0 : decide ((rd l0 x9_1) < 1) = false := decide_eq_false c6
              clear c6
              by_cases c7 : (rd l0 x9_1) > a1
              · rw [if_pos c7] at H
                have c7b0 : decide (a1 < (rd l0 x9_1)) = true := decide_eq_true c7
                clear c7
                obtain rfl := Option.some.inj H
                have p173 : 0 ≤ (x9_1 : Int) := of_decide_eq_true (by first | (with_reducible assumption) | assumption)
                have q173 : x9_1 < (l0.length : Int) := of_decide_eq_true (by first | (with_reducible assumption) | assumption)
                obtain ⟨ad173, e173, hx173_0⟩ := Kd.at_int HR0.out x9_1 p173 q173
                cases e173
                replace p173 := eq_true p173
                replace q173 := eq_true q173
                go_wp2
                go_ret
                exact ⟨by first | rfl | (simp; done) | (simp [*]; done), by repeat (first | exact Drawn0.refl _ | apply Drawn0.step)⟩
              · rw [if_neg c7] at H
                have c7b0 : decide (a1 < (rd l0 x9_1)) = false := decide_eq_false c7
                clear c7
                have H' := Aside0.mk H
                clear H
                have p173 : 0 ≤ (x9_1 : Int) := of_decide_eq_true (by first | (with_reducible assumption) | assumption)
                have q173 : x9_1 < (l0.length : Int) := of_decide_eq_true (by first | (with_reducible assumption) | assumption)
                obtain ⟨ad173, e173, hx173_0⟩ := Kd.at_int HR0.out x9_1 p173 q173
                cases e173
                replace p173 := eq_true p173
                replace q173 := eq_true q173
                go_wp2
                go_roundg k1
                case measure => have := HK1.out; omega
                case rel => exact ⟨(wrap64 (x9_1 + 1)), (by first | rfl | (simp; done) | (simp [*]; done)), H', ⟨by have := HK1.out; omega⟩, by repeat (first | exact Drawn0.refl _ | apply Drawn0.step)⟩
          · rw [if_neg c5] at H
            exact absurd H (by simp)
        · rw [if_neg c4] at H
          exact absurd H (by simp)
      · rw [if_neg c3] at H
        have c3b0 : decide (x9_1 < (l0.length : Int)) = false := decide_eq_false c3
        clear c3
        obtain rfl := Option.some.inj H
        go_wp2
        go_ret
        exact ⟨by first | rfl | (simp; done) | (simp [*]; done), by repeat (first | exact Drawn0.refl _ | apply Drawn0.step)⟩

/-! ### conclavelaw07_all: function 9 -/
def conclavelaw07_all.f (a0_0 : Int) (a0_1 : Int) (a0_2 : Int) (a0_3 : Int) (a0_4 : Int) (a0_5 : Int) (a0_6 : Int) (a0_7 : Int) (a0_8 : Int) (a0_9 : Int) (a0_10 : Int) (a0_11 : Int) (a0_12 : Int) : Option (List Int) := some (([a0_0, a0_1, a0_2, a0_3, a0_4, a0_5, a0_6, a0_7, a0_8, a0_9, a0_10, a0_11, a0_12] : List Int))
set_option maxHeartbeats 8000000 in
set_option maxRecDepth 100000 in
theorem conclavelaw07_all.calls (a0_0 : Int) (a0_1 : Int) (a0_2 : Int) (a0_3 : Int) (a0_4 : Int) (a0_5 : Int) (a0_6 : Int) (a0_7 : Int) (a0_8 : Int) (a0_9 : Int) (a0_10 : Int) (a0_11 : Int) (a0_12 : Int) (r : List Int) (w : World) (h : conclavelaw07_all.f a0_0 a0_1 a0_2 a0_3 a0_4 a0_5 a0_6 a0_7 a0_8 a0_9 a0_10 a0_11 a0_12 = some r) :
    Calls Try.prog 9 #[.agg #[.int .i64 a0_0, .int .i64 a0_1, .int .i64 a0_2, .int .i64 a0_3, .int .i64 a0_4, .int .i64 a0_5, .int .i64 a0_6, .int .i64 a0_7, .int .i64 a0_8, .int .i64 a0_9, .int .i64 a0_10, .int .i64 a0_11, .int .i64 a0_12]] w fun e w' => ∃ v0_ : Value, e = .returned (v0_) ∧ Kd.R (Kd.int .i64) 3 w' w.heap.size (fun _ => True) v0_ r ∧ Below w.heap.size w w' := by
  have hu31 := Try.underlying31
  have HB := Aside0.mk (Below.refl w.heap.size w)
  have H : (some (([a0_0, a0_1, a0_2, a0_3, a0_4, a0_5, a0_6, a0_7, a0_8, a0_9, a0_10, a0_11, a0_12] : List Int))) = some r := h
  clear h
  obtain ⟨y175, hy175⟩ : ∃ y_ : List Int, y_ = (([a0_0, a0_1, a0_2, a0_3, a0_4, a0_5, a0_6, a0_7, a0_8, a0_9, a0_10, a0_11, a0_12] : List Int)) := ⟨_, rfl⟩
  replace H : (some y175) = some r := by first | (rw [hy175]; with_reducible exact H) | (have H2_ := (Option.bind_some _ _).symm.trans H; rw [hy175]; with_reducible exact H2_) | (have H2_ := (Option.bind_some _ _).symm.trans H; with_reducible exact H2_) | with_reducible exact H | (rw [hy175]; exact H) | exact H
  have Ny175 := Aside0.mk hy175
  clear hy175
  obtain rfl := Option.some.inj H
  go_enter Try.func9, Try.ntmps9
  go_wp2_with (first | ((with_reducible refine gate_dst (N := 1) rfl ?_); refine box_event ?hg (N := 1) ?hd (cs := #[.int .i64 a0_0, .int .i64 a0_1, .int .i64 a0_2, .int .i64 a0_3, .int .i64 a0_4, .int .i64 a0_5, .int .i64 a0_6, .int .i64 a0_7, .int .i64 a0_8, .int .i64 a0_9, .int .i64 a0_10, .int .i64 a0_11, .int .i64 a0_12]) (t := 31) ?hr ?_; (case hd => rfl); (case hg => rfl); (case hr => first | (go_simp; done) | (go_simp; rfl)); intro gb174 hg w2 hbox hb; have n0_ := Aside0.mk (below_step (by repeat (first | (with_reducible first | exact HB.out | apply below_alloc | apply pw_below_drewN | apply below_drew1) | exact HB.out)) hb); have n1_ := Aside0.mk (hbox); have n2_ := Aside0.mk ((by rw [hg]; exact (below_size (by repeat (first | (with_reducible first | exact HB.out | apply below_alloc | apply pw_below_drewN | apply below_drew1) | exact HB.out))) : w.heap.size ≤ gb174)); have n3_ := Aside0.mk ((by rw [hg]; exact (below_size (by repeat (first | (with_reducible first | exact HB.out | apply below_alloc | apply pw_below_drewN | apply below_drew1) | exact HB.out))) : w.heap.size ≤ gb174)); clear HB; have HB := n0_; have BK174 := n1_; have GW174 := n2_; have GE174 := n3_; clear n0_ n1_ n2_ n3_; clear hb hbox hg; have hcz3_0 : w2.cell? ⟨gb174, 0, none⟩ = some (.int .i64 a0_0) := (blk_cell BK174.out 0).trans rfl; have hcz3_1 : w2.cell? ⟨gb174, 1, none⟩ = some (.int .i64 a0_1) := (blk_cell BK174.out 1).trans rfl; have hcz3_2 : w2.cell? ⟨gb174, 2, none⟩ = some (.int .i64 a0_2) := (blk_cell BK174.out 2).trans rfl; have hcz3_3 : w2.cell? ⟨gb174, 3, none⟩ = some (.int .i64 a0_3) := (blk_cell BK174.out 3).trans rfl; have hcz3_4 : w2.cell? ⟨gb174, 4, none⟩ = some (.int .i64 a0_4) := (blk_cell BK174.out 4).trans rfl; have hcz3_5 : w2.cell? ⟨gb174, 5, none⟩ = some (.int .i64 a0_5) := (blk_cell BK174.out 5).trans rfl; have hcz3_6 : w2.cell? ⟨gb174, 6, none⟩ = some (.int .i64 a0_6) := (blk_cell BK174.out 6).trans rfl; have hcz3_7 : w2.cell? ⟨gb174, 7, none⟩ = some (.int .i64 a0_7) := (blk_cell BK174.out 7).trans rfl; have hcz3_8 : w2.cell? ⟨gb174, 8, none⟩ = some (.int .i64 a0_8) := (blk_cell BK174.out 8).trans rfl; have hcz3_9 : w2.cell? ⟨gb174, 9, none⟩ = some (.int .i64 a0_9) := (blk_cell BK174.out 9).trans rfl; have hcz3_10 : w2.cell? ⟨gb174, 10, none⟩ = some (.int .i64 a0_10) := (blk_cell BK174.out 10).trans rfl; have hcz3_11 : w2.cell? ⟨gb174, 11, none⟩ = some (.int .i64 a0_11) := (blk_cell BK174.out 11).trans rfl; have hcz3_12 : w2.cell? ⟨gb174, 12, none⟩ = some (.int .i64 a0_12) := (blk_cell BK174.out 12).trans rfl; have hfz3_0 := blk_frozen BK174.out 0; have hfz3_1 := blk_frozen BK174.out 1; have hfz3_2 := blk_frozen BK174.out 2; have hfz3_3 := blk_frozen BK174.out 3; have hfz3_4 := blk_frozen BK174.out 4; have hfz3_5 := blk_frozen BK174.out 5; have hfz3_6 := blk_frozen BK174.out 6; have hfz3_7 := blk_frozen BK174.out 7; have hfz3_8 := blk_frozen BK174.out 8; have hfz3_9 := blk_frozen BK174.out 9; have hfz3_10 := blk_frozen BK174.out 10; have hfz3_11 := blk_frozen BK174.out 11; have hfz3_12 := blk_frozen BK174.out 12) | ((with_reducible refine gate_dst (N := 29) rfl ?_); refine Kd.R_lit (Kd.int .i64) _ 3 ?hg (N := 29) ?hd (xs := ([a0_0, a0_1, a0_2, a0_3, a0_4, a0_5, a0_6, a0_7, a0_8, a0_9, a0_10, a0_11, a0_12] : List Int)) (inner := [.int .i64 a0_0, .int .i64 a0_1, .int .i64 a0_2, .int .i64 a0_3, .int .i64 a0_4, .int .i64 a0_5, .int .i64 a0_6, .int .i64 a0_7, .int .i64 a0_8, .int .i64 a0_9, .int .i64 a0_10, .int .i64 a0_11, .int .i64 a0_12]) (ok := fun _ => True) (okp := fun _ => True) ?hr ?hp (fun _ hk => hk) trivial (Below.refl _ _) (Nat.le_refl _) (by simp) ?_; (case hd => rfl); (case hg => rfl); (case hr => first | (go_simp; done) | (go_simp; rfl)); (case hp => exact (Reps.one (show Kd.M (Kd.int .i64) _ _ _ a0_0 [.int .i64 a0_0] from rfl) (Reps.one (show Kd.M (Kd.int .i64) _ _ _ a0_1 [.int .i64 a0_1] from rfl) (Reps.one (show Kd.M (Kd.int .i64) _ _ _ a0_2 [.int .i64 a0_2] from rfl) (Reps.one (show Kd.M (Kd.int .i64) _ _ _ a0_3 [.int .i64 a0_3] from rfl) (Reps.one (show Kd.M (Kd.int .i64) _ _ _ a0_4 [.int .i64 a0_4] from rfl) (Reps.one (show Kd.M (Kd.int .i64) _ _ _ a0_5 [.int .i64 a0_5] from rfl) (Reps.one (show Kd.M (Kd.int .i64) _ _ _ a0_6 [.int .i64 a0_6] from rfl) (Reps.one (show Kd.M (Kd.int .i64) _ _ _ a0_7 [.int .i64 a0_7] from rfl) (Reps.one (show Kd.M (Kd.int .i64) _ _ _ a0_8 [.int .i64 a0_8] from rfl) (Reps.one (show Kd.M (Kd.int .i64) _ _ _ a0_9 [.int .i64 a0_9] from rfl) (Reps.one (show Kd.M (Kd.int .i64) _ _ _ a0_10 [.int .i64 a0_10] from rfl) (Reps.one (show Kd.M (Kd.int .i64) _ _ _ a0_11 [.int .i64 a0_11] from rfl) (Reps.one (show Kd.M (Kd.int .i64) _ _ _ a0_12 [.int .i64 a0_12] from rfl) (Reps.none _ _))))))))))))))); intro v176 w4 ho5 hb hg_ hnew_; clear hg_ hnew_; (first | rw [← Ny175.out] at ho5 | (simp only [Int.reduceToNat] at ho5; rw [← Ny175.out] at ho5)); have n0_ := Aside0.mk (Kd.R_lower ho5 (below_size (by repeat (first | (with_reducible first | exact HB.out | apply below_alloc | apply pw_below_drewN | apply below_drew1 | refine below_set ?_ GE174.out) | exact HB.out)))); have n1_ := Aside0.mk (blk_below (g := gb174) (o := .cells #[.int .i64 a0_0, .int .i64 a0_1, .int .i64 a0_2, .int .i64 a0_3, .int .i64 a0_4, .int .i64 a0_5, .int .i64 a0_6, .int .i64 a0_7, .int .i64 a0_8, .int .i64 a0_9, .int .i64 a0_10, .int .i64 a0_11, .int .i64 a0_12] 31 (0, 0)) (by (with_reducible repeat (first | refine blk_drewN ?_ _ | refine blk_drew ?_ | refine blk_alloc ?_ _)); exact BK174.out) hb); have n2_ := Aside0.mk (below_step (by repeat (first | (with_reducible first | exact HB.out | apply below_alloc | apply pw_below_drewN | apply below_drew1 | refine below_set ?_ GE174.out) | exact HB.out)) hb); clear BK174; clear HB; have HO177 := n0_; have BK174 := n1_; have HB := n2_; clear n0_ n1_ n2_; clear hb ho5))
  go_ret
  exact ⟨_, by first | rfl | (simp [errW_none, errW_some] <;> rfl) | (simp [*, errW_none, errW_some] <;> rfl), by (with_reducible repeat (first | apply Kd.R_alloc | apply Kd.R_drewN | apply Kd.R_drew)); exact HO177.out, by repeat (first | (with_reducible first | exact HB.out | apply below_alloc | apply pw_below_drewN | apply below_drew1 | refine below_set ?_ GE174.out) | exact HB.out)⟩

/-! ### conclavelaw07_ScheduleApart: function 3 -/
mutual
def conclavelaw07_ScheduleApart.j0 : Nat → List Int → List Int → Bool → Option (Bool)
 | 0, _, _, _ => none
 | k + 1, x0, x1, x35 => if x35 = true then (some true) else ((conclavelaw07_stores.f 9).bind fun t181 => (if 0 < (x0.length : Int) then (if 1 < (x0.length : Int) then (if 2 < (x0.length : Int) then ((schedule_Shared.f k t181 (([rd x0 2] : List Int))).bind fun bt189 => (if 3 < (x0.length : Int) then ((schedule_Next.f bt189.2 (rd x0 0) (rd x0 1) bt189.1 (rd x0 3)).bind fun bt192 => ((conclavelaw07_all.f bt192.1 bt192.2.1 bt192.2.2.1 bt192.2.2.2.1 bt192.2.2.2.2.1 bt192.2.2.2.2.2.1 bt192.2.2.2.2.2.2.1 bt192.2.2.2.2.2.2.2.1 bt192.2.2.2.2.2.2.2.2.1 bt192.2.2.2.2.2.2.2.2.2.1 bt192.2.2.2.2.2.2.2.2.2.2.1 bt192.2.2.2.2.2.2.2.2.2.2.2.1 bt192.2.2.2.2.2.2.2.2.2.2.2.2.1).bind fun t206 => (if 0 < (x1.length : Int) then (if 1 < (x1.length : Int) then (if 2 < (x1.length : Int) then ((schedule_Shared.f k bt192.2.2.2.2.2.2.2.2.2.2.2.2.2 (([rd x1 2] : List Int))).bind fun bt215 => (if 3 < (x1.length : Int) then ((schedule_Next.f bt215.2 (rd x1 0) (rd x1 1) bt215.1 (rd x1 3)).bind fun bt218 => ((conclavelaw07_all.f bt218.1 bt218.2.1 bt218.2.2.1 bt218.2.2.2.1 bt218.2.2.2.2.1 bt218.2.2.2.2.2.1 bt218.2.2.2.2.2.2.1 bt218.2.2.2.2.2.2.2.1 bt218.2.2.2.2.2.2.2.2.1 bt218.2.2.2.2.2.2.2.2.2.1 bt218.2.2.2.2.2.2.2.2.2.2.1 bt218.2.2.2.2.2.2.2.2.2.2.2.1 bt218.2.2.2.2.2.2.2.2.2.2.2.2.1).bind fun t232 => (if (rd x0 0) = (rd x1 0) then (conclavelaw07_ScheduleApart.j1 k x0 x1 t206 t232 ((rd x0 1) == (rd x1 1))) else (conclavelaw07_ScheduleApart.j1 k x0 x1 t206 t232 false)))) else (none))) else (none)) else (none)) else (none)))) else (none))) else (none)) else (none)) else (none)))
def conclavelaw07_ScheduleApart.j1 : Nat → List Int → List Int → List Int → List Int → Bool → Option (Bool)
 | 0, _, _, _, _, _ => none
 | k + 1, x0, x1, x7, x8, x9 => if x9 = true then (if 2 < (x0.length : Int) then (if 2 < (x1.length : Int) then (conclavelaw07_ScheduleApart.j2 k x0 x1 x7 x8 x9 ((rd x0 2) == (rd x1 2))) else (none)) else (none)) else (conclavelaw07_ScheduleApart.j2 k x0 x1 x7 x8 x9 false)
def conclavelaw07_ScheduleApart.j2 : Nat → List Int → List Int → List Int → List Int → Bool → Bool → Option (Bool)
 | 0, _, _, _, _, _, _ => none
 | k + 1, x0, x1, x7, x8, x9, x10 => if x10 = true then (if 3 < (x0.length : Int) then (if 3 < (x1.length : Int) then (conclavelaw07_ScheduleApart.j3 k x7 x8 x9 x10 ((rd x0 3) == (rd x1 3))) else (none)) else (none)) else (conclavelaw07_ScheduleApart.j3 k x7 x8 x9 x10 false)
def conclavelaw07_ScheduleApart.j3 : Nat → List Int → List Int → Bool → Bool → Bool → Option (Bool)
 | 0, _, _, _, _, _ => none
 | k + 1, x7, x8, x9, x10, x11 => conclavelaw07_ScheduleApart.l0 k x7 x8 x9 x10 x11 (x7.length : Int) 0
def conclavelaw07_ScheduleApart.l0 : Nat → List Int → List Int → Bool → Bool → Bool → Int → Int → Option (Bool)
 | 0, _, _, _, _, _, _, _ => none
 | k + 1, x7, x8, x9, x10, x11, x115, x116 => if x116 < x115 then (if x116 = 0 then (conclavelaw07_ScheduleApart.j5 k x7 x8 x9 x10 x11 x116 x9 x115 x116) else (conclavelaw07_ScheduleApart.j5 k x7 x8 x9 x10 x11 x116 x11 x115 x116)) else (conclavelaw07_ScheduleApart.l1 k x7 (x7.length : Int) 0)
def conclavelaw07_ScheduleApart.j5 : Nat → List Int → List Int → Bool → Bool → Bool → Int → Bool → Int → Int → Option (Bool)
 | 0, _, _, _, _, _, _, _, _, _ => none
 | k + 1, x7, x8, x9, x10, x11, x12, x13, x115, x116 => if x12 = 1 then (conclavelaw07_ScheduleApart.j6 k x7 x8 x9 x10 x11 x12 x13 x115 x116 true) else (conclavelaw07_ScheduleApart.j6 k x7 x8 x9 x10 x11 x12 x13 x115 x116 (x12 == 2))
def conclavelaw07_ScheduleApart.j6 : Nat → List Int → List Int → Bool → Bool → Bool → Int → Bool → Int → Int → Bool → Option (Bool)
 | 0, _, _, _, _, _, _, _, _, _, _ => none
 | k + 1, x7, x8, x9, x10, x11, x12, x13, x115, x116, x128 => if x128 = true then (if 0 ≤ x12 then (if x12 < (x7.length : Int) then (if (rd x7 x12) = 0 then (some false) else (if x12 < (x8.length : Int) then (if (((rd x7 x12) == (rd x8 x12)) != x10) = true then (some false) else (conclavelaw07_ScheduleApart.l0 k x7 x8 x9 x10 x11 x115 (wrap64 (x116 + 1)))) else (none))) else (none)) else (none)) else (if 0 ≤ x12 then (if x12 < (x7.length : Int) then (if (rd x7 x12) = 0 then (some false) else (if x12 < (x8.length : Int) then (if (((rd x7 x12) == (rd x8 x12)) != x13) = true then (some false) else (conclavelaw07_ScheduleApart.l0 k x7 x8 x9 x10 x11 x115 (wrap64 (x116 + 1)))) else (none))) else (none)) else (none))
def conclavelaw07_ScheduleApart.l1 : Nat → List Int → Int → Int → Option (Bool)
 | 0, _, _, _ => none
 | k + 1, x7, x150, x151 => if x151 < x150 then (conclavelaw07_ScheduleApart.l2 k x7 x151 x150 x151 x151 0) else (some true)
def conclavelaw07_ScheduleApart.l2 : Nat → List Int → Int → Int → Int → Int → Int → Option (Bool)
 | 0, _, _, _, _, _, _ => none
 | k + 1, x7, x14, x150, x151, x154, x155 => if x155 < x154 then (if 0 ≤ x14 then (if x14 < (x7.length : Int) then (if 0 ≤ x155 then (if x155 < (x7.length : Int) then (if (rd x7 x14) = (rd x7 x155) then (some false) else (conclavelaw07_ScheduleApart.l2 k x7 x14 x150 x151 x154 (wrap64 (x155 + 1)))) else (none)) else (none)) else (none)) else (none)) else (conclavelaw07_ScheduleApart.l1 k x7 x150 (wrap64 (x151 + 1)))
end
def conclavelaw07_ScheduleApart.f (k : Nat) (l0 : List Int) (l1 : List Int) : Option (Bool) := (conclavelaw07_anchor.f k).bind fun t178 => (if t178 = true then (if (l0.length : Int) = 4 then (if (l1.length : Int) = 4 then ((conclavelaw07_right.f k l0 9).bind fun t179 => (if t179 = true then ((conclavelaw07_right.f k l1 9).bind fun t180 => (conclavelaw07_ScheduleApart.j0 k l0 l1 (!t180))) else (conclavelaw07_ScheduleApart.j0 k l0 l1 true))) else (conclavelaw07_ScheduleApart.j0 k l0 l1 true)) else (conclavelaw07_ScheduleApart.j0 k l0 l1 true)) else (some false))
theorem conclavelaw07_ScheduleApart.mono_l : ∀ k, (∀ y0 y1 y2, LeO (conclavelaw07_ScheduleApart.j0 k y0 y1 y2) (conclavelaw07_ScheduleApart.j0 (k + 1) y0 y1 y2)) ∧ (∀ y0 y1 y2 y3 y4, LeO (conclavelaw07_ScheduleApart.j1 k y0 y1 y2 y3 y4) (conclavelaw07_ScheduleApart.j1 (k + 1) y0 y1 y2 y3 y4)) ∧ (∀ y0 y1 y2 y3 y4 y5, LeO (conclavelaw07_ScheduleApart.j2 k y0 y1 y2 y3 y4 y5) (conclavelaw07_ScheduleApart.j2 (k + 1) y0 y1 y2 y3 y4 y5)) ∧ (∀ y0 y1 y2 y3 y4, LeO (conclavelaw07_ScheduleApart.j3 k y0 y1 y2 y3 y4) (conclavelaw07_ScheduleApart.j3 (k + 1) y0 y1 y2 y3 y4)) ∧ (∀ y0 y1 y2 y3 y4 y5 y6, LeO (conclavelaw07_ScheduleApart.l0 k y0 y1 y2 y3 y4 y5 y6) (conclavelaw07_ScheduleApart.l0 (k + 1) y0 y1 y2 y3 y4 y5 y6)) ∧ (∀ y0 y1 y2 y3 y4 y5 y6 y7 y8, LeO (conclavelaw07_ScheduleApart.j5 k y0 y1 y2 y3 y4 y5 y6 y7 y8) (conclavelaw07_ScheduleApart.j5 (k + 1) y0 y1 y2 y3 y4 y5 y6 y7 y8)) ∧ (∀ y0 y1 y2 y3 y4 y5 y6 y7 y8 y9, LeO (conclavelaw07_ScheduleApart.j6 k y0 y1 y2 y3 y4 y5 y6 y7 y8 y9) (conclavelaw07_ScheduleApart.j6 (k + 1) y0 y1 y2 y3 y4 y5 y6 y7 y8 y9)) ∧ (∀ y0 y1 y2, LeO (conclavelaw07_ScheduleApart.l1 k y0 y1 y2) (conclavelaw07_ScheduleApart.l1 (k + 1) y0 y1 y2)) ∧ (∀ y0 y1 y2 y3 y4 y5, LeO (conclavelaw07_ScheduleApart.l2 k y0 y1 y2 y3 y4 y5) (conclavelaw07_ScheduleApart.l2 (k + 1) y0 y1 y2 y3 y4 y5))
 | 0 => ⟨fun _ _ _ r h => by simp [conclavelaw07_ScheduleApart.j0] at h, fun _ _ _ _ _ r h => by simp [conclavelaw07_ScheduleApart.j1] at h, fun _ _ _ _ _ _ r h => by simp [conclavelaw07_ScheduleApart.j2] at h, fun _ _ _ _ _ r h => by simp [conclavelaw07_ScheduleApart.j3] at h, fun _ _ _ _ _ _ _ r h => by simp [conclavelaw07_ScheduleApart.l0] at h, fun _ _ _ _ _ _ _ _ _ r h => by simp [conclavelaw07_ScheduleApart.j5] at h, fun _ _ _ _ _ _ _ _ _ _ r h => by simp [conclavelaw07_ScheduleApart.j6] at h, fun _ _ _ r h => by simp [conclavelaw07_ScheduleApart.l1] at h, fun _ _ _ _ _ _ r h => by simp [conclavelaw07_ScheduleApart.l2] at h⟩
 | k + 1 => by
  obtain ⟨ih0, ih1, ih2, ih3, ih4, ih5, ih6, ih7, ih8⟩ := conclavelaw07_ScheduleApart.mono_l k
  refine ⟨?_, ?_, ?_, ?_, ?_, ?_, ?_, ?_, ?_⟩
  ·
   intro y0 y1 y2
   unfold conclavelaw07_ScheduleApart.j0
   repeat' first
   | (with_reducible exact ih0 _ _ _)
   | (with_reducible exact ih1 _ _ _ _ _)
   | (with_reducible exact ih2 _ _ _ _ _ _)
   | (with_reducible exact ih3 _ _ _ _ _)
   | (with_reducible exact ih4 _ _ _ _ _ _ _)
   | (with_reducible exact ih5 _ _ _ _ _ _ _ _ _)
   | (with_reducible exact ih6 _ _ _ _ _ _ _ _ _ _)
   | (with_reducible exact ih7 _ _ _)
   | (with_reducible exact ih8 _ _ _ _ _ _)
   | (with_reducible exact conclavelaw07_anchor.mono _)
   | (with_reducible exact conclavelaw07_right.mono _ _ _)
   | (with_reducible exact schedule_Shared.mono _ _ _)
   | (with_reducible exact LeO.refl _)
   | (with_reducible exact LeO.none _)
   | (with_reducible refine LeO.ite ?_ ?_)
   | (with_reducible refine LeO.bind ?_ (fun _ => ?_))
   | exact ih0 _ _ _
   | exact ih1 _ _ _ _ _
   | exact ih2 _ _ _ _ _ _
   | exact ih3 _ _ _ _ _
   | exact ih4 _ _ _ _ _ _ _
   | exact ih5 _ _ _ _ _ _ _ _ _
   | exact ih6 _ _ _ _ _ _ _ _ _ _
   | exact ih7 _ _ _
   | exact ih8 _ _ _ _ _ _
   | exact conclavelaw07_anchor.mono _
   | exact conclavelaw07_right.mono _ _ _
   | exact schedule_Shared.mono _ _ _
   | exact LeO.none _
   | refine LeO.ite ?_ ?_
   | refine LeO.bind ?_ (fun _ => ?_)
  ·
   intro y0 y1 y2 y3 y4
   unfold conclavelaw07_ScheduleApart.j1
   repeat' first
   | (with_reducible exact ih0 _ _ _)
   | (with_reducible exact ih1 _ _ _ _ _)
   | (with_reducible exact ih2 _ _ _ _ _ _)
   | (with_reducible exact ih3 _ _ _ _ _)
   | (with_reducible exact ih4 _ _ _ _ _ _ _)
   | (with_reducible exact ih5 _ _ _ _ _ _ _ _ _)
   | (with_reducible exact ih6 _ _ _ _ _ _ _ _ _ _)
   | (with_reducible exact ih7 _ _ _)
   | (with_reducible exact ih8 _ _ _ _ _ _)
   | (with_reducible exact conclavelaw07_anchor.mono _)
   | (with_reducible exact conclavelaw07_right.mono _ _ _)
   | (with_reducible exact schedule_Shared.mono _ _ _)
   | (with_reducible exact LeO.refl _)
   | (with_reducible exact LeO.none _)
   | (with_reducible refine LeO.ite ?_ ?_)
   | (with_reducible refine LeO.bind ?_ (fun _ => ?_))
   | exact ih0 _ _ _
   | exact ih1 _ _ _ _ _
   | exact ih2 _ _ _ _ _ _
   | exact ih3 _ _ _ _ _
   | exact ih4 _ _ _ _ _ _ _
   | exact ih5 _ _ _ _ _ _ _ _ _
   | exact ih6 _ _ _ _ _ _ _ _ _ _
   | exact ih7 _ _ _
   | exact ih8 _ _ _ _ _ _
   | exact conclavelaw07_anchor.mono _
   | exact conclavelaw07_right.mono _ _ _
   | exact schedule_Shared.mono _ _ _
   | exact LeO.none _
   | refine LeO.ite ?_ ?_
   | refine LeO.bind ?_ (fun _ => ?_)
  ·
   intro y0 y1 y2 y3 y4 y5
   unfold conclavelaw07_ScheduleApart.j2
   repeat' first
   | (with_reducible exact ih0 _ _ _)
   | (with_reducible exact ih1 _ _ _ _ _)
   | (with_reducible exact ih2 _ _ _ _ _ _)
   | (with_reducible exact ih3 _ _ _ _ _)
   | (with_reducible exact ih4 _ _ _ _ _ _ _)
   | (with_reducible exact ih5 _ _ _ _ _ _ _ _ _)
   | (with_reducible exact ih6 _ _ _ _ _ _ _ _ _ _)
   | (with_reducible exact ih7 _ _ _)
   | (with_reducible exact ih8 _ _ _ _ _ _)
   | (with_reducible exact conclavelaw07_anchor.mono _)
   | (with_reducible exact conclavelaw07_right.mono _ _ _)
   | (with_reducible exact schedule_Shared.mono _ _ _)
   | (with_reducible exact LeO.refl _)
   | (with_reducible exact LeO.none _)
   | (with_reducible refine LeO.ite ?_ ?_)
   | (with_reducible refine LeO.bind ?_ (fun _ => ?_))
   | exact ih0 _ _ _
   | exact ih1 _ _ _ _ _
   | exact ih2 _ _ _ _ _ _
   | exact ih3 _ _ _ _ _
   | exact ih4 _ _ _ _ _ _ _
   | exact ih5 _ _ _ _ _ _ _ _ _
   | exact ih6 _ _ _ _ _ _ _ _ _ _
   | exact ih7 _ _ _
   | exact ih8 _ _ _ _ _ _
   | exact conclavelaw07_anchor.mono _
   | exact conclavelaw07_right.mono _ _ _
   | exact schedule_Shared.mono _ _ _
   | exact LeO.none _
   | refine LeO.ite ?_ ?_
   | refine LeO.bind ?_ (fun _ => ?_)
  ·
   intro y0 y1 y2 y3 y4
   unfold conclavelaw07_ScheduleApart.j3
   repeat' first
   | (with_reducible exact ih0 _ _ _)
   | (with_reducible exact ih1 _ _ _ _ _)
   | (with_reducible exact ih2 _ _ _ _ _ _)
   | (with_reducible exact ih3 _ _ _ _ _)
   | (with_reducible exact ih4 _ _ _ _ _ _ _)
   | (with_reducible exact ih5 _ _ _ _ _ _ _ _ _)
   | (with_reducible exact ih6 _ _ _ _ _ _ _ _ _ _)
   | (with_reducible exact ih7 _ _ _)
   | (with_reducible exact ih8 _ _ _ _ _ _)
   | (with_reducible exact conclavelaw07_anchor.mono _)
   | (with_reducible exact conclavelaw07_right.mono _ _ _)
   | (with_reducible exact schedule_Shared.mono _ _ _)
   | (with_reducible exact LeO.refl _)
   | (with_reducible exact LeO.none _)
   | (with_reducible refine LeO.ite ?_ ?_)
   | (with_reducible refine LeO.bind ?_ (fun _ => ?_))
   | exact ih0 _ _ _
   | exact ih1 _ _ _ _ _
   | exact ih2 _ _ _ _ _ _
   | exact ih3 _ _ _ _ _
   | exact ih4 _ _ _ _ _ _ _
   | exact ih5 _ _ _ _ _ _ _ _ _
   | exact ih6 _ _ _ _ _ _ _ _ _ _
   | exact ih7 _ _ _
   | exact ih8 _ _ _ _ _ _
   | exact conclavelaw07_anchor.mono _
   | exact conclavelaw07_right.mono _ _ _
   | exact schedule_Shared.mono _ _ _
   | exact LeO.none _
   | refine LeO.ite ?_ ?_
   | refine LeO.bind ?_ (fun _ => ?_)
  ·
   intro y0 y1 y2 y3 y4 y5 y6
   unfold conclavelaw07_ScheduleApart.l0
   repeat' first
   | (with_reducible exact ih0 _ _ _)
   | (with_reducible exact ih1 _ _ _ _ _)
   | (with_reducible exact ih2 _ _ _ _ _ _)
   | (with_reducible exact ih3 _ _ _ _ _)
   | (with_reducible exact ih4 _ _ _ _ _ _ _)
   | (with_reducible exact ih5 _ _ _ _ _ _ _ _ _)
   | (with_reducible exact ih6 _ _ _ _ _ _ _ _ _ _)
   | (with_reducible exact ih7 _ _ _)
   | (with_reducible exact ih8 _ _ _ _ _ _)
   | (with_reducible exact conclavelaw07_anchor.mono _)
   | (with_reducible exact conclavelaw07_right.mono _ _ _)
   | (with_reducible exact schedule_Shared.mono _ _ _)
   | (with_reducible exact LeO.refl _)
   | (with_reducible exact LeO.none _)
   | (with_reducible refine LeO.ite ?_ ?_)
   | (with_reducible refine LeO.bind ?_ (fun _ => ?_))
   | exact ih0 _ _ _
   | exact ih1 _ _ _ _ _
   | exact ih2 _ _ _ _ _ _
   | exact ih3 _ _ _ _ _
   | exact ih4 _ _ _ _ _ _ _
   | exact ih5 _ _ _ _ _ _ _ _ _
   | exact ih6 _ _ _ _ _ _ _ _ _ _
   | exact ih7 _ _ _
   | exact ih8 _ _ _ _ _ _
   | exact conclavelaw07_anchor.mono _
   | exact conclavelaw07_right.mono _ _ _
   | exact schedule_Shared.mono _ _ _
   | exact LeO.none _
   | refine LeO.ite ?_ ?_
   | refine LeO.bind ?_ (fun _ => ?_)
  ·
   intro y0 y1 y2 y3 y4 y5 y6 y7 y8
   unfold conclavelaw07_ScheduleApart.j5
   repeat' first
   | (with_reducible exact ih0 _ _ _)
   | (with_reducible exact ih1 _ _ _ _ _)
   | (with_reducible exact ih2 _ _ _ _ _ _)
   | (with_reducible exact ih3 _ _ _ _ _)
   | (with_reducible exact ih4 _ _ _ _ _ _ _)
   | (with_reducible exact ih5 _ _ _ _ _ _ _ _ _)
   | (with_reducible exact ih6 _ _ _ _ _ _ _ _ _ _)
   | (with_reducible exact ih7 _ _ _)
   | (with_reducible exact ih8 _ _ _ _ _ _)
   | (with_reducible exact conclavelaw07_anchor.mono _)
   | (with_reducible exact conclavelaw07_right.mono _ _ _)
   | (with_reducible exact schedule_Shared.mono _ _ _)
   | (with_reducible exact LeO.refl _)
   | (with_reducible exact LeO.none _)
   | (with_reducible refine LeO.ite ?_ ?_)
   | (with_reducible refine LeO.bind ?_ (fun _ => ?_))
   | exact ih0 _ _ _
   | exact ih1 _ _ _ _ _
   | exact ih2 _ _ _ _ _ _
   | exact ih3 _ _ _ _ _
   | exact ih4 _ _ _ _ _ _ _
   | exact ih5 _ _ _ _ _ _ _ _ _
   | exact ih6 _ _ _ _ _ _ _ _ _ _
   | exact ih7 _ _ _
   | exact ih8 _ _ _ _ _ _
   | exact conclavelaw07_anchor.mono _
   | exact conclavelaw07_right.mono _ _ _
   | exact schedule_Shared.mono _ _ _
   | exact LeO.none _
   | refine LeO.ite ?_ ?_
   | refine LeO.bind ?_ (fun _ => ?_)
  ·
   intro y0 y1 y2 y3 y4 y5 y6 y7 y8 y9
   unfold conclavelaw07_ScheduleApart.j6
   repeat' first
   | (with_reducible exact ih0 _ _ _)
   | (with_reducible exact ih1 _ _ _ _ _)
   | (with_reducible exact ih2 _ _ _ _ _ _)
   | (with_reducible exact ih3 _ _ _ _ _)
   | (with_reducible exact ih4 _ _ _ _ _ _ _)
   | (with_reducible exact ih5 _ _ _ _ _ _ _ _ _)
   | (with_reducible exact ih6 _ _ _ _ _ _ _ _ _ _)
   | (with_reducible exact ih7 _ _ _)
   | (with_reducible exact ih8 _ _ _ _ _ _)
   | (with_reducible exact conclavelaw07_anchor.mono _)
   | (with_reducible exact conclavelaw07_right.mono _ _ _)
   | (with_reducible exact schedule_Shared.mono _ _ _)
   | (with_reducible exact LeO.refl _)
   | (with_reducible exact LeO.none _)
   | (with_reducible refine LeO.ite ?_ ?_)
   | (with_reducible refine LeO.bind ?_ (fun _ => ?_))
   | exact ih0 _ _ _
   | exact ih1 _ _ _ _ _
   | exact ih2 _ _ _ _ _ _
   | exact ih3 _ _ _ _ _
   | exact ih4 _ _ _ _ _ _ _
   | exact ih5 _ _ _ _ _ _ _ _ _
   | exact ih6 _ _ _ _ _ _ _ _ _ _
   | exact ih7 _ _ _
   | exact ih8 _ _ _ _ _ _
   | exact conclavelaw07_anchor.mono _
   | exact conclavelaw07_right.mono _ _ _
   | exact schedule_Shared.mono _ _ _
   | exact LeO.none _
   | refine LeO.ite ?_ ?_
   | refine LeO.bind ?_ (fun _ => ?_)
  ·
   intro y0 y1 y2
   unfold conclavelaw07_ScheduleApart.l1
   repeat' first
   | (with_reducible exact ih0 _ _ _)
   | (with_reducible exact ih1 _ _ _ _ _)
   | (with_reducible exact ih2 _ _ _ _ _ _)
   | (with_reducible exact ih3 _ _ _ _ _)
   | (with_reducible exact ih4 _ _ _ _ _ _ _)
   | (with_reducible exact ih5 _ _ _ _ _ _ _ _ _)
   | (with_reducible exact ih6 _ _ _ _ _ _ _ _ _ _)
   | (with_reducible exact ih7 _ _ _)
   | (with_reducible exact ih8 _ _ _ _ _ _)
   | (with_reducible exact conclavelaw07_anchor.mono _)
   | (with_reducible exact conclavelaw07_right.mono _ _ _)
   | (with_reducible exact schedule_Shared.mono _ _ _)
   | (with_reducible exact LeO.refl _)
   | (with_reducible exact LeO.none _)
   | (with_reducible refine LeO.ite ?_ ?_)
   | (with_reducible refine LeO.bind ?_ (fun _ => ?_))
   | exact ih0 _ _ _
   | exact ih1 _ _ _ _ _
   | exact ih2 _ _ _ _ _ _
   | exact ih3 _ _ _ _ _
   | exact ih4 _ _ _ _ _ _ _
   | exact ih5 _ _ _ _ _ _ _ _ _
   | exact ih6 _ _ _ _ _ _ _ _ _ _
   | exact ih7 _ _ _
   | exact ih8 _ _ _ _ _ _
   | exact conclavelaw07_anchor.mono _
   | exact conclavelaw07_right.mono _ _ _
   | exact schedule_Shared.mono _ _ _
   | exact LeO.none _
   | refine LeO.ite ?_ ?_
   | refine LeO.bind ?_ (fun _ => ?_)
  ·
   intro y0 y1 y2 y3 y4 y5
   unfold conclavelaw07_ScheduleApart.l2
   repeat' first
   | (with_reducible exact ih0 _ _ _)
   | (with_reducible exact ih1 _ _ _ _ _)
   | (with_reducible exact ih2 _ _ _ _ _ _)
   | (with_reducible exact ih3 _ _ _ _ _)
   | (with_reducible exact ih4 _ _ _ _ _ _ _)
   | (with_reducible exact ih5 _ _ _ _ _ _ _ _ _)
   | (with_reducible exact ih6 _ _ _ _ _ _ _ _ _ _)
   | (with_reducible exact ih7 _ _ _)
   | (with_reducible exact ih8 _ _ _ _ _ _)
   | (with_reducible exact conclavelaw07_anchor.mono _)
   | (with_reducible exact conclavelaw07_right.mono _ _ _)
   | (with_reducible exact schedule_Shared.mono _ _ _)
   | (with_reducible exact LeO.refl _)
   | (with_reducible exact LeO.none _)
   | (with_reducible refine LeO.ite ?_ ?_)
   | (with_reducible refine LeO.bind ?_ (fun _ => ?_))
   | exact ih0 _ _ _
   | exact ih1 _ _ _ _ _
   | exact ih2 _ _ _ _ _ _
   | exact ih3 _ _ _ _ _
   | exact ih4 _ _ _ _ _ _ _
   | exact ih5 _ _ _ _ _ _ _ _ _
   | exact ih6 _ _ _ _ _ _ _ _ _ _
   | exact ih7 _ _ _
   | exact ih8 _ _ _ _ _ _
   | exact conclavelaw07_anchor.mono _
   | exact conclavelaw07_right.mono _ _ _
   | exact schedule_Shared.mono _ _ _
   | exact LeO.none _
   | refine LeO.ite ?_ ?_
   | refine LeO.bind ?_ (fun _ => ?_)
theorem conclavelaw07_ScheduleApart.mono : ∀ a0 a1 k, LeO (conclavelaw07_ScheduleApart.f k a0 a1) (conclavelaw07_ScheduleApart.f (k + 1) a0 a1) := by
 intro a0 a1 k
 obtain ⟨ih0, ih1, ih2, ih3, ih4, ih5, ih6, ih7, ih8⟩ := conclavelaw07_ScheduleApart.mono_l k
 unfold conclavelaw07_ScheduleApart.f
 repeat' first
  | (with_reducible exact ih0 _ _ _)
  | (with_reducible exact ih1 _ _ _ _ _)
  | (with_reducible exact ih2 _ _ _ _ _ _)
  | (with_reducible exact ih3 _ _ _ _ _)
  | (with_reducible exact ih4 _ _ _ _ _ _ _)
  | (with_reducible exact ih5 _ _ _ _ _ _ _ _ _)
  | (with_reducible exact ih6 _ _ _ _ _ _ _ _ _ _)
  | (with_reducible exact ih7 _ _ _)
  | (with_reducible exact ih8 _ _ _ _ _ _)
  | (with_reducible exact conclavelaw07_anchor.mono _)
  | (with_reducible exact conclavelaw07_right.mono _ _ _)
  | (with_reducible exact schedule_Shared.mono _ _ _)
  | (with_reducible exact LeO.refl _)
  | (with_reducible exact LeO.none _)
  | (with_reducible refine LeO.ite ?_ ?_)
  | (with_reducible refine LeO.bind ?_ (fun _ => ?_))
  | exact ih0 _ _ _
  | exact ih1 _ _ _ _ _
  | exact ih2 _ _ _ _ _ _
  | exact ih3 _ _ _ _ _
  | exact ih4 _ _ _ _ _ _ _
  | exact ih5 _ _ _ _ _ _ _ _ _
  | exact ih6 _ _ _ _ _ _ _ _ _ _
  | exact ih7 _ _ _
  | exact ih8 _ _ _ _ _ _
  | exact conclavelaw07_anchor.mono _
  | exact conclavelaw07_right.mono _ _ _
  | exact schedule_Shared.mono _ _ _
  | exact LeO.none _
  | refine LeO.ite ?_ ?_
  | refine LeO.bind ?_ (fun _ => ?_)
def conclavelaw07_ScheduleApart.T8 : Bool × List (List Nat × List Nat) := (true, [([], []), ([], []), ([1], [1]), ([2], [2]), ([], []), ([4], [4]), ([5], [5]), ([], []), ([], []), ([8], [8]), ([9], [9]), ([10], [10]), ([7, 11], [7, 11]), ([], []), ([13], [13]), ([14], [14]), ([0, 3, 6, 12, 15, 12], [0, 3, 6, 12, 15]), ([16, 16], [16]), ([17, 17, 0, 1, 2, 3, 4, 5, 6, 7, 8, 9, 10, 11, 12, 13, 14, 15, 16, 17], [17])])
def conclavelaw07_ScheduleApart.B8 : List Nat := [0, 0, 2, 6, 0, 16, 48, 0, 0, 256, 768, 1792, 3968, 0, 8192, 24576, 65535, 131071, 262143]
theorem conclavelaw07_ScheduleApart.tab8 : rtab .any (opsOf Try.f3 8) = conclavelaw07_ScheduleApart.T8 := by kernel_rfl
theorem conclavelaw07_ScheduleApart.bits8 : waitsOk conclavelaw07_ScheduleApart.T8.2 conclavelaw07_ScheduleApart.B8 = true := by kernel_rfl
def conclavelaw07_ScheduleApart.T9 : Bool × List (List Nat × List Nat) := (true, [([], []), ([], []), ([1], [1]), ([2], [2]), ([], []), ([4], [4]), ([5], [5]), ([], []), ([], []), ([8], [8]), ([9], [9]), ([10], [10]), ([7, 11], [7, 11]), ([], []), ([13], [13]), ([14], [14]), ([0, 3, 6, 12, 15, 12], [0, 3, 6, 12, 15]), ([16, 16], [16]), ([17, 17, 0, 1, 2, 3, 4, 5, 6, 7, 8, 9, 10, 11, 12, 13, 14, 15, 16, 17], [17])])
def conclavelaw07_ScheduleApart.B9 : List Nat := [0, 0, 2, 6, 0, 16, 48, 0, 0, 256, 768, 1792, 3968, 0, 8192, 24576, 65535, 131071, 262143]
theorem conclavelaw07_ScheduleApart.tab9 : rtab .any (opsOf Try.f3 9) = conclavelaw07_ScheduleApart.T9 := by kernel_rfl
theorem conclavelaw07_ScheduleApart.bits9 : waitsOk conclavelaw07_ScheduleApart.T9.2 conclavelaw07_ScheduleApart.B9 = true := by kernel_rfl
def conclavelaw07_ScheduleApart.T10 : Bool × List (List Nat × List Nat) := (true, [([], []), ([0], [0]), ([1], [1]), ([], []), ([3], [3]), ([4], [4]), ([2, 5], [2, 5]), ([6], [6]), ([7], [7]), ([8, 7], [7, 8]), ([9, 7], [7, 9]), ([7], [7]), ([11, 7], [7, 11]), ([12, 7], [7, 12]), ([10, 13, 7], [7, 10, 13]), ([7, 14], [7, 14]), ([15, 7, 0, 1, 2, 3, 4, 5, 6, 7, 8, 9, 10, 11, 12, 13, 14, 15], [15])])
def conclavelaw07_ScheduleApart.B10 : List Nat := [0, 1, 3, 0, 8, 24, 63, 127, 255, 511, 1023, 255, 2303, 6399, 16383, 32767, 65535]
theorem conclavelaw07_ScheduleApart.tab10 : rtab .any (opsOf Try.f3 10) = conclavelaw07_ScheduleApart.T10 := by kernel_rfl
theorem conclavelaw07_ScheduleApart.bits10 : waitsOk conclavelaw07_ScheduleApart.T10.2 conclavelaw07_ScheduleApart.B10 = true := by kernel_rfl
def conclavelaw07_ScheduleApart.T11 : Bool × List (List Nat × List Nat) := (true, [([], []), ([0], [0]), ([1], [1]), ([2, 1], [1, 2]), ([3, 1], [1, 3]), ([1], [1]), ([5, 1], [1, 5]), ([6, 1], [1, 6]), ([4, 7, 1], [1, 4, 7]), ([1, 8], [1, 8]), ([9, 1, 0, 1, 2, 3, 4, 5, 6, 7, 8, 9], [9])])
def conclavelaw07_ScheduleApart.B11 : List Nat := [0, 1, 3, 7, 15, 3, 35, 99, 255, 511, 1023]
theorem conclavelaw07_ScheduleApart.tab11 : rtab .any (opsOf Try.f3 11) = conclavelaw07_ScheduleApart.T11 := by kernel_rfl
theorem conclavelaw07_ScheduleApart.bits11 : waitsOk conclavelaw07_ScheduleApart.T11.2 conclavelaw07_ScheduleApart.B11 = true := by kernel_rfl
def conclavelaw07_ScheduleApart.T12 : Bool × List (List Nat × List Nat) := (true, [([], []), ([0], [0]), ([1], [1]), ([2, 1], [1, 2]), ([3, 1], [1, 3]), ([1], [1]), ([5, 1], [1, 5]), ([6, 1], [1, 6]), ([4, 7, 1], [1, 4, 7]), ([1, 8], [1, 8]), ([9, 1, 0, 1, 2, 3, 4, 5, 6, 7, 8, 9], [9])])
def conclavelaw07_ScheduleApart.B12 : List Nat := [0, 1, 3, 7, 15, 3, 35, 99, 255, 511, 1023]
theorem conclavelaw07_ScheduleApart.tab12 : rtab .any (opsOf Try.f3 12) = conclavelaw07_ScheduleApart.T12 := by kernel_rfl
theorem conclavelaw07_ScheduleApart.bits12 : waitsOk conclavelaw07_ScheduleApart.T12.2 conclavelaw07_ScheduleApart.B12 = true := by kernel_rfl
def conclavelaw07_ScheduleApart.T21 : Bool × List (List Nat × List Nat) := (true, [([], []), ([], []), ([0, 1], [0, 1]), ([2], [2]), ([3], [3]), ([4], [4]), ([5], [5]), ([5], [5]), ([6, 7, 5], [5, 6, 7]), ([8, 5], [5, 8]), ([5], [5]), ([5], [5]), ([10, 11, 5], [5, 10, 11]), ([12, 5], [5, 12]), ([9, 13, 5], [5, 9, 13]), ([5], [5]), ([14, 15, 5], [5, 14, 15]), ([5, 16], [5, 16])])
def conclavelaw07_ScheduleApart.B21 : List Nat := [0, 0, 3, 7, 15, 31, 63, 63, 255, 511, 63, 63, 3135, 7231, 16383, 63, 65535, 131071]
theorem conclavelaw07_ScheduleApart.tab21 : rtab .any (opsOf Try.f3 21) = conclavelaw07_ScheduleApart.T21 := by kernel_rfl
theorem conclavelaw07_ScheduleApart.bits21 : waitsOk conclavelaw07_ScheduleApart.T21.2 conclavelaw07_ScheduleApart.B21 = true := by kernel_rfl
def conclavelaw07_ScheduleApart.T30 : Bool × List (List Nat × List Nat) := (true, [([], []), ([], []), ([0, 1], [0, 1]), ([2], [2]), ([], []), ([], []), ([4, 5], [4, 5]), ([6], [6]), ([3, 7], [3, 7])])
def conclavelaw07_ScheduleApart.B30 : List Nat := [0, 0, 3, 7, 0, 0, 48, 112, 255]
theorem conclavelaw07_ScheduleApart.tab30 : rtab .any (opsOf Try.f3 30) = conclavelaw07_ScheduleApart.T30 := by kernel_rfl
theorem conclavelaw07_ScheduleApart.bits30 : waitsOk conclavelaw07_ScheduleApart.T30.2 conclavelaw07_ScheduleApart.B30 = true := by kernel_rfl

end Go.Proofs.Yteoamlnnaabomaa.PSc
