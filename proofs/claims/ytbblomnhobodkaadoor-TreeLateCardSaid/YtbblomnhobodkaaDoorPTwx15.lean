/- What this claim reaches of a longer text of this session. -/
import Derived.Test.YtbblomnhobodkaaDoorPTwx0
import Derived.Test.YtbblomnhobodkaaDoorPTwx1
import Derived.Test.YtbblomnhobodkaaDoorPTwx8
namespace Go.Proofs.YtbblomnhobodkaaDoor.PTw
open Go.RowKit Go.Proofs.YtbblomnhobodkaaDoorW.PrintWords Go.Proofs.YtbblomnhobodkaaDoorW.PrintLast Go.Proofs.YtbblomnhobodkaaDoorW.PrintMore
attribute [local go_sem] max2_int min2_int max_two min_two max_three min_three max_four min_four   -- for this text's walks alone
set_option linter.unusedVariables false
set_option linter.unusedSimpArgs false
mutual
def conclaveref04_Resolution.j0 : Nat → List (S29) → Int → List Int → Bool → Option (List Int)
  | 0, _, _, _, _ => none
  | k + 1, x0, x1, x5, x17 => if x17 = true then (some x5) else (conclaveref04_Resolution.l0 k x0 x5 (([x1] : List Int)))
def conclaveref04_Resolution.l0 : Nat → List (S29) → List Int → List Int → Option (List Int)
  | 0, _, _, _ => none
  | k + 1, x0, x5, x6 => if (x6.length : Int) > 0 then (if 0 ≤ (wrap64 ((x6.length : Int) - 1)) then (if (wrap64 ((x6.length : Int) - 1)) < (x6.length : Int) then (if (wrap64 ((x6.length : Int) - 1)) ≤ (x6.length : Int) then ((some (x6.take ((wrap64 ((x6.length : Int) - 1)) : Int).toNat : List Int)).bind fun y384 => (if 0 ≤ (rd x6 (wrap64 ((x6.length : Int) - 1))) then (if (rd x6 (wrap64 ((x6.length : Int) - 1))) < (x0.length : Int) then (if (rd_T29 x0 (rd x6 (wrap64 ((x6.length : Int) - 1)))).f0 = true then (if x5.length < 17592186044416 then (conclaveref04_Resolution.l1 k x0 (x5 ++ [rd x6 (wrap64 ((x6.length : Int) - 1))]) y384 (rd x6 (wrap64 ((x6.length : Int) - 1))) 0) else (none)) else ((conclaveref03_Width.f k (rd x6 (wrap64 ((x6.length : Int) - 1)))).bind fun t397 => (if (wrap64 (Int.tdiv (wrap64 (t397 + 1)) 2)) > 0 then (if y384.length < 17592186044416 then ((some (y384 ++ [wrap64 ((rd x6 (wrap64 ((x6.length : Int) - 1))) + (wrap64 (Int.tdiv (wrap64 (t397 + 1)) 2)))] : List Int)).bind fun y398 => (if y398.length < 17592186044416 then (conclaveref04_Resolution.l0 k x0 x5 (y398 ++ [wrap64 ((rd x6 (wrap64 ((x6.length : Int) - 1))) - (wrap64 (Int.tdiv (wrap64 (t397 + 1)) 2)))])) else (none))) else (none)) else (conclaveref04_Resolution.l0 k x0 x5 y384)))) else (none)) else (none))) else (none)) else (none)) else (none)) else (some x5)
def conclaveref04_Resolution.l1 : Nat → List (S29) → List Int → List Int → Int → Int → Option (List Int)
  | 0, _, _, _, _, _ => none
  | k + 1, x0, x5, x6, x7, x8 => if 0 ≤ x7 then (if x7 < (x0.length : Int) then (if x8 < (((rd_T29 x0 x7).f5).length : Int) then (if 0 ≤ x8 then (if x5.length < 17592186044416 then (conclaveref04_Resolution.l1 k x0 (x5 ++ [wrap64 (2 * (rd ((rd_T29 x0 x7).f5) x8))]) x6 x7 (wrap64 (x8 + 1))) else (none)) else (none)) else (conclaveref04_Resolution.l0 k x0 x5 x6)) else (none)) else (none)
end
def conclaveref04_Resolution.f (k : Nat) (l0 : List (S29)) (a1 : Int) : Option (List Int) := if a1 < 0 then (conclaveref04_Resolution.j0 k l0 a1 ([] : List Int) true) else (conclaveref04_Resolution.j0 k l0 a1 ([] : List Int) (decide (a1 ≥ (l0.length : Int))))
theorem conclaveref04_Resolution.mono_l : ∀ k, (∀ y0 y1 y2 y3, LeO (conclaveref04_Resolution.j0 k y0 y1 y2 y3) (conclaveref04_Resolution.j0 (k + 1) y0 y1 y2 y3)) ∧ (∀ y0 y1 y2, LeO (conclaveref04_Resolution.l0 k y0 y1 y2) (conclaveref04_Resolution.l0 (k + 1) y0 y1 y2)) ∧ (∀ y0 y1 y2 y3 y4, LeO (conclaveref04_Resolution.l1 k y0 y1 y2 y3 y4) (conclaveref04_Resolution.l1 (k + 1) y0 y1 y2 y3 y4))
  | 0 => ⟨fun _ _ _ _ r h => by simp [conclaveref04_Resolution.j0] at h, fun _ _ _ r h => by simp [conclaveref04_Resolution.l0] at h, fun _ _ _ _ _ r h => by simp [conclaveref04_Resolution.l1] at h⟩
  | k + 1 => by
    obtain ⟨ih0, ih1, ih2⟩ := conclaveref04_Resolution.mono_l k
    refine ⟨?_, ?_, ?_⟩
    · intro y0 y1 y2 y3
      unfold conclaveref04_Resolution.j0
      repeat' first
      | (with_reducible exact ih0 _ _ _ _)
      | (with_reducible exact ih1 _ _ _)
      | (with_reducible exact ih2 _ _ _ _ _)
      | (with_reducible exact conclaveref03_Width.mono _ _)
      | (with_reducible exact LeO.refl _)
      | (with_reducible exact LeO.none _)
      | (with_reducible refine LeO.ite ?_ ?_)
      | (with_reducible refine LeO.bind ?_ (fun _ => ?_))
      | exact ih0 _ _ _ _
      | exact ih1 _ _ _
      | exact ih2 _ _ _ _ _
      | exact conclaveref03_Width.mono _ _
      | exact LeO.none _
      | refine LeO.ite ?_ ?_
      | refine LeO.bind ?_ (fun _ => ?_)
    · intro y0 y1 y2
      unfold conclaveref04_Resolution.l0
      repeat' first
      | (with_reducible exact ih0 _ _ _ _)
      | (with_reducible exact ih1 _ _ _)
      | (with_reducible exact ih2 _ _ _ _ _)
      | (with_reducible exact conclaveref03_Width.mono _ _)
      | (with_reducible exact LeO.refl _)
      | (with_reducible exact LeO.none _)
      | (with_reducible refine LeO.ite ?_ ?_)
      | (with_reducible refine LeO.bind ?_ (fun _ => ?_))
      | exact ih0 _ _ _ _
      | exact ih1 _ _ _
      | exact ih2 _ _ _ _ _
      | exact conclaveref03_Width.mono _ _
      | exact LeO.none _
      | refine LeO.ite ?_ ?_
      | refine LeO.bind ?_ (fun _ => ?_)
    · intro y0 y1 y2 y3 y4
      unfold conclaveref04_Resolution.l1
      repeat' first
      | (with_reducible exact ih0 _ _ _ _)
      | (with_reducible exact ih1 _ _ _)
      | (with_reducible exact ih2 _ _ _ _ _)
      | (with_reducible exact conclaveref03_Width.mono _ _)
      | (with_reducible exact LeO.refl _)
      | (with_reducible exact LeO.none _)
      | (with_reducible refine LeO.ite ?_ ?_)
      | (with_reducible refine LeO.bind ?_ (fun _ => ?_))
      | exact ih0 _ _ _ _
      | exact ih1 _ _ _
      | exact ih2 _ _ _ _ _
      | exact conclaveref03_Width.mono _ _
      | exact LeO.none _
      | refine LeO.ite ?_ ?_
      | refine LeO.bind ?_ (fun _ => ?_)
theorem conclaveref04_Resolution.mono : ∀ a0 a1 k, LeO (conclaveref04_Resolution.f k a0 a1) (conclaveref04_Resolution.f (k + 1) a0 a1) := by
  intro a0 a1 k
  obtain ⟨ih0, ih1, ih2⟩ := conclaveref04_Resolution.mono_l k
  unfold conclaveref04_Resolution.f
  repeat' first
      | (with_reducible exact ih0 _ _ _ _)
      | (with_reducible exact ih1 _ _ _)
      | (with_reducible exact ih2 _ _ _ _ _)
      | (with_reducible exact conclaveref03_Width.mono _ _)
      | (with_reducible exact LeO.refl _)
      | (with_reducible exact LeO.none _)
      | (with_reducible refine LeO.ite ?_ ?_)
      | (with_reducible refine LeO.bind ?_ (fun _ => ?_))
      | exact ih0 _ _ _ _
      | exact ih1 _ _ _
      | exact ih2 _ _ _ _ _
      | exact conclaveref03_Width.mono _ _
      | exact LeO.none _
      | refine LeO.ite ?_ ?_
      | refine LeO.bind ?_ (fun _ => ?_)
set_option maxHeartbeats 8000000 in
set_option maxRecDepth 100000 in
theorem conclaveref04_Resolution.calls (k : Nat) (A0 : Option Addr) (c0 : Nat) (l0 : List (S29)) (a1 : Int) (r : List Int) (w : World) (hr0 : Kd.C k29 w A0 l0.length l0) (hc0 : l0.length ≤ c0) (h : conclaveref04_Resolution.f k l0 a1 = some r) :
    Calls Tryd.prog 38 #[.slice A0 l0.length c0, .int .i64 a1] w fun e w' => ∃ v0_ : Value, e = .returned (v0_) ∧ Kd.R (Kd.int .i64) 3 w' w.heap.size (fun _ => True) v0_ r ∧ Below w.heap.size w w' := by
  have HR0 := Aside0.mk hr0
  have HC0 := Aside0.mk hc0
  clear hr0 hc0
  have HB := Aside0.mk (Below.refl w.heap.size w)
  have H : (if a1 < 0 then (conclaveref04_Resolution.j0 k l0 a1 ([] : List Int) true) else (conclaveref04_Resolution.j0 k l0 a1 ([] : List Int) (decide (a1 ≥ (l0.length : Int))))) = some r := h
  clear h
  have HC3 := Aside0.mk H
  clear H
  go_enter Tryd.func38, Tryd.ntmps38
  go_upto_region 2 with (fail)
  go_cut [17] (fun v17 wc => ∃ (kq : Nat) (x17_2 : Bool), v17 = .bool x17_2 ∧ Aside0 (conclaveref04_Resolution.j0 kq l0 a1 ([] : List Int) x17_2 = some r) ∧ Aside0 (kq ≤ k) ∧ Aside0 (Kd.R (Kd.int .i64) 3 wc w.heap.size (fun _ => True) (.slice none 0 0) ([] : List Int)) ∧ Aside0 (Below w.heap.size w wc))
  case first =>
    have H := HC3.out
    clear HC3
    by_cases c4 : a1 < 0
    · rw [if_pos c4] at H
      have c4b0 : decide (a1 < 0) = true := decide_eq_true c4
      clear c4
      (first | rw [c4b0] | (simp only [i64_w, i32_w]; rw [c4b0]) | skip)
      have H' := Aside0.mk H
      clear H
      go_wp2
      go_meet
      case rel => exact ⟨_, (true), (by first | rfl | (simp; done) | (simp [*]; done)), H', ⟨by first | omega | exact Nat.le_refl _⟩, ⟨by first | exact Kd.R_nil _ _ _ _ _ | exact Kd.N_nil _ _ _ _ _ | exact Kd.V_nil _ _ _ _ _ | exact Kd.Q_nil _ _ _ _ _ | exact Kd.S_nil _ _ _ _ _⟩, ⟨by repeat (first | (with_reducible first | exact HB.out | apply below_alloc | apply pw_below_drewN | apply below_drew1) | exact HB.out)⟩⟩
    · rw [if_neg c4] at H
      have c4b0 : decide (a1 < 0) = false := decide_eq_false c4
      clear c4
      (first | rw [c4b0] | (simp only [i64_w, i32_w]; rw [c4b0]) | skip)
      have H' := Aside0.mk H
      clear H
      go_wp2
      go_meet
      case rel => exact ⟨_, (decide (a1 ≥ (l0.length : Int))), (by first | rfl | (simp; done) | (simp [*]; done)), H', ⟨by first | omega | exact Nat.le_refl _⟩, ⟨by first | exact Kd.R_nil _ _ _ _ _ | exact Kd.N_nil _ _ _ _ _ | exact Kd.V_nil _ _ _ _ _ | exact Kd.Q_nil _ _ _ _ _ | exact Kd.S_nil _ _ _ _ _⟩, ⟨by repeat (first | (with_reducible first | exact HB.out | apply below_alloc | apply pw_below_drewN | apply below_drew1) | exact HB.out)⟩⟩
  case rest =>
    clear HC3
    try clear p2
    try clear c3
    try clear c4
    try clear c4b0
    obtain ⟨kq, x17_2, rfl, HA, HJ2, HO_5, HB⟩ := hcut
    cases kq with
    | zero => exact absurd HA.out (by simp [conclaveref04_Resolution.j0])
    | succ kj2 =>
      have H := HA.out
      clear HA
      simp only [conclaveref04_Resolution.j0] at H
      by_cases c5 : x17_2 = true
      · subst c5
        have H1 : (some ([] : List Int)) = some r := by rw [if_pos rfl] at H; exact H
        clear H
        have H := H1
        clear H1
        obtain rfl := Option.some.inj H
        go_wp2
        go_ret
        exact ⟨_, by first | rfl | (simp [errW_none, errW_some] <;> rfl) | (simp [*, errW_none, errW_some] <;> rfl), by (with_reducible repeat (first | apply Kd.R_alloc | apply Kd.R_drewN | apply Kd.R_drew)); exact HO_5.out, by repeat (first | (with_reducible first | exact HB.out | apply below_alloc | apply pw_below_drewN | apply below_drew1) | exact HB.out)⟩
      · replace c5 := Bool.eq_false_iff.mpr c5
        subst c5
        have H1 : (conclaveref04_Resolution.l0 kj2 l0 ([] : List Int) (([a1] : List Int))) = some r := by rw [if_neg (show ¬ (false = true) by decide)] at H; exact H
        clear H
        have H := H1
        clear H1
        obtain ⟨y380, hy380⟩ : ∃ y_ : List Int, y_ = (([a1] : List Int)) := ⟨_, rfl⟩
        replace H : (conclaveref04_Resolution.l0 kj2 l0 ([] : List Int) y380) = some r := by first | (rw [hy380]; with_reducible exact H) | (have H2_ := (Option.bind_some _ _).symm.trans H; rw [hy380]; with_reducible exact H2_) | (have H2_ := (Option.bind_some _ _).symm.trans H; with_reducible exact H2_) | with_reducible exact H | (rw [hy380]; exact H) | exact H
        have Ny380 := Aside0.mk hy380
        clear hy380
        have H' := Aside0.mk H
        clear H
        go_wp2_with (first | ((with_reducible refine gate_dst (N := 20) rfl ?_); (try (refine gate_guard (by rfl) ?_; dsimp only)); refine Kd.R_lit (Kd.int .i64) _ 3 ?hg (N := 20) ?hd (xs := ([a1] : List Int)) (inner := [.int .i64 a1]) (ok := fun _ => True) (okp := fun _ => True) ?hr ?hp (fun _ hk => hk) trivial (Below.refl _ _) (Nat.le_refl _) (by simp) ?_; (case hd => rfl); (case hg => rfl); (case hr => first | (go_simp; done) | (go_simp; rfl)); (case hp => exact (Reps.one (show Kd.M (Kd.int .i64) _ _ _ a1 [.int .i64 a1] from rfl) (Reps.none _ _))); intro v381 w6 ho7 hb hg_ hnew_; clear hg_ hnew_; (first | rw [← Ny380.out] at ho7 | (simp only [Int.reduceToNat] at ho7; rw [← Ny380.out] at ho7)); have n0_ := Aside0.mk (Kd.R_elder' (by (with_reducible repeat (first | apply Kd.R_alloc | apply Kd.R_drewN | apply Kd.R_drew)); exact HO_5.out) (Kd.R_base ho7) hb); have n1_ := Aside0.mk (Kd.R_lower (Kd.R_new' ho7 (Kd.R_lt (by (with_reducible repeat (first | apply Kd.R_alloc | apply Kd.R_drewN | apply Kd.R_drew)); exact HO_5.out))) (below_size (by repeat (first | (with_reducible first | exact HB.out | apply below_alloc | apply pw_below_drewN | apply below_drew1) | exact HB.out)))); have n2_ := Aside0.mk (below_step (by repeat (first | (with_reducible first | exact HB.out | apply below_alloc | apply pw_below_drewN | apply below_drew1) | exact HB.out)) hb); clear HO_5; clear HB; have HO_5 := n0_; have HO382 := n1_; have HB := n2_; clear n0_ n1_ n2_; clear hb ho7))
        go_loopg [5, 6] kj2 (fun kq v5 v6 w' => ∃ (x5_2 : List Int) (x6_2 : List Int), Aside0 (conclaveref04_Resolution.l0 kq l0 x5_2 x6_2 = some r) ∧ Aside0 (kq ≤ kj2) ∧ Aside0 (Kd.R (Kd.int .i64) 3 w' w.heap.size (fun k_ => some k_ ≠ (v6 : Value).ownBlock) v5 x5_2) ∧ Aside0 (Kd.R (Kd.int .i64) 3 w' w.heap.size (fun k_ => some k_ ≠ (v5 : Value).ownBlock) v6 x6_2) ∧ Aside0 (Below w.heap.size w w'))
        case atStart => exact ⟨(([] : List Int)), (y380), H', ⟨Nat.le_refl _⟩, ⟨by (with_reducible repeat (first | apply Kd.R_alloc | apply Kd.R_drewN | apply Kd.R_drew)); exact Kd.R_mono HO_5.out (fun _ hk => hk.2)⟩, ⟨by (with_reducible repeat (first | apply Kd.R_alloc | apply Kd.R_drewN | apply Kd.R_drew)); exact Kd.R_mono HO382.out (fun _ hk => hk.2)⟩, ⟨by repeat (first | (with_reducible first | exact HB.out | apply below_alloc | apply pw_below_drewN | apply below_drew1) | exact HB.out)⟩⟩
        case round =>
          clear H'
          try clear p2
          try clear c3
          try clear c4
          try clear c4b0
          try clear c5
          try clear p2
          obtain ⟨x5_2, x6_2, HA, HK2, HO_5, HO_6, HB⟩ := hrel
          cases gk with
          | zero => exact absurd HA.out (by simp [conclaveref04_Resolution.l0])
          | succ k2 =>
            have H := HA.out
            clear HA
            simp only [conclaveref04_Resolution.l0] at H
            by_cases c8 : (x6_2.length : Int) > 0
            · rw [if_pos c8] at H
              have c8b0 : decide (0 < (x6_2.length : Int)) = true := decide_eq_true c8
              have c8b1 : decide (0 < x6_2.length) = true := decide_eq_true (by omega)
              clear c8
              obtain ⟨ji9, hji9⟩ : ∃ j_ : Int, (wrap64 ((x6_2.length : Int) - 1)) = j_ := ⟨_, rfl⟩
              replace H : (if 0 ≤ (ji9) then (if (ji9) < (x6_2.length : Int) then (if (ji9) ≤ (x6_2.length : Int) then ((some (x6_2.take ((ji9) : Int).toNat : List Int)).bind fun y384 => (if 0 ≤ (rd x6_2 (ji9)) then (if (rd x6_2 (ji9)) < (l0.length : Int) then (if (rd_T29 l0 (rd x6_2 (ji9))).f0 = true then (if x5_2.length < 17592186044416 then (conclaveref04_Resolution.l1 k2 l0 (x5_2 ++ [rd x6_2 (ji9)]) y384 (rd x6_2 (ji9)) 0) else (none)) else ((conclaveref03_Width.f k2 (rd x6_2 (ji9))).bind fun t397 => (if (wrap64 (Int.tdiv (wrap64 (t397 + 1)) 2)) > 0 then (if y384.length < 17592186044416 then ((some (y384 ++ [wrap64 ((rd x6_2 (ji9)) + (wrap64 (Int.tdiv (wrap64 (t397 + 1)) 2)))] : List Int)).bind fun y398 => (if y398.length < 17592186044416 then (conclaveref04_Resolution.l0 k2 l0 x5_2 (y398 ++ [wrap64 ((rd x6_2 (ji9)) - (wrap64 (Int.tdiv (wrap64 (t397 + 1)) 2)))])) else (none))) else (none)) else (conclaveref04_Resolution.l0 k2 l0 x5_2 y384)))) else (none)) else (none))) else (none)) else (none)) else (none)) = some r := by first | (rw [hji9] at H; exact H) | (simp only [hji9] at H ⊢; exact H)
              have hji9w : (IntKind.i64.wrap ((x6_2.length : Int) - 1)) = ji9 := (i64_w _).trans hji9
              by_cases c10 : 0 ≤ (ji9)
              · rw [if_pos c10] at H
                have c10b0 : decide (0 ≤ (ji9)) = true := decide_eq_true c10
                clear c10
                by_cases c11 : (ji9) < (x6_2.length : Int)
                · rw [if_pos c11] at H
                  have c11b0 : decide ((ji9) < (x6_2.length : Int)) = true := decide_eq_true c11
                  clear c11
                  by_cases c12 : (ji9) ≤ (x6_2.length : Int)
                  · rw [if_pos c12] at H
                    have c12b0 := eq_true c12
                    have c12b1 : decide ((ji9) ≤ (x6_2.length : Int)) = true := decide_eq_true c12
                    clear c12
                    obtain ⟨y384, hy384⟩ : ∃ y_ : List Int, y_ = (x6_2.take ((ji9) : Int).toNat) := ⟨_, rfl⟩
                    replace H : (if 0 ≤ (rd x6_2 (ji9)) then (if (rd x6_2 (ji9)) < (l0.length : Int) then (if (rd_T29 l0 (rd x6_2 (ji9))).f0 = true then (if x5_2.length < 17592186044416 then (conclaveref04_Resolution.l1 k2 l0 (x5_2 ++ [rd x6_2 (ji9)]) y384 (rd x6_2 (ji9)) 0) else (none)) else ((conclaveref03_Width.f k2 (rd x6_2 (ji9))).bind fun t397 => (if (wrap64 (Int.tdiv (wrap64 (t397 + 1)) 2)) > 0 then (if y384.length < 17592186044416 then ((some (y384 ++ [wrap64 ((rd x6_2 (ji9)) + (wrap64 (Int.tdiv (wrap64 (t397 + 1)) 2)))] : List Int)).bind fun y398 => (if y398.length < 17592186044416 then (conclaveref04_Resolution.l0 k2 l0 x5_2 (y398 ++ [wrap64 ((rd x6_2 (ji9)) - (wrap64 (Int.tdiv (wrap64 (t397 + 1)) 2)))])) else (none))) else (none)) else (conclaveref04_Resolution.l0 k2 l0 x5_2 y384)))) else (none)) else (none)) = some r := by first | (rw [hy384]; with_reducible exact H) | (have H2_ := (Option.bind_some _ _).symm.trans H; rw [hy384]; with_reducible exact H2_) | (have H2_ := (Option.bind_some _ _).symm.trans H; with_reducible exact H2_) | with_reducible exact H | (rw [hy384]; exact H) | exact H
                    have Ny384 := Aside0.mk hy384
                    clear hy384
                    by_cases c13 : 0 ≤ (rd x6_2 (ji9))
                    · rw [if_pos c13] at H
                      have c13b0 : decide (0 ≤ (rd x6_2 (ji9))) = true := decide_eq_true c13
                      clear c13
                      by_cases c14 : (rd x6_2 (ji9)) < (l0.length : Int)
                      · rw [if_pos c14] at H
                        have c14b0 : decide ((rd x6_2 (ji9)) < (l0.length : Int)) = true := decide_eq_true c14
                        clear c14
                        obtain ⟨bq15, hbq15⟩ : ∃ b_ : Bool, b_ = ((rd_T29 l0 (rd x6_2 (ji9))).f0) := ⟨_, rfl⟩
                        replace H : (if bq15 = true then (if x5_2.length < 17592186044416 then (conclaveref04_Resolution.l1 k2 l0 (x5_2 ++ [rd x6_2 (ji9)]) y384 (rd x6_2 (ji9)) 0) else (none)) else ((conclaveref03_Width.f k2 (rd x6_2 (ji9))).bind fun t397 => (if (wrap64 (Int.tdiv (wrap64 (t397 + 1)) 2)) > 0 then (if y384.length < 17592186044416 then ((some (y384 ++ [wrap64 ((rd x6_2 (ji9)) + (wrap64 (Int.tdiv (wrap64 (t397 + 1)) 2)))] : List Int)).bind fun y398 => (if y398.length < 17592186044416 then (conclaveref04_Resolution.l0 k2 l0 x5_2 (y398 ++ [wrap64 ((rd x6_2 (ji9)) - (wrap64 (Int.tdiv (wrap64 (t397 + 1)) 2)))])) else (none))) else (none)) else (conclaveref04_Resolution.l0 k2 l0 x5_2 y384)))) = some r := by rw [← hbq15] at H; exact H
                        have Nbq15 := Aside0.mk hbq15
                        clear hbq15
                        by_cases c16 : bq15 = true
                        · subst c16
                          have H1 : (if x5_2.length < 17592186044416 then (conclaveref04_Resolution.l1 k2 l0 (x5_2 ++ [rd x6_2 (ji9)]) y384 (rd x6_2 (ji9)) 0) else (none)) = some r := by rw [if_pos rfl] at H; exact H
                          clear H
                          have H := H1
                          clear H1
                          by_cases c17 : x5_2.length < 17592186044416
                          · rw [if_pos c17] at H
                            have LMc17 := Aside0.mk c17
                            clear c17
                            obtain ⟨y388, hy388⟩ : ∃ y_ : List Int, y_ = (x5_2 ++ [rd x6_2 (ji9)]) := ⟨_, rfl⟩
                            replace H : (conclaveref04_Resolution.l1 k2 l0 y388 y384 (rd x6_2 (ji9)) 0) = some r := by first | (rw [hy388]; with_reducible exact H) | (have H2_ := (Option.bind_some _ _).symm.trans H; rw [hy388]; with_reducible exact H2_) | (have H2_ := (Option.bind_some _ _).symm.trans H; with_reducible exact H2_) | with_reducible exact H | (rw [hy388]; exact H) | exact H
                            have Ny388 := Aside0.mk hy388
                            clear hy388
                            have H' := Aside0.mk H
                            clear H
                            obtain ⟨Ao18, co18, eo18⟩ := Kd.R_slice HO_6.out
                            subst eo18
                            have p383 : 0 ≤ ((ji9) : Int) := of_decide_eq_true (by first | (with_reducible assumption) | assumption)
                            have q383 : (ji9) < (x6_2.length : Int) := of_decide_eq_true (by first | (with_reducible assumption) | assumption)
                            obtain ⟨ad383, e383, hx383_0⟩ := Kd.at_int (Kd.R_reads' HO_6.out).2.2 (ji9) p383 q383
                            cases e383
                            replace p383 := eq_true p383
                            replace q383 := eq_true q383
                            have q19 : ((ji9) : Int) ≤ ((x6_2.length : Int) : Int) := of_decide_eq_true (by first | (with_reducible assumption) | assumption)
                            obtain ⟨i019, hi019, _, hsz19, _⟩ := info_parts info3
                            have hcut19 := cut_to (P := Tryd.prog) 27 3 .i64 Tryd.underlying27 hi019 (some ad383) x6_2.length co18 (ji9) (of_decide_eq_true (by first | (with_reducible assumption) | assumption)) q19 (Kd.R_reads' HO_6.out).2.1
                            have hr19 := Kd.R_take (m := ((ji9) : Int).toNat) HO_6.out (by omega)
                            have hy19 : y384.length = ((ji9) : Int).toNat := (by rw [Ny384.out, List.length_take]; omega)
                            rw [← Ny384.out] at hr19
                            rw [← hy19] at hr19 hcut19
                            clear hy19 hi019 hsz19 HO_6
                            have HO386 := Aside0.mk hr19
                            clear hr19
                            replace q19 := eq_true q19
                            have p387 : 0 ≤ ((rd x6_2 (ji9)) : Int) := of_decide_eq_true (by first | (with_reducible assumption) | assumption)
                            have q387 : (rd x6_2 (ji9)) < (l0.length : Int) := of_decide_eq_true (by first | (with_reducible assumption) | assumption)
                            obtain ⟨ad387, A387_5, c387_5, e387, hx387_0, hx387_1, hx387_2, hx387_3, hx387_4, hx387_5, hl387_5, hi387_5⟩ := at_T29 HR0.out (rd x6_2 (ji9)) p387 q387
                            (try rw [← Nbq15.out] at hx387_0)
                            cases e387
                            replace hx387_0 := (HB.out.cell (World.block_lt_of_cell? w _ hx387_0)).trans hx387_0
                            replace hx387_1 := (HB.out.cell (World.block_lt_of_cell? w _ hx387_1)).trans hx387_1
                            replace hx387_2 := (HB.out.cell (World.block_lt_of_cell? w _ hx387_2)).trans hx387_2
                            replace hx387_3 := (HB.out.cell (World.block_lt_of_cell? w _ hx387_3)).trans hx387_3
                            replace hx387_4 := (HB.out.cell (World.block_lt_of_cell? w _ hx387_4)).trans hx387_4
                            replace hx387_5 := (HB.out.cell (World.block_lt_of_cell? w _ hx387_5)).trans hx387_5
                            have HR387_5 := Aside0.mk hi387_5
                            have HC387_5 := Aside0.mk hl387_5
                            clear hi387_5 hl387_5
                            replace p387 := eq_true p387
                            replace q387 := eq_true q387
                            go_wp2_with (first | ((with_reducible refine gate_builtin (b := .append) (xs := #[.tmp 40, .tmp 42]) rfl ?_); (try (refine gate_guard (by rfl) ?_; dsimp only)); at_builtin; refine Kd.R_append (Kd.int .i64) (w0 := w) w.heap.size rfl (.tmp 40) (.tmp 42) 27 3 (.int .i64 0) 8 rfl Tryd.underlying27 info3 rfl (by decide) (by omega) u5 x5_2 (rd x6_2 (ji9)) [.int .i64 (rd x6_2 (ji9))] (fun k_ => some k_ ≠ (.slice (some ad383) y384.length co18 : Value).ownBlock) (fun _ => False) rfl rfl ?aP (fun _ hk => hk.elim) ?aF ?aO ?aB ?aS ?aL ?_; (case aP => exact rfl); (case aB => exact (by repeat (first | (with_reducible first | exact HB.out | apply below_alloc | apply pw_below_drewN | apply below_drew1) | exact HB.out))); (case aF => exact (fun k_ hk => Kd.fresh' (Kd.R_lt (by (with_reducible repeat (first | apply Kd.R_alloc | apply Kd.R_drewN | apply Kd.R_drew)); exact HO386.out)) k_ hk)); (case aO => exact (by (with_reducible repeat (first | apply Kd.R_alloc | apply Kd.R_drewN | apply Kd.R_drew)); exact HO_5.out)); (case aS => exact (below_size (by repeat (first | (with_reducible first | exact HB.out | apply below_alloc | apply pw_below_drewN | apply below_drew1) | exact HB.out)))); (case aL => have := LMc17.out; omega); intro v389 w20 ho hb hg hat; rw [← Ny388.out] at ho; have n0_ := Aside0.mk (Kd.R_after (ok := (fun _ => True)) (by (with_reducible repeat (first | apply Kd.R_alloc | apply Kd.R_drewN | apply Kd.R_drew)); exact Kd.R_mono HO386.out (fun _ hk => ⟨trivial, hk⟩)) hg hat); have n1_ := Aside0.mk (hb); have n2_ := Aside0.mk (ho); clear HO386; clear HB; clear HO_5; have HO386 := n0_; have HB := n1_; have HO390 := n2_; clear n0_ n1_ n2_; clear ho hb hg hat))
                            go_loopg [5, 8] k2 (fun kq v5 v8 w' => ∃ (x5_3 : List Int) (x8_3 : Int), v8 = .int .i64 x8_3 ∧ Aside0 (conclaveref04_Resolution.l1 kq l0 x5_3 y384 (rd x6_2 (ji9)) x8_3 = some r) ∧ Aside0 (kq ≤ k2) ∧ Aside0 (Kd.R (Kd.int .i64) 3 w' w.heap.size (fun k_ => some k_ ≠ ((.slice (some ad383) y384.length co18) : Value).ownBlock) v5 x5_3) ∧ Aside0 (Kd.R (Kd.int .i64) 3 w' w.heap.size (fun k_ => some k_ ≠ (v5 : Value).ownBlock) (.slice (some ad383) y384.length co18) y384) ∧ Aside0 (Below w.heap.size w w'))
                            case atStart => exact ⟨(y388), (0), (by first | rfl | (simp; done) | (simp [*]; done)), H', ⟨Nat.le_refl _⟩, ⟨by (with_reducible repeat (first | apply Kd.R_alloc | apply Kd.R_drewN | apply Kd.R_drew)); exact HO390.out⟩, ⟨by (with_reducible repeat (first | apply Kd.R_alloc | apply Kd.R_drewN | apply Kd.R_drew)); exact Kd.R_mono HO386.out (fun _ hk => hk.2)⟩, ⟨by repeat (first | (with_reducible first | exact HB.out | apply below_alloc | apply pw_below_drewN | apply below_drew1) | exact HB.out)⟩⟩
                            case round =>
                              clear H'
                              try clear c1
                              try clear q1
                              try clear p2
                              try clear c3
                              try clear p3
                              try clear q3
                              try clear hx3
                              try clear c4
                              try clear c4b0
                              try clear c5
                              try clear p6
                              try clear c8
                              try clear c8b0
                              try clear c8b1
                              try clear c10
                              try clear c10b0
                              try clear c11
                              try clear c11b0
                              try clear c12
                              try clear c12b0
                              try clear c12b1
                              try clear c13
                              try clear c13b0
                              try clear c14
                              try clear c14b0
                              try clear q15
                              try clear c16
                              try clear c17
                              try clear q19
                              try clear hx383_0
                              try clear hx387_0
                              try clear hx387_1
                              try clear hx387_2
                              try clear hx387_3
                              try clear hx387_4
                              try clear hx387_5
                              try clear p2
                              try clear p383
                              try clear p387
                              try clear q19
                              try clear q383
                              try clear q387
                              obtain ⟨x5_3, x8_3, rfl, HA, HK3, HO_5, HO_6, HB⟩ := hrel
                              cases gk with
                              | zero => exact absurd HA.out (by simp [conclaveref04_Resolution.l1])
                              | succ k3 =>
                                have H := HA.out
                                clear HA
                                simp only [conclaveref04_Resolution.l1] at H
                                by_cases c21 : 0 ≤ (rd x6_2 (ji9))
                                · rw [if_pos c21] at H
                                  have c21b0 : decide (0 ≤ (rd x6_2 (ji9))) = true := decide_eq_true c21
                                  clear c21
                                  by_cases c22 : (rd x6_2 (ji9)) < (l0.length : Int)
                                  · rw [if_pos c22] at H
                                    have c22b0 : decide ((rd x6_2 (ji9)) < (l0.length : Int)) = true := decide_eq_true c22
                                    clear c22
                                    by_cases c23 : x8_3 < (((rd_T29 l0 (rd x6_2 (ji9))).f5).length : Int)
                                    · rw [if_pos c23] at H
                                      have c23b0 : decide (x8_3 < (((rd_T29 l0 (rd x6_2 (ji9))).f5).length : Int)) = true := decide_eq_true c23
                                      clear c23
                                      by_cases c24 : 0 ≤ x8_3
                                      · rw [if_pos c24] at H
                                        have c24b0 : decide (0 ≤ x8_3) = true := decide_eq_true c24
                                        clear c24
                                        by_cases c25 : x5_3.length < 17592186044416
                                        · rw [if_pos c25] at H
                                          have LMc25 := Aside0.mk c25
                                          clear c25
                                          obtain ⟨y394, hy394⟩ : ∃ y_ : List Int, y_ = (x5_3 ++ [wrap64 (2 * (rd ((rd_T29 l0 (rd x6_2 (ji9))).f5) x8_3))]) := ⟨_, rfl⟩
                                          replace H : (conclaveref04_Resolution.l1 k3 l0 y394 y384 (rd x6_2 (ji9)) (wrap64 (x8_3 + 1))) = some r := by first | (rw [hy394]; with_reducible exact H) | (have H2_ := (Option.bind_some _ _).symm.trans H; rw [hy394]; with_reducible exact H2_) | (have H2_ := (Option.bind_some _ _).symm.trans H; with_reducible exact H2_) | with_reducible exact H | (rw [hy394]; exact H) | exact H
                                          have Ny394 := Aside0.mk hy394
                                          clear hy394
                                          have H' := Aside0.mk H
                                          clear H
                                          have p391 : 0 ≤ ((rd x6_2 (ji9)) : Int) := of_decide_eq_true (by first | (with_reducible assumption) | assumption)
                                          have q391 : (rd x6_2 (ji9)) < (l0.length : Int) := of_decide_eq_true (by first | (with_reducible assumption) | assumption)
                                          obtain ⟨ad391, A391_5, c391_5, e391, hx391_0, hx391_1, hx391_2, hx391_3, hx391_4, hx391_5, hl391_5, hi391_5⟩ := at_T29 HR0.out (rd x6_2 (ji9)) p391 q391
                                          (try rw [← Nbq15.out] at hx391_0)
                                          obtain rfl : ad387 = ad391 := (by injection e391)
                                          replace hx391_0 := (HB.out.cell (World.block_lt_of_cell? w _ hx391_0)).trans hx391_0
                                          replace hx391_1 := (HB.out.cell (World.block_lt_of_cell? w _ hx391_1)).trans hx391_1
                                          replace hx391_2 := (HB.out.cell (World.block_lt_of_cell? w _ hx391_2)).trans hx391_2
                                          replace hx391_3 := (HB.out.cell (World.block_lt_of_cell? w _ hx391_3)).trans hx391_3
                                          replace hx391_4 := (HB.out.cell (World.block_lt_of_cell? w _ hx391_4)).trans hx391_4
                                          replace hx391_5 := (HB.out.cell (World.block_lt_of_cell? w _ hx391_5)).trans hx391_5
                                          have HR391_5 := Aside0.mk hi391_5
                                          have HC391_5 := Aside0.mk hl391_5
                                          clear hi391_5 hl391_5
                                          replace p391 := eq_true p391
                                          replace q391 := eq_true q391
                                          have p392 : 0 ≤ ((rd x6_2 (ji9)) : Int) := of_decide_eq_true (by first | (with_reducible assumption) | assumption)
                                          have q392 : (rd x6_2 (ji9)) < (l0.length : Int) := of_decide_eq_true (by first | (with_reducible assumption) | assumption)
                                          obtain ⟨ad392, A392_5, c392_5, e392, hx392_0, hx392_1, hx392_2, hx392_3, hx392_4, hx392_5, hl392_5, hi392_5⟩ := at_T29 HR0.out (rd x6_2 (ji9)) p392 q392
                                          (try rw [← Nbq15.out] at hx392_0)
                                          obtain rfl : ad387 = ad392 := (by injection e392)
                                          replace hx392_0 := (HB.out.cell (World.block_lt_of_cell? w _ hx392_0)).trans hx392_0
                                          replace hx392_1 := (HB.out.cell (World.block_lt_of_cell? w _ hx392_1)).trans hx392_1
                                          replace hx392_2 := (HB.out.cell (World.block_lt_of_cell? w _ hx392_2)).trans hx392_2
                                          replace hx392_3 := (HB.out.cell (World.block_lt_of_cell? w _ hx392_3)).trans hx392_3
                                          replace hx392_4 := (HB.out.cell (World.block_lt_of_cell? w _ hx392_4)).trans hx392_4
                                          replace hx392_5 := (HB.out.cell (World.block_lt_of_cell? w _ hx392_5)).trans hx392_5
                                          have HR392_5 := Aside0.mk hi392_5
                                          have HC392_5 := Aside0.mk hl392_5
                                          clear hi392_5 hl392_5
                                          replace p392 := eq_true p392
                                          replace q392 := eq_true q392
                                          have ea_ := Option.some.inj (hx391_5.symm.trans hx392_5)
                                          injection ea_ with ea_ en_ ec_
                                          subst ea_
                                          subst ec_
                                          clear en_
                                          have p393 : 0 ≤ (x8_3 : Int) := of_decide_eq_true (by first | (with_reducible assumption) | assumption)
                                          have q393 : x8_3 < (((rd_T29 l0 (rd x6_2 (ji9))).f5).length : Int) := of_decide_eq_true (by first | (with_reducible assumption) | assumption)
                                          obtain ⟨ad393, e393, hx393_0⟩ := Kd.at_int HR392_5.out x8_3 p393 q393
                                          cases e393
                                          replace hx393_0 := (HB.out.cell (World.block_lt_of_cell? w _ hx393_0)).trans hx393_0
                                          replace p393 := eq_true p393
                                          replace q393 := eq_true q393
                                          go_wp2_with (first | ((with_reducible refine gate_builtin (b := .append) (xs := #[.tmp 54, .tmp 64]) rfl ?_); (try (refine gate_guard (by rfl) ?_; dsimp only)); at_builtin; refine Kd.R_append (Kd.int .i64) (w0 := w) w.heap.size rfl (.tmp 54) (.tmp 64) 27 3 (.int .i64 0) 8 rfl Tryd.underlying27 info3 rfl (by decide) (by omega) u5 x5_3 (wrap64 (2 * (rd ((rd_T29 l0 (rd x6_2 (ji9))).f5) x8_3))) [.int .i64 (wrap64 (2 * (rd ((rd_T29 l0 (rd x6_2 (ji9))).f5) x8_3)))] (fun k_ => some k_ ≠ (.slice (some ad383) y384.length co18 : Value).ownBlock) (fun _ => False) rfl rfl ?aP (fun _ hk => hk.elim) ?aF ?aO ?aB ?aS ?aL ?_; (case aP => exact rfl); (case aB => exact (by repeat (first | (with_reducible first | exact HB.out | apply below_alloc | apply pw_below_drewN | apply below_drew1) | exact HB.out))); (case aF => exact (fun k_ hk => Kd.fresh' (Kd.R_lt (by (with_reducible repeat (first | apply Kd.R_alloc | apply Kd.R_drewN | apply Kd.R_drew)); exact HO_6.out)) k_ hk)); (case aO => exact (by (with_reducible repeat (first | apply Kd.R_alloc | apply Kd.R_drewN | apply Kd.R_drew)); exact HO_5.out)); (case aS => exact (below_size (by repeat (first | (with_reducible first | exact HB.out | apply below_alloc | apply pw_below_drewN | apply below_drew1) | exact HB.out)))); (case aL => have := LMc25.out; omega); intro v395 w26 ho hb hg hat; rw [← Ny394.out] at ho; have n0_ := Aside0.mk (Kd.R_after (ok := (fun _ => True)) (by (with_reducible repeat (first | apply Kd.R_alloc | apply Kd.R_drewN | apply Kd.R_drew)); exact Kd.R_mono HO_6.out (fun _ hk => ⟨trivial, hk⟩)) hg hat); have n1_ := Aside0.mk (hb); have n2_ := Aside0.mk (ho); clear HO_6; clear HB; clear HO_5; have HO_6 := n0_; have HB := n1_; have HO396 := n2_; clear n0_ n1_ n2_; clear ho hb hg hat))
                                          go_roundg k3
                                          case measure => have := HJ2.out; have := HK2.out; have := HK3.out; omega
                                          case rel => exact ⟨(y394), (wrap64 (x8_3 + 1)), (by first | rfl | (simp; done) | (simp [*]; done)), H', ⟨by have := HJ2.out; have := HK2.out; have := HK3.out; omega⟩, ⟨by (with_reducible repeat (first | apply Kd.R_alloc | apply Kd.R_drewN | apply Kd.R_drew)); exact HO396.out⟩, ⟨by (with_reducible repeat (first | apply Kd.R_alloc | apply Kd.R_drewN | apply Kd.R_drew)); exact Kd.R_mono HO_6.out (fun _ hk => hk.2)⟩, ⟨by repeat (first | (with_reducible first | exact HB.out | apply below_alloc | apply pw_below_drewN | apply below_drew1) | exact HB.out)⟩⟩
                                        · rw [if_neg c25] at H
                                          exact absurd H (by simp)
                                      · rw [if_neg c24] at H
                                        exact absurd H (by simp)
                                    · rw [if_neg c23] at H
                                      have c23b0 : decide (x8_3 < (((rd_T29 l0 (rd x6_2 (ji9))).f5).length : Int)) = false := decide_eq_false c23
                                      clear c23
                                      have H' := Aside0.mk H
                                      clear H
                                      have p391 : 0 ≤ ((rd x6_2 (ji9)) : Int) := of_decide_eq_true (by first | (with_reducible assumption) | assumption)
                                      have q391 : (rd x6_2 (ji9)) < (l0.length : Int) := of_decide_eq_true (by first | (with_reducible assumption) | assumption)
                                      obtain ⟨ad391, A391_5, c391_5, e391, hx391_0, hx391_1, hx391_2, hx391_3, hx391_4, hx391_5, hl391_5, hi391_5⟩ := at_T29 HR0.out (rd x6_2 (ji9)) p391 q391
                                      (try rw [← Nbq15.out] at hx391_0)
                                      obtain rfl : ad387 = ad391 := (by injection e391)
                                      replace hx391_0 := (HB.out.cell (World.block_lt_of_cell? w _ hx391_0)).trans hx391_0
                                      replace hx391_1 := (HB.out.cell (World.block_lt_of_cell? w _ hx391_1)).trans hx391_1
                                      replace hx391_2 := (HB.out.cell (World.block_lt_of_cell? w _ hx391_2)).trans hx391_2
                                      replace hx391_3 := (HB.out.cell (World.block_lt_of_cell? w _ hx391_3)).trans hx391_3
                                      replace hx391_4 := (HB.out.cell (World.block_lt_of_cell? w _ hx391_4)).trans hx391_4
                                      replace hx391_5 := (HB.out.cell (World.block_lt_of_cell? w _ hx391_5)).trans hx391_5
                                      have HR391_5 := Aside0.mk hi391_5
                                      have HC391_5 := Aside0.mk hl391_5
                                      clear hi391_5 hl391_5
                                      replace p391 := eq_true p391
                                      replace q391 := eq_true q391
                                      go_wp2
                                      go_roundg k3
                                      case measure => have := HJ2.out; have := HK2.out; have := HK3.out; omega
                                      case rel => exact ⟨(x5_3), (y384), H', ⟨by have := HJ2.out; have := HK2.out; have := HK3.out; omega⟩, ⟨by (with_reducible repeat (first | apply Kd.R_alloc | apply Kd.R_drewN | apply Kd.R_drew)); exact HO_5.out⟩, ⟨by (with_reducible repeat (first | apply Kd.R_alloc | apply Kd.R_drewN | apply Kd.R_drew)); exact HO_6.out⟩, ⟨by repeat (first | (with_reducible first | exact HB.out | apply below_alloc | apply pw_below_drewN | apply below_drew1) | exact HB.out)⟩⟩
                                  · rw [if_neg c22] at H
                                    exact absurd H (by simp)
                                · rw [if_neg c21] at H
                                  exact absurd H (by simp)
                          · rw [if_neg c17] at H
                            exact absurd H (by simp)
                        · replace c16 := Bool.eq_false_iff.mpr c16
                          subst c16
                          have H1 : ((conclaveref03_Width.f k2 (rd x6_2 (ji9))).bind fun t397 => (if (wrap64 (Int.tdiv (wrap64 (t397 + 1)) 2)) > 0 then (if y384.length < 17592186044416 then ((some (y384 ++ [wrap64 ((rd x6_2 (ji9)) + (wrap64 (Int.tdiv (wrap64 (t397 + 1)) 2)))] : List Int)).bind fun y398 => (if y398.length < 17592186044416 then (conclaveref04_Resolution.l0 k2 l0 x5_2 (y398 ++ [wrap64 ((rd x6_2 (ji9)) - (wrap64 (Int.tdiv (wrap64 (t397 + 1)) 2)))])) else (none))) else (none)) else (conclaveref04_Resolution.l0 k2 l0 x5_2 y384))) = some r := by rw [if_neg (show ¬ (false = true) by decide)] at H; exact H
                          clear H
                          have H := H1
                          clear H1
                          replace H := Option.bind_eq_some_iff.mp H
                          obtain ⟨t397, A270, H⟩ := H
                          replace H : (if (wrap64 (Int.tdiv (wrap64 (t397 + 1)) 2)) > 0 then (if y384.length < 17592186044416 then ((some (y384 ++ [wrap64 ((rd x6_2 (ji9)) + (wrap64 (Int.tdiv (wrap64 (t397 + 1)) 2)))] : List Int)).bind fun y398 => (if y398.length < 17592186044416 then (conclaveref04_Resolution.l0 k2 l0 x5_2 (y398 ++ [wrap64 ((rd x6_2 (ji9)) - (wrap64 (Int.tdiv (wrap64 (t397 + 1)) 2)))])) else (none))) else (none)) else (conclaveref04_Resolution.l0 k2 l0 x5_2 y384)) = some r := H
                          have A27 := Aside0.mk A270
                          clear A270
                          by_cases c28 : (wrap64 (Int.tdiv (wrap64 (t397 + 1)) 2)) > 0
                          · rw [if_pos c28] at H
                            have c28b0 : decide (0 < (wrap64 (Int.tdiv (wrap64 (t397 + 1)) 2))) = true := decide_eq_true c28
                            clear c28
                            by_cases c29 : y384.length < 17592186044416
                            · rw [if_pos c29] at H
                              have LMc29 := Aside0.mk c29
                              clear c29
                              obtain ⟨y398, hy398⟩ : ∃ y_ : List Int, y_ = (y384 ++ [wrap64 ((rd x6_2 (ji9)) + (wrap64 (Int.tdiv (wrap64 (t397 + 1)) 2)))]) := ⟨_, rfl⟩
                              replace H : (if y398.length < 17592186044416 then (conclaveref04_Resolution.l0 k2 l0 x5_2 (y398 ++ [wrap64 ((rd x6_2 (ji9)) - (wrap64 (Int.tdiv (wrap64 (t397 + 1)) 2)))])) else (none)) = some r := by first | (rw [hy398]; with_reducible exact H) | (have H2_ := (Option.bind_some _ _).symm.trans H; rw [hy398]; with_reducible exact H2_) | (have H2_ := (Option.bind_some _ _).symm.trans H; with_reducible exact H2_) | with_reducible exact H | (rw [hy398]; exact H) | exact H
                              have Ny398 := Aside0.mk hy398
                              clear hy398
                              by_cases c30 : y398.length < 17592186044416
                              · rw [if_pos c30] at H
                                have LMc30 := Aside0.mk c30
                                clear c30
                                obtain ⟨y401, hy401⟩ : ∃ y_ : List Int, y_ = (y398 ++ [wrap64 ((rd x6_2 (ji9)) - (wrap64 (Int.tdiv (wrap64 (t397 + 1)) 2)))]) := ⟨_, rfl⟩
                                replace H : (conclaveref04_Resolution.l0 k2 l0 x5_2 y401) = some r := by first | (rw [hy401]; with_reducible exact H) | (have H2_ := (Option.bind_some _ _).symm.trans H; rw [hy401]; with_reducible exact H2_) | (have H2_ := (Option.bind_some _ _).symm.trans H; with_reducible exact H2_) | with_reducible exact H | (rw [hy401]; exact H) | exact H
                                have Ny401 := Aside0.mk hy401
                                clear hy401
                                have H' := Aside0.mk H
                                clear H
                                obtain ⟨Ao31, co31, eo31⟩ := Kd.R_slice HO_6.out
                                subst eo31
                                have p383 : 0 ≤ ((ji9) : Int) := of_decide_eq_true (by first | (with_reducible assumption) | assumption)
                                have q383 : (ji9) < (x6_2.length : Int) := of_decide_eq_true (by first | (with_reducible assumption) | assumption)
                                obtain ⟨ad383, e383, hx383_0⟩ := Kd.at_int (Kd.R_reads' HO_6.out).2.2 (ji9) p383 q383
                                cases e383
                                replace p383 := eq_true p383
                                replace q383 := eq_true q383
                                have q32 : ((ji9) : Int) ≤ ((x6_2.length : Int) : Int) := of_decide_eq_true (by first | (with_reducible assumption) | assumption)
                                obtain ⟨i032, hi032, _, hsz32, _⟩ := info_parts info3
                                have hcut32 := cut_to (P := Tryd.prog) 27 3 .i64 Tryd.underlying27 hi032 (some ad383) x6_2.length co31 (ji9) (of_decide_eq_true (by first | (with_reducible assumption) | assumption)) q32 (Kd.R_reads' HO_6.out).2.1
                                have hr32 := Kd.R_take (m := ((ji9) : Int).toNat) HO_6.out (by omega)
                                have hy32 : y384.length = ((ji9) : Int).toNat := (by rw [Ny384.out, List.length_take]; omega)
                                rw [← Ny384.out] at hr32
                                rw [← hy32] at hr32 hcut32
                                clear hy32 hi032 hsz32 HO_6
                                have HO386 := Aside0.mk hr32
                                clear hr32
                                replace q32 := eq_true q32
                                have p387 : 0 ≤ ((rd x6_2 (ji9)) : Int) := of_decide_eq_true (by first | (with_reducible assumption) | assumption)
                                have q387 : (rd x6_2 (ji9)) < (l0.length : Int) := of_decide_eq_true (by first | (with_reducible assumption) | assumption)
                                obtain ⟨ad387, A387_5, c387_5, e387, hx387_0, hx387_1, hx387_2, hx387_3, hx387_4, hx387_5, hl387_5, hi387_5⟩ := at_T29 HR0.out (rd x6_2 (ji9)) p387 q387
                                (try rw [← Nbq15.out] at hx387_0)
                                cases e387
                                replace hx387_0 := (HB.out.cell (World.block_lt_of_cell? w _ hx387_0)).trans hx387_0
                                replace hx387_1 := (HB.out.cell (World.block_lt_of_cell? w _ hx387_1)).trans hx387_1
                                replace hx387_2 := (HB.out.cell (World.block_lt_of_cell? w _ hx387_2)).trans hx387_2
                                replace hx387_3 := (HB.out.cell (World.block_lt_of_cell? w _ hx387_3)).trans hx387_3
                                replace hx387_4 := (HB.out.cell (World.block_lt_of_cell? w _ hx387_4)).trans hx387_4
                                replace hx387_5 := (HB.out.cell (World.block_lt_of_cell? w _ hx387_5)).trans hx387_5
                                have HR387_5 := Aside0.mk hi387_5
                                have HC387_5 := Aside0.mk hl387_5
                                clear hi387_5 hl387_5
                                replace p387 := eq_true p387
                                replace q387 := eq_true q387
                                go_wp2_with (first | ((with_reducible refine gate_callee (f := 59) rfl ?_); refine goesL_ (some 67) rfl rfl Tryd.func59 (by kernel_rfl) rfl #[.int .i64 (rd x6_2 (ji9))] rfl (by (try simp only [List.map_toArray, List.map_cons, List.map_nil]); first | done | (simp only [hji9]; rfl) | rfl | (simp only [List.length_drop, List.length_take]; rfl)) ?_; (with_reducible refine (conclaveref03_Width.calls k2 (rd x6_2 (ji9)) t397 _ A27.out).mono ?_); rintro e w' ⟨rfl, ⟨nd, rfl⟩⟩; refine ⟨_, rfl, ?_⟩) | ((with_reducible refine gate_builtin (b := .append) (xs := #[.tmp 72, .tmp 76]) rfl ?_); (try (refine gate_guard (by rfl) ?_; dsimp only)); at_builtin; refine Kd.R_append (Kd.int .i64) (w0 := w) w.heap.size rfl (.tmp 72) (.tmp 76) 27 3 (.int .i64 0) 8 rfl Tryd.underlying27 info3 rfl (by decide) (by omega) (.slice (some ad383) y384.length co31) y384 (wrap64 ((rd x6_2 (ji9)) + (wrap64 (Int.tdiv (wrap64 (t397 + 1)) 2)))) [.int .i64 (wrap64 ((rd x6_2 (ji9)) + (wrap64 (Int.tdiv (wrap64 (t397 + 1)) 2))))] (fun k_ => some k_ ≠ (u5 : Value).ownBlock) (fun _ => False) rfl rfl ?aP (fun _ hk => hk.elim) ?aF ?aO ?aB ?aS ?aL ?_; (case aP => exact rfl); (case aB => exact (by repeat (first | (with_reducible first | exact HB.out | apply below_alloc | apply pw_below_drewN | apply below_drew1) | exact HB.out))); (case aF => exact (fun k_ hk => Kd.fresh' (Kd.R_lt (by (with_reducible repeat (first | apply Kd.R_alloc | apply Kd.R_drewN | apply Kd.R_drew)); exact HO_5.out)) k_ hk)); (case aO => exact (by (with_reducible repeat (first | apply Kd.R_alloc | apply Kd.R_drewN | apply Kd.R_drew)); exact HO386.out)); (case aS => exact (below_size (by repeat (first | (with_reducible first | exact HB.out | apply below_alloc | apply pw_below_drewN | apply below_drew1) | exact HB.out)))); (case aL => have := LMc29.out; omega); intro v399 w33 ho hb hg hat; rw [← Ny398.out] at ho; have n0_ := Aside0.mk (Kd.R_after (ok := (fun _ => True)) (by (with_reducible repeat (first | apply Kd.R_alloc | apply Kd.R_drewN | apply Kd.R_drew)); exact Kd.R_mono HO_5.out (fun _ hk => ⟨trivial, hk⟩)) hg hat); have n1_ := Aside0.mk (hb); have n2_ := Aside0.mk (ho); clear HO_5; clear HB; clear HO386; have HO_5 := n0_; have HB := n1_; have HO400 := n2_; clear n0_ n1_ n2_; clear ho hb hg hat) | ((with_reducible refine gate_builtin (b := .append) (xs := #[.tmp 78, .tmp 82]) rfl ?_); (try (refine gate_guard (by rfl) ?_; dsimp only)); at_builtin; refine Kd.R_append (Kd.int .i64) (w0 := w) w.heap.size rfl (.tmp 78) (.tmp 82) 27 3 (.int .i64 0) 8 rfl Tryd.underlying27 info3 rfl (by decide) (by omega) v399 y398 (wrap64 ((rd x6_2 (ji9)) - (wrap64 (Int.tdiv (wrap64 (t397 + 1)) 2)))) [.int .i64 (wrap64 ((rd x6_2 (ji9)) - (wrap64 (Int.tdiv (wrap64 (t397 + 1)) 2))))] (fun k_ => some k_ ≠ (u5 : Value).ownBlock) (fun _ => False) rfl rfl ?aP (fun _ hk => hk.elim) ?aF ?aO ?aB ?aS ?aL ?_; (case aP => exact rfl); (case aB => exact (by repeat (first | (with_reducible first | exact HB.out | apply below_alloc | apply pw_below_drewN | apply below_drew1) | exact HB.out))); (case aF => exact (fun k_ hk => Kd.fresh' (Kd.R_lt (by (with_reducible repeat (first | apply Kd.R_alloc | apply Kd.R_drewN | apply Kd.R_drew)); exact HO_5.out)) k_ hk)); (case aO => exact (by (with_reducible repeat (first | apply Kd.R_alloc | apply Kd.R_drewN | apply Kd.R_drew)); exact HO400.out)); (case aS => exact (below_size (by repeat (first | (with_reducible first | exact HB.out | apply below_alloc | apply pw_below_drewN | apply below_drew1) | exact HB.out)))); (case aL => have := LMc30.out; omega); intro v402 w34 ho hb hg hat; rw [← Ny401.out] at ho; have n0_ := Aside0.mk (Kd.R_after (ok := (fun _ => True)) (by (with_reducible repeat (first | apply Kd.R_alloc | apply Kd.R_drewN | apply Kd.R_drew)); exact HO_5.out) hg hat); have n1_ := Aside0.mk (hb); have n2_ := Aside0.mk (ho); clear HO_5; clear HB; clear HO400; have HO_5 := n0_; have HB := n1_; have HO403 := n2_; clear n0_ n1_ n2_; clear ho hb hg hat))
                                go_roundg k2
                                case measure => have := HJ2.out; have := HK2.out; omega
                                case rel => exact ⟨(x5_2), (y401), H', ⟨by have := HJ2.out; have := HK2.out; omega⟩, ⟨by (with_reducible repeat (first | apply Kd.R_alloc | apply Kd.R_drewN | apply Kd.R_drew)); exact Kd.R_mono HO_5.out (fun _ hk => hk.2)⟩, ⟨by (with_reducible repeat (first | apply Kd.R_alloc | apply Kd.R_drewN | apply Kd.R_drew)); exact HO403.out⟩, ⟨by repeat (first | (with_reducible first | exact HB.out | apply below_alloc | apply pw_below_drewN | apply below_drew1) | exact HB.out)⟩⟩
                              · rw [if_neg c30] at H
                                exact absurd H (by simp)
                            · rw [if_neg c29] at H
                              exact absurd H (by simp)
                          · rw [if_neg c28] at H
                            have c28b0 : decide (0 < (wrap64 (Int.tdiv (wrap64 (t397 + 1)) 2))) = false := decide_eq_false c28
                            clear c28
                            have H' := Aside0.mk H
                            clear H
                            obtain ⟨Ao35, co35, eo35⟩ := Kd.R_slice HO_6.out
                            subst eo35
                            have p383 : 0 ≤ ((ji9) : Int) := of_decide_eq_true (by first | (with_reducible assumption) | assumption)
                            have q383 : (ji9) < (x6_2.length : Int) := of_decide_eq_true (by first | (with_reducible assumption) | assumption)
                            obtain ⟨ad383, e383, hx383_0⟩ := Kd.at_int (Kd.R_reads' HO_6.out).2.2 (ji9) p383 q383
                            cases e383
                            replace p383 := eq_true p383
                            replace q383 := eq_true q383
                            have q36 : ((ji9) : Int) ≤ ((x6_2.length : Int) : Int) := of_decide_eq_true (by first | (with_reducible assumption) | assumption)
                            obtain ⟨i036, hi036, _, hsz36, _⟩ := info_parts info3
                            have hcut36 := cut_to (P := Tryd.prog) 27 3 .i64 Tryd.underlying27 hi036 (some ad383) x6_2.length co35 (ji9) (of_decide_eq_true (by first | (with_reducible assumption) | assumption)) q36 (Kd.R_reads' HO_6.out).2.1
                            have hr36 := Kd.R_take (m := ((ji9) : Int).toNat) HO_6.out (by omega)
                            have hy36 : y384.length = ((ji9) : Int).toNat := (by rw [Ny384.out, List.length_take]; omega)
                            rw [← Ny384.out] at hr36
                            rw [← hy36] at hr36 hcut36
                            clear hy36 hi036 hsz36 HO_6
                            have HO386 := Aside0.mk hr36
                            clear hr36
                            replace q36 := eq_true q36
                            have p387 : 0 ≤ ((rd x6_2 (ji9)) : Int) := of_decide_eq_true (by first | (with_reducible assumption) | assumption)
                            have q387 : (rd x6_2 (ji9)) < (l0.length : Int) := of_decide_eq_true (by first | (with_reducible assumption) | assumption)
                            obtain ⟨ad387, A387_5, c387_5, e387, hx387_0, hx387_1, hx387_2, hx387_3, hx387_4, hx387_5, hl387_5, hi387_5⟩ := at_T29 HR0.out (rd x6_2 (ji9)) p387 q387
                            (try rw [← Nbq15.out] at hx387_0)
                            cases e387
                            replace hx387_0 := (HB.out.cell (World.block_lt_of_cell? w _ hx387_0)).trans hx387_0
                            replace hx387_1 := (HB.out.cell (World.block_lt_of_cell? w _ hx387_1)).trans hx387_1
                            replace hx387_2 := (HB.out.cell (World.block_lt_of_cell? w _ hx387_2)).trans hx387_2
                            replace hx387_3 := (HB.out.cell (World.block_lt_of_cell? w _ hx387_3)).trans hx387_3
                            replace hx387_4 := (HB.out.cell (World.block_lt_of_cell? w _ hx387_4)).trans hx387_4
                            replace hx387_5 := (HB.out.cell (World.block_lt_of_cell? w _ hx387_5)).trans hx387_5
                            have HR387_5 := Aside0.mk hi387_5
                            have HC387_5 := Aside0.mk hl387_5
                            clear hi387_5 hl387_5
                            replace p387 := eq_true p387
                            replace q387 := eq_true q387
                            go_wp2_with (first | ((with_reducible refine gate_callee (f := 59) rfl ?_); refine goesL_ (some 67) rfl rfl Tryd.func59 (by kernel_rfl) rfl #[.int .i64 (rd x6_2 (ji9))] rfl (by (try simp only [List.map_toArray, List.map_cons, List.map_nil]); first | done | (simp only [hji9]; rfl) | rfl | (simp only [List.length_drop, List.length_take]; rfl)) ?_; (with_reducible refine (conclaveref03_Width.calls k2 (rd x6_2 (ji9)) t397 _ A27.out).mono ?_); rintro e w' ⟨rfl, ⟨nd, rfl⟩⟩; refine ⟨_, rfl, ?_⟩))
                            go_roundg k2
                            case measure => have := HJ2.out; have := HK2.out; omega
                            case rel => exact ⟨(x5_2), (y384), H', ⟨by have := HJ2.out; have := HK2.out; omega⟩, ⟨by (with_reducible repeat (first | apply Kd.R_alloc | apply Kd.R_drewN | apply Kd.R_drew)); exact HO_5.out⟩, ⟨by (with_reducible repeat (first | apply Kd.R_alloc | apply Kd.R_drewN | apply Kd.R_drew)); exact HO386.out⟩, ⟨by repeat (first | (with_reducible first | exact HB.out | apply below_alloc | apply pw_below_drewN | apply below_drew1) | exact HB.out)⟩⟩
                      · rw [if_neg c14] at H
                        exact absurd H (by simp)
                    · rw [if_neg c13] at H
                      exact absurd H (by simp)
                  · rw [if_neg c12] at H
                    exact absurd H (by simp)
                · rw [if_neg c11] at H
                  exact absurd H (by simp)
              · rw [if_neg c10] at H
                exact absurd H (by simp)
            · rw [if_neg c8] at H
              have c8b0 : decide (0 < (x6_2.length : Int)) = false := decide_eq_false c8
              have c8b1 : decide (0 < x6_2.length) = false := decide_eq_false (by omega)
              clear c8
              obtain rfl := Option.some.inj H
              obtain ⟨Ao37, co37, eo37⟩ := Kd.R_slice HO_6.out
              subst eo37
              go_wp2
              go_ret
              exact ⟨_, by first | rfl | (simp [errW_none, errW_some] <;> rfl) | (simp [*, errW_none, errW_some] <;> rfl), by (with_reducible repeat (first | apply Kd.R_alloc | apply Kd.R_drewN | apply Kd.R_drew)); exact Kd.R_mono HO_5.out (fun _ hk => trivial), by repeat (first | (with_reducible first | exact HB.out | apply below_alloc | apply pw_below_drewN | apply below_drew1) | exact HB.out)⟩
end Go.Proofs.YtbblomnhobodkaaDoor.PTw
