-- Written by a program of this session over the translation.
import Derived.Test.YtmioejkhhcjfpaaDoorPHex0
import Derived.Test.YtmioejkhhcjfpaaDoorPHex1
import Derived.Test.YtmioejkhhcjfpaaDoorPHex2
import Derived.Test.YtmioejkhhcjfpaaDoorPHex6
namespace Go.Proofs.YtmioejkhhcjfpaaDoor.PHe
open Go.RowKit Go.Proofs.YtmioejkhhcjfpaaDoorW.PrintWords Go.Proofs.YtmioejkhhcjfpaaDoorW.PrintLast Go.Proofs.YtmioejkhhcjfpaaDoorW.PrintMore
attribute [local go_sem] max2_int min2_int max_two min_two max_three min_three max_four min_four   -- for this text's walks alone
set_option linter.unusedVariables false
set_option linter.unusedSimpArgs false

/-! ### conclavelaw03_HeapCommonLow: function 8 -/
mutual
def conclavelaw03_HeapCommonLow.j0 : Nat → Int → Int → Int → Bool → Option (Bool)
  | 0, _, _, _, _ => none
  | k + 1, x0, x1, x2, x35 => if x35 = true then (some true) else ((heap_Common.f k x0 x1 x2).bind fun bt255 => ((heap_Common.f k x1 x0 x2).bind fun bt257 => (if bt255.2 = 0 then (if bt257.2 = 0 then (conclavelaw03_HeapCommonLow.j1 k x0 x1 x2 bt255.1 (bt255.1 != bt257.1)) else (conclavelaw03_HeapCommonLow.j1 k x0 x1 x2 bt255.1 true)) else (conclavelaw03_HeapCommonLow.j1 k x0 x1 x2 bt255.1 true))))
def conclavelaw03_HeapCommonLow.j1 : Nat → Int → Int → Int → Int → Bool → Option (Bool)
  | 0, _, _, _, _, _ => none
  | k + 1, x0, x1, x2, x7, x60 => if x60 = true then (some false) else (conclavelaw03_HeapCommonLow.l0 k x0 x1 x2 x7 0)
def conclavelaw03_HeapCommonLow.l0 : Nat → Int → Int → Int → Int → Int → Option (Bool)
  | 0, _, _, _, _, _ => none
  | k + 1, x0, x1, x2, x7, x11 => if x11 < (wrap64 ((wrap64 (2 * x2)) - 1)) then ((heap_Under.f k (wrap64 (2 * x0)) x11 x2).bind fun t259 => (if t259 = true then ((heap_Under.f k (wrap64 (2 * x1)) x11 x2).bind fun t260 => (conclavelaw03_HeapCommonLow.j3 k x0 x1 x2 x7 x11 t260)) else (conclavelaw03_HeapCommonLow.j3 k x0 x1 x2 x7 x11 false))) else (some true)
def conclavelaw03_HeapCommonLow.j3 : Nat → Int → Int → Int → Int → Int → Bool → Option (Bool)
  | 0, _, _, _, _, _, _ => none
  | k + 1, x0, x1, x2, x7, x11, x12 => if x12 = true then ((heap_Level.f x11).bind fun t261 => ((heap_Level.f x7).bind fun t262 => (if t261 < t262 then (some false) else (if x11 = x7 then (conclavelaw03_HeapCommonLow.l0 k x0 x1 x2 x7 (wrap64 (x11 + 1))) else (conclavelaw03_HeapCommonLow.l0 k x0 x1 x2 x7 (wrap64 (x11 + 1))))))) else (if x11 = x7 then (some false) else (conclavelaw03_HeapCommonLow.l0 k x0 x1 x2 x7 (wrap64 (x11 + 1))))
end
def conclavelaw03_HeapCommonLow.f (k : Nat) (a0 : Int) (a1 : Int) (a2 : Int) : Option (Bool) := (conclavelaw03_anchor.f k).bind fun t253 => (if t253 = true then ((conclaveref03_Right.f a2).bind fun t254 => (if t254 = true then (if a0 < 0 then (conclavelaw03_HeapCommonLow.j0 k a0 a1 a2 true) else (if a1 < 0 then (conclavelaw03_HeapCommonLow.j0 k a0 a1 a2 true) else (if a0 ≥ a2 then (conclavelaw03_HeapCommonLow.j0 k a0 a1 a2 true) else (conclavelaw03_HeapCommonLow.j0 k a0 a1 a2 (decide (a1 ≥ a2)))))) else (conclavelaw03_HeapCommonLow.j0 k a0 a1 a2 true))) else (some false))
theorem conclavelaw03_HeapCommonLow.mono_l : ∀ k, (∀ y0 y1 y2 y3, LeO (conclavelaw03_HeapCommonLow.j0 k y0 y1 y2 y3) (conclavelaw03_HeapCommonLow.j0 (k + 1) y0 y1 y2 y3)) ∧ (∀ y0 y1 y2 y3 y4, LeO (conclavelaw03_HeapCommonLow.j1 k y0 y1 y2 y3 y4) (conclavelaw03_HeapCommonLow.j1 (k + 1) y0 y1 y2 y3 y4)) ∧ (∀ y0 y1 y2 y3 y4, LeO (conclavelaw03_HeapCommonLow.l0 k y0 y1 y2 y3 y4) (conclavelaw03_HeapCommonLow.l0 (k + 1) y0 y1 y2 y3 y4)) ∧ (∀ y0 y1 y2 y3 y4 y5, LeO (conclavelaw03_HeapCommonLow.j3 k y0 y1 y2 y3 y4 y5) (conclavelaw03_HeapCommonLow.j3 (k + 1) y0 y1 y2 y3 y4 y5))
  | 0 => ⟨fun _ _ _ _ r h => by simp [conclavelaw03_HeapCommonLow.j0] at h, fun _ _ _ _ _ r h => by simp [conclavelaw03_HeapCommonLow.j1] at h, fun _ _ _ _ _ r h => by simp [conclavelaw03_HeapCommonLow.l0] at h, fun _ _ _ _ _ _ r h => by simp [conclavelaw03_HeapCommonLow.j3] at h⟩
  | k + 1 => by
    obtain ⟨ih0, ih1, ih2, ih3⟩ := conclavelaw03_HeapCommonLow.mono_l k
    refine ⟨?_, ?_, ?_, ?_⟩
    · intro y0 y1 y2 y3
      unfold conclavelaw03_HeapCommonLow.j0
      repeat' first
      | (with_reducible exact ih0 _ _ _ _)
      | (with_reducible exact ih1 _ _ _ _ _)
      | (with_reducible exact ih2 _ _ _ _ _)
      | (with_reducible exact ih3 _ _ _ _ _ _)
      | (with_reducible exact conclavelaw03_anchor.mono _)
      | (with_reducible exact heap_Common.mono _ _ _ _)
      | (with_reducible exact heap_Under.mono _ _ _ _)
      | (with_reducible exact LeO.refl _)
      | (with_reducible exact LeO.none _)
      | (with_reducible refine LeO.ite ?_ ?_)
      | (with_reducible refine LeO.bind ?_ (fun _ => ?_))
      | exact ih0 _ _ _ _
      | exact ih1 _ _ _ _ _
      | exact ih2 _ _ _ _ _
      | exact ih3 _ _ _ _ _ _
      | exact conclavelaw03_anchor.mono _
      | exact heap_Common.mono _ _ _ _
      | exact heap_Under.mono _ _ _ _
      | exact LeO.none _
      | refine LeO.ite ?_ ?_
      | refine LeO.bind ?_ (fun _ => ?_)
    · intro y0 y1 y2 y3 y4
      unfold conclavelaw03_HeapCommonLow.j1
      repeat' first
      | (with_reducible exact ih0 _ _ _ _)
      | (with_reducible exact ih1 _ _ _ _ _)
      | (with_reducible exact ih2 _ _ _ _ _)
      | (with_reducible exact ih3 _ _ _ _ _ _)
      | (with_reducible exact conclavelaw03_anchor.mono _)
      | (with_reducible exact heap_Common.mono _ _ _ _)
      | (with_reducible exact heap_Under.mono _ _ _ _)
      | (with_reducible exact LeO.refl _)
      | (with_reducible exact LeO.none _)
      | (with_reducible refine LeO.ite ?_ ?_)
      | (with_reducible refine LeO.bind ?_ (fun _ => ?_))
      | exact ih0 _ _ _ _
      | exact ih1 _ _ _ _ _
      | exact ih2 _ _ _ _ _
      | exact ih3 _ _ _ _ _ _
      | exact conclavelaw03_anchor.mono _
      | exact heap_Common.mono _ _ _ _
      | exact heap_Under.mono _ _ _ _
      | exact LeO.none _
      | refine LeO.ite ?_ ?_
      | refine LeO.bind ?_ (fun _ => ?_)
    · intro y0 y1 y2 y3 y4
      unfold conclavelaw03_HeapCommonLow.l0
      repeat' first
      | (with_reducible exact ih0 _ _ _ _)
      | (with_reducible exact ih1 _ _ _ _ _)
      | (with_reducible exact ih2 _ _ _ _ _)
      | (with_reducible exact ih3 _ _ _ _ _ _)
      | (with_reducible exact conclavelaw03_anchor.mono _)
      | (with_reducible exact heap_Common.mono _ _ _ _)
      | (with_reducible exact heap_Under.mono _ _ _ _)
      | (with_reducible exact LeO.refl _)
      | (with_reducible exact LeO.none _)
      | (with_reducible refine LeO.ite ?_ ?_)
      | (with_reducible refine LeO.bind ?_ (fun _ => ?_))
      | exact ih0 _ _ _ _
      | exact ih1 _ _ _ _ _
      | exact ih2 _ _ _ _ _
      | exact ih3 _ _ _ _ _ _
      | exact conclavelaw03_anchor.mono _
      | exact heap_Common.mono _ _ _ _
      | exact heap_Under.mono _ _ _ _
      | exact LeO.none _
      | refine LeO.ite ?_ ?_
      | refine LeO.bind ?_ (fun _ => ?_)
    · intro y0 y1 y2 y3 y4 y5
      unfold conclavelaw03_HeapCommonLow.j3
      repeat' first
      | (with_reducible exact ih0 _ _ _ _)
      | (with_reducible exact ih1 _ _ _ _ _)
      | (with_reducible exact ih2 _ _ _ _ _)
      | (with_reducible exact ih3 _ _ _ _ _ _)
      | (with_reducible exact conclavelaw03_anchor.mono _)
      | (with_reducible exact heap_Common.mono _ _ _ _)
      | (with_reducible exact heap_Under.mono _ _ _ _)
      | (with_reducible exact LeO.refl _)
      | (with_reducible exact LeO.none _)
      | (with_reducible refine LeO.ite ?_ ?_)
      | (with_reducible refine LeO.bind ?_ (fun _ => ?_))
      | exact ih0 _ _ _ _
      | exact ih1 _ _ _ _ _
      | exact ih2 _ _ _ _ _
      | exact ih3 _ _ _ _ _ _
      | exact conclavelaw03_anchor.mono _
      | exact heap_Common.mono _ _ _ _
      | exact heap_Under.mono _ _ _ _
      | exact LeO.none _
      | refine LeO.ite ?_ ?_
      | refine LeO.bind ?_ (fun _ => ?_)
theorem conclavelaw03_HeapCommonLow.mono : ∀ a0 a1 a2 k, LeO (conclavelaw03_HeapCommonLow.f k a0 a1 a2) (conclavelaw03_HeapCommonLow.f (k + 1) a0 a1 a2) := by
  intro a0 a1 a2 k
  obtain ⟨ih0, ih1, ih2, ih3⟩ := conclavelaw03_HeapCommonLow.mono_l k
  unfold conclavelaw03_HeapCommonLow.f
  repeat' first
      | (with_reducible exact ih0 _ _ _ _)
      | (with_reducible exact ih1 _ _ _ _ _)
      | (with_reducible exact ih2 _ _ _ _ _)
      | (with_reducible exact ih3 _ _ _ _ _ _)
      | (with_reducible exact conclavelaw03_anchor.mono _)
      | (with_reducible exact heap_Common.mono _ _ _ _)
      | (with_reducible exact heap_Under.mono _ _ _ _)
      | (with_reducible exact LeO.refl _)
      | (with_reducible exact LeO.none _)
      | (with_reducible refine LeO.ite ?_ ?_)
      | (with_reducible refine LeO.bind ?_ (fun _ => ?_))
      | exact ih0 _ _ _ _
      | exact ih1 _ _ _ _ _
      | exact ih2 _ _ _ _ _
      | exact ih3 _ _ _ _ _ _
      | exact conclavelaw03_anchor.mono _
      | exact heap_Common.mono _ _ _ _
      | exact heap_Under.mono _ _ _ _
      | exact LeO.none _
      | refine LeO.ite ?_ ?_
      | refine LeO.bind ?_ (fun _ => ?_)
set_option maxHeartbeats 8000000 in
set_option maxRecDepth 100000 in
theorem conclavelaw03_HeapCommonLow.calls (k : Nat) (a0 : Int) (a1 : Int) (a2 : Int) (r : Bool) (w : World) (hrG : TabG w) (h : conclavelaw03_HeapCommonLow.f k a0 a1 a2 = some r) :
    Calls Tryd.prog 8 #[.int .i64 a0, .int .i64 a1, .int .i64 a2] w fun e w' => e = .returned (.bool r) ∧ Below w.heap.size w w' := by
  have HRG := Aside0.mk hrG
  clear hrG
  have HB := Aside0.mk (Below.refl w.heap.size w)
  have H : ((conclavelaw03_anchor.f k).bind fun t253 => (if t253 = true then ((conclaveref03_Right.f a2).bind fun t254 => (if t254 = true then (if a0 < 0 then (conclavelaw03_HeapCommonLow.j0 k a0 a1 a2 true) else (if a1 < 0 then (conclavelaw03_HeapCommonLow.j0 k a0 a1 a2 true) else (if a0 ≥ a2 then (conclavelaw03_HeapCommonLow.j0 k a0 a1 a2 true) else (conclavelaw03_HeapCommonLow.j0 k a0 a1 a2 (decide (a1 ≥ a2)))))) else (conclavelaw03_HeapCommonLow.j0 k a0 a1 a2 true))) else (some false))) = some r := h
  clear h
  replace H := Option.bind_eq_some_iff.mp H
  obtain ⟨t253, A40, H⟩ := H
  replace H : (if t253 = true then ((conclaveref03_Right.f a2).bind fun t254 => (if t254 = true then (if a0 < 0 then (conclavelaw03_HeapCommonLow.j0 k a0 a1 a2 true) else (if a1 < 0 then (conclavelaw03_HeapCommonLow.j0 k a0 a1 a2 true) else (if a0 ≥ a2 then (conclavelaw03_HeapCommonLow.j0 k a0 a1 a2 true) else (conclavelaw03_HeapCommonLow.j0 k a0 a1 a2 (decide (a1 ≥ a2)))))) else (conclavelaw03_HeapCommonLow.j0 k a0 a1 a2 true))) else (some false)) = some r := H
  have A4 := Aside0.mk A40
  clear A40
  by_cases c5 : t253 = true
  · subst c5
    have H1 : ((conclaveref03_Right.f a2).bind fun t254 => (if t254 = true then (if a0 < 0 then (conclavelaw03_HeapCommonLow.j0 k a0 a1 a2 true) else (if a1 < 0 then (conclavelaw03_HeapCommonLow.j0 k a0 a1 a2 true) else (if a0 ≥ a2 then (conclavelaw03_HeapCommonLow.j0 k a0 a1 a2 true) else (conclavelaw03_HeapCommonLow.j0 k a0 a1 a2 (decide (a1 ≥ a2)))))) else (conclavelaw03_HeapCommonLow.j0 k a0 a1 a2 true))) = some r := by rw [if_pos rfl] at H; exact H
    clear H
    have H := H1
    clear H1
    have HC6 := Aside0.mk H
    clear H
    go_enter Tryd.func8, Tryd.ntmps8
    go_upto_region 3 with (first | ((with_reducible refine gate_callee (f := 9) rfl ?_); refine goesL_ (some 13) rfl rfl Tryd.func9 (by kernel_rfl) rfl #[] rfl (by (try simp only [List.map_toArray, List.map_cons, List.map_nil]); first | done | rfl | (simp only [List.length_drop, List.length_take]; rfl)) ?_; (with_reducible refine (conclavelaw03_anchor.calls (hrG := ?sideG) k  true _ A4.out).mono ?_); (case sideG => (first | exact HRG.out | exact TabG.below HRG.out (by repeat (first | (with_reducible first | exact HB.out | apply below_alloc | apply pw_below_drewN | apply below_drew1) | exact HB.out | exact Below.refl _ _)))); rintro e w7 ⟨rfl, hb⟩; refine ⟨_, rfl, ?_⟩; have n0_ := Aside0.mk (below_step (by repeat (first | (with_reducible first | exact HB.out | apply below_alloc | apply pw_below_drewN | apply below_drew1) | exact HB.out)) hb); clear HB; have HB := n0_; clear n0_; (try clear hb); (try clear hb2); (try clear hk); (try clear hi)))
    (try simp only [Act.put, List.setIfInBounds_toArray, List.set_cons_zero, List.set_cons_succ])
    go_cut [35] (fun v35 wc => ∃ (kq : Nat) (x35_5 : Bool), v35 = .bool x35_5 ∧ Aside0 (conclavelaw03_HeapCommonLow.j0 kq a0 a1 a2 x35_5 = some r) ∧ Aside0 (kq ≤ k) ∧ Aside0 (Below w.heap.size w wc))
    case first =>
      have H := HC6.out
      clear HC6
      replace H := Option.bind_eq_some_iff.mp H
      obtain ⟨t254, A80, H⟩ := H
      replace H : (if t254 = true then (if a0 < 0 then (conclavelaw03_HeapCommonLow.j0 k a0 a1 a2 true) else (if a1 < 0 then (conclavelaw03_HeapCommonLow.j0 k a0 a1 a2 true) else (if a0 ≥ a2 then (conclavelaw03_HeapCommonLow.j0 k a0 a1 a2 true) else (conclavelaw03_HeapCommonLow.j0 k a0 a1 a2 (decide (a1 ≥ a2)))))) else (conclavelaw03_HeapCommonLow.j0 k a0 a1 a2 true)) = some r := H
      have A8 := Aside0.mk A80
      clear A80
      by_cases c9 : t254 = true
      · subst c9
        have H1 : (if a0 < 0 then (conclavelaw03_HeapCommonLow.j0 k a0 a1 a2 true) else (if a1 < 0 then (conclavelaw03_HeapCommonLow.j0 k a0 a1 a2 true) else (if a0 ≥ a2 then (conclavelaw03_HeapCommonLow.j0 k a0 a1 a2 true) else (conclavelaw03_HeapCommonLow.j0 k a0 a1 a2 (decide (a1 ≥ a2)))))) = some r := by rw [if_pos rfl] at H; exact H
        clear H
        have H := H1
        clear H1
        by_cases c10 : a0 < 0
        · rw [if_pos c10] at H
          have c10b0 : decide (a0 < 0) = true := decide_eq_true c10
          clear c10
          (first | rw [c10b0] | (simp only [i64_w, i32_w]; rw [c10b0]) | skip)
          have H' := Aside0.mk H
          clear H
          go_wp2_with (first | ((with_reducible refine gate_callee (f := 15) rfl ?_); refine goesL_ (some 16) rfl rfl Tryd.func15 (by kernel_rfl) rfl #[.int .i64 a2] rfl (by (try simp only [List.map_toArray, List.map_cons, List.map_nil]); first | done | rfl | (simp only [List.length_drop, List.length_take]; rfl)) ?_; (with_reducible refine (conclaveref03_Right.calls a2 true _ A8.out).mono ?_); rintro e w' ⟨rfl, ⟨nd, rfl⟩⟩; refine ⟨_, rfl, ?_⟩))
          go_meet
          case rel => exact ⟨_, (true), (by first | rfl | (simp; done) | (simp [*]; done)), H', ⟨by first | omega | exact Nat.le_refl _⟩, ⟨by repeat (first | (with_reducible first | exact HB.out | apply below_alloc | apply pw_below_drewN | apply below_drew1) | exact HB.out)⟩⟩
        · rw [if_neg c10] at H
          have c10b0 : decide (a0 < 0) = false := decide_eq_false c10
          clear c10
          (first | rw [c10b0] | (simp only [i64_w, i32_w]; rw [c10b0]) | skip)
          by_cases c11 : a1 < 0
          · rw [if_pos c11] at H
            have c11b0 : decide (a1 < 0) = true := decide_eq_true c11
            clear c11
            have H' := Aside0.mk H
            clear H
            go_wp2_with (first | ((with_reducible refine gate_callee (f := 15) rfl ?_); refine goesL_ (some 16) rfl rfl Tryd.func15 (by kernel_rfl) rfl #[.int .i64 a2] rfl (by (try simp only [List.map_toArray, List.map_cons, List.map_nil]); first | done | rfl | (simp only [List.length_drop, List.length_take]; rfl)) ?_; (with_reducible refine (conclaveref03_Right.calls a2 true _ A8.out).mono ?_); rintro e w' ⟨rfl, ⟨nd, rfl⟩⟩; refine ⟨_, rfl, ?_⟩))
            go_meet
            case rel => exact ⟨_, (true), (by first | rfl | (simp; done) | (simp [*]; done)), H', ⟨by first | omega | exact Nat.le_refl _⟩, ⟨by repeat (first | (with_reducible first | exact HB.out | apply below_alloc | apply pw_below_drewN | apply below_drew1) | exact HB.out)⟩⟩
          · rw [if_neg c11] at H
            have c11b0 : decide (a1 < 0) = false := decide_eq_false c11
            clear c11
            by_cases c12 : a0 ≥ a2
            · rw [if_pos c12] at H
              have c12b0 : decide (a2 ≤ a0) = true := decide_eq_true c12
              clear c12
              have H' := Aside0.mk H
              clear H
              go_wp2_with (first | ((with_reducible refine gate_callee (f := 15) rfl ?_); refine goesL_ (some 16) rfl rfl Tryd.func15 (by kernel_rfl) rfl #[.int .i64 a2] rfl (by (try simp only [List.map_toArray, List.map_cons, List.map_nil]); first | done | rfl | (simp only [List.length_drop, List.length_take]; rfl)) ?_; (with_reducible refine (conclaveref03_Right.calls a2 true _ A8.out).mono ?_); rintro e w' ⟨rfl, ⟨nd, rfl⟩⟩; refine ⟨_, rfl, ?_⟩))
              go_meet
              case rel => exact ⟨_, (true), (by first | rfl | (simp; done) | (simp [*]; done)), H', ⟨by first | omega | exact Nat.le_refl _⟩, ⟨by repeat (first | (with_reducible first | exact HB.out | apply below_alloc | apply pw_below_drewN | apply below_drew1) | exact HB.out)⟩⟩
            · rw [if_neg c12] at H
              have c12b0 : decide (a2 ≤ a0) = false := decide_eq_false c12
              clear c12
              have H' := Aside0.mk H
              clear H
              go_wp2_with (first | ((with_reducible refine gate_callee (f := 15) rfl ?_); refine goesL_ (some 16) rfl rfl Tryd.func15 (by kernel_rfl) rfl #[.int .i64 a2] rfl (by (try simp only [List.map_toArray, List.map_cons, List.map_nil]); first | done | rfl | (simp only [List.length_drop, List.length_take]; rfl)) ?_; (with_reducible refine (conclaveref03_Right.calls a2 true _ A8.out).mono ?_); rintro e w' ⟨rfl, ⟨nd, rfl⟩⟩; refine ⟨_, rfl, ?_⟩))
              go_meet
              case rel => exact ⟨_, (decide (a1 ≥ a2)), (by first | rfl | (simp; done) | (simp [*]; done)), H', ⟨by first | omega | exact Nat.le_refl _⟩, ⟨by repeat (first | (with_reducible first | exact HB.out | apply below_alloc | apply pw_below_drewN | apply below_drew1) | exact HB.out)⟩⟩
      · replace c9 := Bool.eq_false_iff.mpr c9
        subst c9
        have H1 : (conclavelaw03_HeapCommonLow.j0 k a0 a1 a2 true) = some r := by rw [if_neg (show ¬ (false = true) by decide)] at H; exact H
        clear H
        have H := H1
        clear H1
        have H' := Aside0.mk H
        clear H
        go_wp2_with (first | ((with_reducible refine gate_callee (f := 15) rfl ?_); refine goesL_ (some 16) rfl rfl Tryd.func15 (by kernel_rfl) rfl #[.int .i64 a2] rfl (by (try simp only [List.map_toArray, List.map_cons, List.map_nil]); first | done | rfl | (simp only [List.length_drop, List.length_take]; rfl)) ?_; (with_reducible refine (conclaveref03_Right.calls a2 false _ A8.out).mono ?_); rintro e w' ⟨rfl, ⟨nd, rfl⟩⟩; refine ⟨_, rfl, ?_⟩))
        go_meet
        case rel => exact ⟨_, (true), (by first | rfl | (simp; done) | (simp [*]; done)), H', ⟨by first | omega | exact Nat.le_refl _⟩, ⟨by repeat (first | (with_reducible first | exact HB.out | apply below_alloc | apply pw_below_drewN | apply below_drew1) | exact HB.out)⟩⟩
    case rest =>
      clear HC6
      try clear c1
      try clear p2
      try clear c5
      try clear c8
      try clear c9
      try clear c10
      try clear c10b0
      try clear c11
      try clear c11b0
      try clear c12
      try clear c12b0
      obtain ⟨kq, x35_5, rfl, HA, HJ5, HB⟩ := hcut
      cases kq with
      | zero => exact absurd HA.out (by simp [conclavelaw03_HeapCommonLow.j0])
      | succ kj5 =>
        have H := HA.out
        clear HA
        simp only [conclavelaw03_HeapCommonLow.j0] at H
        by_cases c13 : x35_5 = true
        · subst c13
          have H1 : (some true) = some r := by rw [if_pos rfl] at H; exact H
          clear H
          have H := H1
          clear H1
          obtain rfl := Option.some.inj H
          go_wp2
          go_ret
          exact ⟨by first | rfl | (simp [errW_none, errW_some] <;> rfl) | (simp [*, errW_none, errW_some] <;> rfl), by repeat (first | (with_reducible first | exact HB.out | apply below_alloc | apply pw_below_drewN | apply below_drew1) | exact HB.out)⟩
        · replace c13 := Bool.eq_false_iff.mpr c13
          subst c13
          have H1 : ((heap_Common.f kj5 a0 a1 a2).bind fun bt255 => ((heap_Common.f kj5 a1 a0 a2).bind fun bt257 => (if bt255.2 = 0 then (if bt257.2 = 0 then (conclavelaw03_HeapCommonLow.j1 kj5 a0 a1 a2 bt255.1 (bt255.1 != bt257.1)) else (conclavelaw03_HeapCommonLow.j1 kj5 a0 a1 a2 bt255.1 true)) else (conclavelaw03_HeapCommonLow.j1 kj5 a0 a1 a2 bt255.1 true)))) = some r := by rw [if_neg (show ¬ (false = true) by decide)] at H; exact H
          clear H
          have H := H1
          clear H1
          replace H := Option.bind_eq_some_iff.mp H
          obtain ⟨⟨t255, t256⟩, A140, H⟩ := H
          replace H : ((heap_Common.f kj5 a1 a0 a2).bind fun bt257 => (if t256 = 0 then (if bt257.2 = 0 then (conclavelaw03_HeapCommonLow.j1 kj5 a0 a1 a2 t255 (t255 != bt257.1)) else (conclavelaw03_HeapCommonLow.j1 kj5 a0 a1 a2 t255 true)) else (conclavelaw03_HeapCommonLow.j1 kj5 a0 a1 a2 t255 true))) = some r := H
          have A14 := Aside0.mk A140
          clear A140
          replace H := Option.bind_eq_some_iff.mp H
          obtain ⟨⟨t257, t258⟩, A150, H⟩ := H
          replace H : (if t256 = 0 then (if t258 = 0 then (conclavelaw03_HeapCommonLow.j1 kj5 a0 a1 a2 t255 (t255 != t257)) else (conclavelaw03_HeapCommonLow.j1 kj5 a0 a1 a2 t255 true)) else (conclavelaw03_HeapCommonLow.j1 kj5 a0 a1 a2 t255 true)) = some r := H
          have A15 := Aside0.mk A150
          clear A150
          have HC16 := Aside0.mk H
          clear H
          go_upto_region 7 with (first | ((with_reducible refine gate_callee (f := 25) rfl ?_); refine goesL_ (some 40) rfl rfl Tryd.func25 (by kernel_rfl) rfl #[.int .i64 a0, .int .i64 a1, .int .i64 a2] rfl (by (try simp only [List.map_toArray, List.map_cons, List.map_nil]); first | done | rfl | (simp only [List.length_drop, List.length_take]; rfl)) ?_; (with_reducible refine (heap_Common.calls kj5 a0 a1 a2 t255 t256 _ A14.out).mono ?_); rintro e w' ⟨rfl, ⟨nd, rfl⟩⟩; refine ⟨_, rfl, ?_⟩) | ((with_reducible refine gate_callee (f := 25) rfl ?_); refine goesL_ (some 47) rfl rfl Tryd.func25 (by kernel_rfl) rfl #[.int .i64 a1, .int .i64 a0, .int .i64 a2] rfl (by (try simp only [List.map_toArray, List.map_cons, List.map_nil]); first | done | rfl | (simp only [List.length_drop, List.length_take]; rfl)) ?_; (with_reducible refine (heap_Common.calls kj5 a1 a0 a2 t257 t258 _ A15.out).mono ?_); rintro e w' ⟨rfl, ⟨nd, rfl⟩⟩; refine ⟨_, rfl, ?_⟩))
          (try simp only [Act.put, List.setIfInBounds_toArray, List.set_cons_zero, List.set_cons_succ])
          go_cut [60] (fun v60 wc => ∃ (kq : Nat) (x60_15 : Bool), v60 = .bool x60_15 ∧ Aside0 (conclavelaw03_HeapCommonLow.j1 kq a0 a1 a2 t255 x60_15 = some r) ∧ Aside0 (kq ≤ kj5) ∧ Aside0 (Below w.heap.size w wc))
          case first =>
            have H := HC16.out
            clear HC16
            by_cases c17 : t256 = 0
            · rw [if_pos c17] at H
              have c17b0 : (t256 == 0) = true := beq_iff_eq.mpr c17
              have c17b1 : (t256 != 0) = false := bne_eq_false_iff_eq.mpr c17
              clear c17
              (first | rw [c17b0] | (simp only [i64_w, i32_w]; rw [c17b0]) | skip)
              by_cases c18 : t258 = 0
              · rw [if_pos c18] at H
                have c18b0 : (t258 == 0) = true := beq_iff_eq.mpr c18
                have c18b1 : (t258 != 0) = false := bne_eq_false_iff_eq.mpr c18
                clear c18
                have H' := Aside0.mk H
                clear H
                go_wp2
                go_meet
                case rel => exact ⟨_, ((t255 != t257)), (by first | rfl | (simp; done) | (simp [*]; done)), H', ⟨by have := HJ5.out; first | omega | exact Nat.le_refl _⟩, ⟨by repeat (first | (with_reducible first | exact HB.out | apply below_alloc | apply pw_below_drewN | apply below_drew1) | exact HB.out)⟩⟩
              · rw [if_neg c18] at H
                have c18b0 : (t258 == 0) = false := beq_eq_false_iff_ne.mpr c18
                have c18b1 : (t258 != 0) = true := bne_iff_ne.mpr c18
                have H' := Aside0.mk H
                clear H
                go_wp2
                go_meet
                case rel => exact ⟨_, (true), (by first | rfl | (simp; done) | (simp [*]; done)), H', ⟨by have := HJ5.out; first | omega | exact Nat.le_refl _⟩, ⟨by repeat (first | (with_reducible first | exact HB.out | apply below_alloc | apply pw_below_drewN | apply below_drew1) | exact HB.out)⟩⟩
            · rw [if_neg c17] at H
              have c17b0 : (t256 == 0) = false := beq_eq_false_iff_ne.mpr c17
              have c17b1 : (t256 != 0) = true := bne_iff_ne.mpr c17
              (first | rw [c17b0] | (simp only [i64_w, i32_w]; rw [c17b0]) | skip)
              have H' := Aside0.mk H
              clear H
              go_wp2
              go_meet
              case rel => exact ⟨_, (true), (by first | rfl | (simp; done) | (simp [*]; done)), H', ⟨by have := HJ5.out; first | omega | exact Nat.le_refl _⟩, ⟨by repeat (first | (with_reducible first | exact HB.out | apply below_alloc | apply pw_below_drewN | apply below_drew1) | exact HB.out)⟩⟩
          case rest =>
            clear HC16
            try clear c1
            try clear c2
            try clear p2
            try clear c5
            try clear c8
            try clear c9
            try clear c10
            try clear c10b0
            try clear c11
            try clear c11b0
            try clear c12
            try clear c12b0
            try clear c13
            try clear c15
            try clear c17
            try clear c17b0
            try clear c17b1
            try clear c18
            try clear c18b0
            try clear c18b1
            try clear p2
            obtain ⟨kq, x60_15, rfl, HA, HJ15, HB⟩ := hcut
            cases kq with
            | zero => exact absurd HA.out (by simp [conclavelaw03_HeapCommonLow.j1])
            | succ kj15 =>
              have H := HA.out
              clear HA
              simp only [conclavelaw03_HeapCommonLow.j1] at H
              by_cases c19 : x60_15 = true
              · subst c19
                have H1 : (some false) = some r := by rw [if_pos rfl] at H; exact H
                clear H
                have H := H1
                clear H1
                obtain rfl := Option.some.inj H
                go_wp2
                go_ret
                exact ⟨by first | rfl | (simp [errW_none, errW_some] <;> rfl) | (simp [*, errW_none, errW_some] <;> rfl), by repeat (first | (with_reducible first | exact HB.out | apply below_alloc | apply pw_below_drewN | apply below_drew1) | exact HB.out)⟩
              · replace c19 := Bool.eq_false_iff.mpr c19
                subst c19
                have H1 : (conclavelaw03_HeapCommonLow.l0 kj15 a0 a1 a2 t255 0) = some r := by rw [if_neg (show ¬ (false = true) by decide)] at H; exact H
                clear H
                have H := H1
                clear H1
                have H' := Aside0.mk H
                clear H
                go_wp2
                go_loopg [11] kj15 (fun kq v11 w' => ∃ (x11_3 : Int), v11 = .int .i64 x11_3 ∧ Aside0 (conclavelaw03_HeapCommonLow.l0 kq a0 a1 a2 t255 x11_3 = some r) ∧ Aside0 (kq ≤ kj15) ∧ Aside0 (Below w.heap.size w w'))
                case atStart => exact ⟨(0), (by first | rfl | (simp; done) | (simp [*]; done)), H', ⟨Nat.le_refl _⟩, ⟨by repeat (first | (with_reducible first | exact HB.out | apply below_alloc | apply pw_below_drewN | apply below_drew1) | exact HB.out)⟩⟩
                case round =>
                  clear H'
                  try clear c1
                  try clear c2
                  try clear p2
                  try clear c5
                  try clear c8
                  try clear c9
                  try clear c10
                  try clear c10b0
                  try clear c11
                  try clear c11b0
                  try clear c12
                  try clear c12b0
                  try clear c13
                  try clear c15
                  try clear c17
                  try clear c17b0
                  try clear c17b1
                  try clear c18
                  try clear c18b0
                  try clear c18b1
                  try clear c19
                  try clear p2
                  obtain ⟨x11_3, rfl, HA, HK3, HB⟩ := hrel
                  cases gk with
                  | zero => exact absurd HA.out (by simp [conclavelaw03_HeapCommonLow.l0])
                  | succ k3 =>
                    have H := HA.out
                    clear HA
                    simp only [conclavelaw03_HeapCommonLow.l0] at H
                    by_cases c20 : x11_3 < (wrap64 ((wrap64 (2 * a2)) - 1))
                    · rw [if_pos c20] at H
                      have c20b0 : decide (x11_3 < (wrap64 ((wrap64 (2 * a2)) - 1))) = true := decide_eq_true c20
                      clear c20
                      have HC21 := Aside0.mk H
                      clear H
                      go_upto_region 12 with (fail)
                      go_cut [12] (fun v12 wc => ∃ (kq : Nat) (x12_20 : Bool), v12 = .bool x12_20 ∧ Aside0 (conclavelaw03_HeapCommonLow.j3 kq a0 a1 a2 t255 x11_3 x12_20 = some r) ∧ Aside0 (kq ≤ k3) ∧ Aside0 (Below w.heap.size w wc))
                      case first =>
                        have H := HC21.out
                        clear HC21
                        replace H := Option.bind_eq_some_iff.mp H
                        obtain ⟨t259, A220, H⟩ := H
                        replace H : (if t259 = true then ((heap_Under.f k3 (wrap64 (2 * a1)) x11_3 a2).bind fun t260 => (conclavelaw03_HeapCommonLow.j3 k3 a0 a1 a2 t255 x11_3 t260)) else (conclavelaw03_HeapCommonLow.j3 k3 a0 a1 a2 t255 x11_3 false)) = some r := H
                        have A22 := Aside0.mk A220
                        clear A220
                        by_cases c23 : t259 = true
                        · subst c23
                          have H1 : ((heap_Under.f k3 (wrap64 (2 * a1)) x11_3 a2).bind fun t260 => (conclavelaw03_HeapCommonLow.j3 k3 a0 a1 a2 t255 x11_3 t260)) = some r := by rw [if_pos rfl] at H; exact H
                          clear H
                          have H := H1
                          clear H1
                          replace H := Option.bind_eq_some_iff.mp H
                          obtain ⟨t260, A240, H⟩ := H
                          replace H : (conclavelaw03_HeapCommonLow.j3 k3 a0 a1 a2 t255 x11_3 t260) = some r := H
                          have A24 := Aside0.mk A240
                          clear A240
                          have H' := Aside0.mk H
                          clear H
                          go_wp2_with (first | ((with_reducible refine gate_callee (f := 12) rfl ?_); refine goesL_ (some 72) rfl rfl Tryd.func12 (by kernel_rfl) rfl #[.int .i64 (wrap64 (2 * a0)), .int .i64 x11_3, .int .i64 a2] rfl (by (try simp only [List.map_toArray, List.map_cons, List.map_nil]); first | done | rfl | (simp only [List.length_drop, List.length_take]; rfl)) ?_; (with_reducible refine (heap_Under.calls (hrG := ?sideG) k3 (wrap64 (2 * a0)) x11_3 a2 true _ A22.out).mono ?_); (case sideG => (first | exact HRG.out | exact TabG.below HRG.out (by repeat (first | (with_reducible first | exact HB.out | apply below_alloc | apply pw_below_drewN | apply below_drew1) | exact HB.out | exact Below.refl _ _)))); rintro e w' ⟨rfl, ⟨nd, rfl⟩⟩; refine ⟨_, rfl, ?_⟩) | (go_at_call 12; (with_reducible refine (heap_Under.calls (hrG := ?sideG) k3 (wrap64 (2 * a1)) x11_3 a2 t260 _ A24.out).mono ?_); (case sideG => (first | exact HRG.out | exact TabG.below HRG.out (by repeat (first | (with_reducible first | exact HB.out | apply below_alloc | apply pw_below_drewN | apply below_drew1) | exact HB.out | exact Below.refl _ _)))); rintro e w' ⟨rfl, ⟨nd, rfl⟩⟩))
                          go_meet
                          case rel => exact ⟨_, (t260), (by first | rfl | (simp; done) | (simp [*]; done)), H', ⟨by have := HJ5.out; have := HJ15.out; have := HK3.out; first | omega | exact Nat.le_refl _⟩, ⟨by repeat (first | (with_reducible first | exact HB.out | apply below_alloc | apply pw_below_drewN | apply below_drew1) | exact HB.out)⟩⟩
                        · replace c23 := Bool.eq_false_iff.mpr c23
                          subst c23
                          have H1 : (conclavelaw03_HeapCommonLow.j3 k3 a0 a1 a2 t255 x11_3 false) = some r := by rw [if_neg (show ¬ (false = true) by decide)] at H; exact H
                          clear H
                          have H := H1
                          clear H1
                          have H' := Aside0.mk H
                          clear H
                          go_wp2_with (first | ((with_reducible refine gate_callee (f := 12) rfl ?_); refine goesL_ (some 72) rfl rfl Tryd.func12 (by kernel_rfl) rfl #[.int .i64 (wrap64 (2 * a0)), .int .i64 x11_3, .int .i64 a2] rfl (by (try simp only [List.map_toArray, List.map_cons, List.map_nil]); first | done | rfl | (simp only [List.length_drop, List.length_take]; rfl)) ?_; (with_reducible refine (heap_Under.calls (hrG := ?sideG) k3 (wrap64 (2 * a0)) x11_3 a2 false _ A22.out).mono ?_); (case sideG => (first | exact HRG.out | exact TabG.below HRG.out (by repeat (first | (with_reducible first | exact HB.out | apply below_alloc | apply pw_below_drewN | apply below_drew1) | exact HB.out | exact Below.refl _ _)))); rintro e w' ⟨rfl, ⟨nd, rfl⟩⟩; refine ⟨_, rfl, ?_⟩))
                          go_meet
                          case rel => exact ⟨_, (false), (by first | rfl | (simp; done) | (simp [*]; done)), H', ⟨by have := HJ5.out; have := HJ15.out; have := HK3.out; first | omega | exact Nat.le_refl _⟩, ⟨by repeat (first | (with_reducible first | exact HB.out | apply below_alloc | apply pw_below_drewN | apply below_drew1) | exact HB.out)⟩⟩
                      case rest =>
                        clear HC21
                        try clear c1
                        try clear c2
                        try clear p2
                        try clear c5
                        try clear p6
                        try clear c8
                        try clear c9
                        try clear c10
                        try clear c10b0
                        try clear c11
                        try clear c11b0
                        try clear c12
                        try clear c12b0
                        try clear c13
                        try clear c15
                        try clear c17
                        try clear c17b0
                        try clear c17b1
                        try clear c18
                        try clear c18b0
                        try clear c18b1
                        try clear c19
                        try clear c20
                        try clear c20b0
                        try clear c23
                        try clear p2
                        obtain ⟨kq, x12_20, rfl, HA, HJ20, HB⟩ := hcut
                        cases kq with
                        | zero => exact absurd HA.out (by simp [conclavelaw03_HeapCommonLow.j3])
                        | succ kj20 =>
                          have H := HA.out
                          clear HA
                          simp only [conclavelaw03_HeapCommonLow.j3] at H
                          by_cases c25 : x12_20 = true
                          · subst c25
                            have H1 : ((heap_Level.f x11_3).bind fun t261 => ((heap_Level.f t255).bind fun t262 => (if t261 < t262 then (some false) else (if x11_3 = t255 then (conclavelaw03_HeapCommonLow.l0 kj20 a0 a1 a2 t255 (wrap64 (x11_3 + 1))) else (conclavelaw03_HeapCommonLow.l0 kj20 a0 a1 a2 t255 (wrap64 (x11_3 + 1))))))) = some r := by rw [if_pos rfl] at H; exact H
                            clear H
                            have H := H1
                            clear H1
                            replace H := Option.bind_eq_some_iff.mp H
                            obtain ⟨t261, A260, H⟩ := H
                            replace H : ((heap_Level.f t255).bind fun t262 => (if t261 < t262 then (some false) else (if x11_3 = t255 then (conclavelaw03_HeapCommonLow.l0 kj20 a0 a1 a2 t255 (wrap64 (x11_3 + 1))) else (conclavelaw03_HeapCommonLow.l0 kj20 a0 a1 a2 t255 (wrap64 (x11_3 + 1)))))) = some r := H
                            have A26 := Aside0.mk A260
                            clear A260
                            replace H := Option.bind_eq_some_iff.mp H
                            obtain ⟨t262, A270, H⟩ := H
                            replace H : (if t261 < t262 then (some false) else (if x11_3 = t255 then (conclavelaw03_HeapCommonLow.l0 kj20 a0 a1 a2 t255 (wrap64 (x11_3 + 1))) else (conclavelaw03_HeapCommonLow.l0 kj20 a0 a1 a2 t255 (wrap64 (x11_3 + 1))))) = some r := H
                            have A27 := Aside0.mk A270
                            clear A270
                            by_cases c28 : t261 < t262
                            · rw [if_pos c28] at H
                              have c28b0 : decide (t261 < t262) = true := decide_eq_true c28
                              clear c28
                              obtain rfl := Option.some.inj H
                              go_wp2_with (first | (go_at_call 13; (with_reducible refine (heap_Level.calls (hrG := ?sideG) x11_3 t261 _ A26.out).mono ?_); (case sideG => (first | exact HRG.out | exact TabG.below HRG.out (by repeat (first | (with_reducible first | exact HB.out | apply below_alloc | apply pw_below_drewN | apply below_drew1) | exact HB.out | exact Below.refl _ _)))); rintro e w' ⟨rfl, ⟨nd, rfl⟩⟩) | (go_at_call 13; (with_reducible refine (heap_Level.calls (hrG := ?sideG) t255 t262 _ A27.out).mono ?_); (case sideG => (first | exact HRG.out | exact TabG.below HRG.out (by repeat (first | (with_reducible first | exact HB.out | apply below_alloc | apply pw_below_drewN | apply below_drew1) | exact HB.out | exact Below.refl _ _)))); rintro e w' ⟨rfl, ⟨nd, rfl⟩⟩))
                              go_ret
                              exact ⟨by first | rfl | (simp [errW_none, errW_some] <;> rfl) | (simp [*, errW_none, errW_some] <;> rfl), by repeat (first | (with_reducible first | exact HB.out | apply below_alloc | apply pw_below_drewN | apply below_drew1) | exact HB.out)⟩
                            · rw [if_neg c28] at H
                              have c28b0 : decide (t261 < t262) = false := decide_eq_false c28
                              clear c28
                              by_cases c29 : x11_3 = t255
                              · rw [if_pos c29] at H
                                have c29b0 : (x11_3 == t255) = true := beq_iff_eq.mpr c29
                                have c29b1 : (x11_3 != t255) = false := bne_eq_false_iff_eq.mpr c29
                                clear c29
                                have H' := Aside0.mk H
                                clear H
                                go_wp2_with (first | (go_at_call 13; (with_reducible refine (heap_Level.calls (hrG := ?sideG) x11_3 t261 _ A26.out).mono ?_); (case sideG => (first | exact HRG.out | exact TabG.below HRG.out (by repeat (first | (with_reducible first | exact HB.out | apply below_alloc | apply pw_below_drewN | apply below_drew1) | exact HB.out | exact Below.refl _ _)))); rintro e w' ⟨rfl, ⟨nd, rfl⟩⟩) | (go_at_call 13; (with_reducible refine (heap_Level.calls (hrG := ?sideG) t255 t262 _ A27.out).mono ?_); (case sideG => (first | exact HRG.out | exact TabG.below HRG.out (by repeat (first | (with_reducible first | exact HB.out | apply below_alloc | apply pw_below_drewN | apply below_drew1) | exact HB.out | exact Below.refl _ _)))); rintro e w' ⟨rfl, ⟨nd, rfl⟩⟩))
                                go_roundg kj20
                                case measure => have := HJ5.out; have := HJ15.out; have := HK3.out; have := HJ20.out; omega
                                case rel => exact ⟨(wrap64 (x11_3 + 1)), (by first | rfl | (simp; done) | (simp [*]; done)), H', ⟨by have := HJ5.out; have := HJ15.out; have := HK3.out; have := HJ20.out; omega⟩, ⟨by repeat (first | (with_reducible first | exact HB.out | apply below_alloc | apply pw_below_drewN | apply below_drew1) | exact HB.out)⟩⟩
                              · rw [if_neg c29] at H
                                have c29b0 : (x11_3 == t255) = false := beq_eq_false_iff_ne.mpr c29
                                have c29b1 : (x11_3 != t255) = true := bne_iff_ne.mpr c29
                                have H' := Aside0.mk H
                                clear H
                                go_wp2_with (first | (go_at_call 13; (with_reducible refine (heap_Level.calls (hrG := ?sideG) x11_3 t261 _ A26.out).mono ?_); (case sideG => (first | exact HRG.out | exact TabG.below HRG.out (by repeat (first | (with_reducible first | exact HB.out | apply below_alloc | apply pw_below_drewN | apply below_drew1) | exact HB.out | exact Below.refl _ _)))); rintro e w' ⟨rfl, ⟨nd, rfl⟩⟩) | (go_at_call 13; (with_reducible refine (heap_Level.calls (hrG := ?sideG) t255 t262 _ A27.out).mono ?_); (case sideG => (first | exact HRG.out | exact TabG.below HRG.out (by repeat (first | (with_reducible first | exact HB.out | apply below_alloc | apply pw_below_drewN | apply below_drew1) | exact HB.out | exact Below.refl _ _)))); rintro e w' ⟨rfl, ⟨nd, rfl⟩⟩))
                                go_roundg kj20
                                case measure => have := HJ5.out; have := HJ15.out; have := HK3.out; have := HJ20.out; omega
                                case rel => exact ⟨(wrap64 (x11_3 + 1)), (by first | rfl | (simp; done) | (simp [*]; done)), H', ⟨by have := HJ5.out; have := HJ15.out; have := HK3.out; have := HJ20.out; omega⟩, ⟨by repeat (first | (with_reducible first | exact HB.out | apply below_alloc | apply pw_below_drewN | apply below_drew1) | exact HB.out)⟩⟩
                          · replace c25 := Bool.eq_false_iff.mpr c25
                            subst c25
                            have H1 : (if x11_3 = t255 then (some false) else (conclavelaw03_HeapCommonLow.l0 kj20 a0 a1 a2 t255 (wrap64 (x11_3 + 1)))) = some r := by rw [if_neg (show ¬ (false = true) by decide)] at H; exact H
                            clear H
                            have H := H1
                            clear H1
                            by_cases c30 : x11_3 = t255
                            · rw [if_pos c30] at H
                              have c30b0 : (x11_3 == t255) = true := beq_iff_eq.mpr c30
                              have c30b1 : (x11_3 != t255) = false := bne_eq_false_iff_eq.mpr c30
                              clear c30
                              obtain rfl := Option.some.inj H
                              go_wp2
                              go_ret
                              exact ⟨by first | rfl | (simp [errW_none, errW_some] <;> rfl) | (simp [*, errW_none, errW_some] <;> rfl), by repeat (first | (with_reducible first | exact HB.out | apply below_alloc | apply pw_below_drewN | apply below_drew1) | exact HB.out)⟩
                            · rw [if_neg c30] at H
                              have c30b0 : (x11_3 == t255) = false := beq_eq_false_iff_ne.mpr c30
                              have c30b1 : (x11_3 != t255) = true := bne_iff_ne.mpr c30
                              have H' := Aside0.mk H
                              clear H
                              go_wp2
                              go_roundg kj20
                              case measure => have := HJ5.out; have := HJ15.out; have := HK3.out; have := HJ20.out; omega
                              case rel => exact ⟨(wrap64 (x11_3 + 1)), (by first | rfl | (simp; done) | (simp [*]; done)), H', ⟨by have := HJ5.out; have := HJ15.out; have := HK3.out; have := HJ20.out; omega⟩, ⟨by repeat (first | (with_reducible first | exact HB.out | apply below_alloc | apply pw_below_drewN | apply below_drew1) | exact HB.out)⟩⟩
                    · rw [if_neg c20] at H
                      have c20b0 : decide (x11_3 < (wrap64 ((wrap64 (2 * a2)) - 1))) = false := decide_eq_false c20
                      clear c20
                      obtain rfl := Option.some.inj H
                      go_wp2
                      go_ret
                      exact ⟨by first | rfl | (simp [errW_none, errW_some] <;> rfl) | (simp [*, errW_none, errW_some] <;> rfl), by repeat (first | (with_reducible first | exact HB.out | apply below_alloc | apply pw_below_drewN | apply below_drew1) | exact HB.out)⟩
  · replace c5 := Bool.eq_false_iff.mpr c5
    subst c5
    have H1 : (some false) = some r := by rw [if_neg (show ¬ (false = true) by decide)] at H; exact H
    clear H
    have H := H1
    clear H1
    obtain rfl := Option.some.inj H
    go_enter Tryd.func8, Tryd.ntmps8
    go_wp2_with (first | ((with_reducible refine gate_callee (f := 9) rfl ?_); refine goesL_ (some 13) rfl rfl Tryd.func9 (by kernel_rfl) rfl #[] rfl (by (try simp only [List.map_toArray, List.map_cons, List.map_nil]); first | done | rfl | (simp only [List.length_drop, List.length_take]; rfl)) ?_; (with_reducible refine (conclavelaw03_anchor.calls (hrG := ?sideG) k  false _ A4.out).mono ?_); (case sideG => (first | exact HRG.out | exact TabG.below HRG.out (by repeat (first | (with_reducible first | exact HB.out | apply below_alloc | apply pw_below_drewN | apply below_drew1) | exact HB.out | exact Below.refl _ _)))); rintro e w31 ⟨rfl, hb⟩; refine ⟨_, rfl, ?_⟩; have n0_ := Aside0.mk (below_step (by repeat (first | (with_reducible first | exact HB.out | apply below_alloc | apply pw_below_drewN | apply below_drew1) | exact HB.out)) hb); clear HB; have HB := n0_; clear n0_; (try clear hb); (try clear hb2); (try clear hk); (try clear hi)))
    go_ret
    exact ⟨by first | rfl | (simp [errW_none, errW_some] <;> rfl) | (simp [*, errW_none, errW_some] <;> rfl), by repeat (first | (with_reducible first | exact HB.out | apply below_alloc | apply pw_below_drewN | apply below_drew1) | exact HB.out)⟩

/-- THE ONE PURE STATEMENT of conclavelaw03_HeapCommonLow: yours. -/
def conclavelaw03_HeapCommonLow.Pure : Prop := ∀ (a0 : Int) (a1 : Int) (a2 : Int), (Lit.int .i64 a0).wf = true → (Lit.int .i64 a1).wf = true → (Lit.int .i64 a2).wf = true → ∃ k, conclavelaw03_HeapCommonLow.f k a0 a1 a2 = some true
theorem conclavelaw03_HeapCommonLow.walk (P : conclavelaw03_HeapCommonLow.Pure) (a0 : Int) (a1 : Int) (a2 : Int) (w : World) (hrG : TabG w) (w0 : (Lit.int .i64 a0).wf = true) (w1 : (Lit.int .i64 a1).wf = true) (w2 : (Lit.int .i64 a2).wf = true) :
    Calls Tryd.prog 8 #[.int .i64 a0, .int .i64 a1, .int .i64 a2] w fun e w' => e = .returned (.bool true) ∧ Below w.heap.size w w' := by
  obtain ⟨k, h⟩ := P a0 a1 a2 w0 w1 w2
  refine (conclavelaw03_HeapCommonLow.calls (hrG := hrG) k a0 a1 a2 true w h).mono ?_
  rintro e w' ⟨rfl, hd⟩
  exact ⟨rfl, hd⟩

end Go.Proofs.YtmioejkhhcjfpaaDoor.PHe
