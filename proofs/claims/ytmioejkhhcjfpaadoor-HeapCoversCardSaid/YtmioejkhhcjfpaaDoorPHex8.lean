-- Written by a program of this session over the translation.
import Derived.Test.YtmioejkhhcjfpaaDoorPHex0
import Derived.Test.YtmioejkhhcjfpaaDoorPHex1
import Derived.Test.YtmioejkhhcjfpaaDoorPHex2
import Derived.Test.YtmioejkhhcjfpaaDoorPHex6
namespace Go.Proofs.YtmioejkhhcjfpaaDoor.PHe
open Go.RowKit Go.Proofs.YtmioejkhhcjfpaaDoorW.PrintWords Go.Proofs.YtmioejkhhcjfpaaDoorW.PrintLast Go.Proofs.YtmioejkhhcjfpaaDoorW.PrintMore
attribute [local go_sem] max2_int min2_int max_two min_two max_three min_three max_four min_four   -- for this text's walks alone
set_option linter.unusedVariables false
set_option linter.unusedSimpArgs false

/-! ### conclavelaw03_HeapCovers: function 7 -/
mutual
def conclavelaw03_HeapCovers.j0 : Nat → Int → Int → Bool → Option (Bool)
  | 0, _, _, _ => none
  | k + 1, x0, x1, x28 => if x28 = true then (some true) else ((heap_Copath.f (wrap64 (2 * x0)) x1).bind fun bt240 => ((heap_Path.f (wrap64 (2 * x0)) x1).bind fun bt244 => (if bt240.2 = 0 then (if bt244.2 = 0 then (conclavelaw03_HeapCovers.j1 k x0 x1 bt240.1 bt244.1 ((bt240.1.length : Int) != (bt244.1.length : Int))) else (conclavelaw03_HeapCovers.j1 k x0 x1 bt240.1 bt244.1 true)) else (conclavelaw03_HeapCovers.j1 k x0 x1 bt240.1 bt244.1 true))))
def conclavelaw03_HeapCovers.j1 : Nat → Int → Int → List Int → List Int → Bool → Option (Bool)
  | 0, _, _, _, _, _ => none
  | k + 1, x0, x1, x5, x7, x55 => if x55 = true then (some false) else (conclavelaw03_HeapCovers.l0 k x0 x1 x5 x7 0)
def conclavelaw03_HeapCovers.l0 : Nat → Int → Int → List Int → List Int → Int → Option (Bool)
  | 0, _, _, _, _, _ => none
  | k + 1, x0, x1, x5, x7, x9 => if x9 < x1 then (conclavelaw03_HeapCovers.l1 k x0 x1 x5 x7 x9 0 x5 (x5.length : Int) 0) else (some true)
def conclavelaw03_HeapCovers.l1 : Nat → Int → Int → List Int → List Int → Int → Int → List Int → Int → Int → Option (Bool)
  | 0, _, _, _, _, _, _, _, _, _ => none
  | k + 1, x0, x1, x5, x7, x9, x10, x61, x62, x63 => if x63 < x62 then (if 0 ≤ x63 then (if x63 < (x61.length : Int) then ((heap_Under.f k (wrap64 (2 * x9)) (rd x61 x63) x1).bind fun t249 => (if t249 = true then ((heap_Common.f k x0 x9 x1).bind fun bt250 => (if bt250.2 = 0 then (if x63 < (x7.length : Int) then (if bt250.1 = (rd x7 x63) then (conclavelaw03_HeapCovers.l1 k x0 x1 x5 x7 x9 (wrap64 (x10 + 1)) x61 x62 (wrap64 (x63 + 1))) else (some false)) else (none)) else (some false))) else (conclavelaw03_HeapCovers.l1 k x0 x1 x5 x7 x9 x10 x61 x62 (wrap64 (x63 + 1))))) else (none)) else (none)) else (if x9 = x0 then (if x10 = 0 then (conclavelaw03_HeapCovers.l0 k x0 x1 x5 x7 (wrap64 (x9 + 1))) else (some false)) else (if x10 = 1 then (conclavelaw03_HeapCovers.l0 k x0 x1 x5 x7 (wrap64 (x9 + 1))) else (some false)))
end
def conclavelaw03_HeapCovers.f (k : Nat) (a0 : Int) (a1 : Int) : Option (Bool) := (conclavelaw03_anchor.f k).bind fun t238 => (if t238 = true then ((conclaveref03_Right.f a1).bind fun t239 => (if t239 = true then (if a0 < 0 then (conclavelaw03_HeapCovers.j0 k a0 a1 true) else (conclavelaw03_HeapCovers.j0 k a0 a1 (decide (a0 ≥ a1)))) else (conclavelaw03_HeapCovers.j0 k a0 a1 true))) else (some false))
theorem conclavelaw03_HeapCovers.mono_l : ∀ k, (∀ y0 y1 y2, LeO (conclavelaw03_HeapCovers.j0 k y0 y1 y2) (conclavelaw03_HeapCovers.j0 (k + 1) y0 y1 y2)) ∧ (∀ y0 y1 y2 y3 y4, LeO (conclavelaw03_HeapCovers.j1 k y0 y1 y2 y3 y4) (conclavelaw03_HeapCovers.j1 (k + 1) y0 y1 y2 y3 y4)) ∧ (∀ y0 y1 y2 y3 y4, LeO (conclavelaw03_HeapCovers.l0 k y0 y1 y2 y3 y4) (conclavelaw03_HeapCovers.l0 (k + 1) y0 y1 y2 y3 y4)) ∧ (∀ y0 y1 y2 y3 y4 y5 y6 y7 y8, LeO (conclavelaw03_HeapCovers.l1 k y0 y1 y2 y3 y4 y5 y6 y7 y8) (conclavelaw03_HeapCovers.l1 (k + 1) y0 y1 y2 y3 y4 y5 y6 y7 y8))
  | 0 => ⟨fun _ _ _ r h => by simp [conclavelaw03_HeapCovers.j0] at h, fun _ _ _ _ _ r h => by simp [conclavelaw03_HeapCovers.j1] at h, fun _ _ _ _ _ r h => by simp [conclavelaw03_HeapCovers.l0] at h, fun _ _ _ _ _ _ _ _ _ r h => by simp [conclavelaw03_HeapCovers.l1] at h⟩
  | k + 1 => by
    obtain ⟨ih0, ih1, ih2, ih3⟩ := conclavelaw03_HeapCovers.mono_l k
    refine ⟨?_, ?_, ?_, ?_⟩
    · intro y0 y1 y2
      unfold conclavelaw03_HeapCovers.j0
      repeat' first
      | (with_reducible exact ih0 _ _ _)
      | (with_reducible exact ih1 _ _ _ _ _)
      | (with_reducible exact ih2 _ _ _ _ _)
      | (with_reducible exact ih3 _ _ _ _ _ _ _ _ _)
      | (with_reducible exact conclavelaw03_anchor.mono _)
      | (with_reducible exact heap_Common.mono _ _ _ _)
      | (with_reducible exact heap_Under.mono _ _ _ _)
      | (with_reducible exact LeO.refl _)
      | (with_reducible exact LeO.none _)
      | (with_reducible refine LeO.ite ?_ ?_)
      | (with_reducible refine LeO.bind ?_ (fun _ => ?_))
      | exact ih0 _ _ _
      | exact ih1 _ _ _ _ _
      | exact ih2 _ _ _ _ _
      | exact ih3 _ _ _ _ _ _ _ _ _
      | exact conclavelaw03_anchor.mono _
      | exact heap_Common.mono _ _ _ _
      | exact heap_Under.mono _ _ _ _
      | exact LeO.none _
      | refine LeO.ite ?_ ?_
      | refine LeO.bind ?_ (fun _ => ?_)
    · intro y0 y1 y2 y3 y4
      unfold conclavelaw03_HeapCovers.j1
      repeat' first
      | (with_reducible exact ih0 _ _ _)
      | (with_reducible exact ih1 _ _ _ _ _)
      | (with_reducible exact ih2 _ _ _ _ _)
      | (with_reducible exact ih3 _ _ _ _ _ _ _ _ _)
      | (with_reducible exact conclavelaw03_anchor.mono _)
      | (with_reducible exact heap_Common.mono _ _ _ _)
      | (with_reducible exact heap_Under.mono _ _ _ _)
      | (with_reducible exact LeO.refl _)
      | (with_reducible exact LeO.none _)
      | (with_reducible refine LeO.ite ?_ ?_)
      | (with_reducible refine LeO.bind ?_ (fun _ => ?_))
      | exact ih0 _ _ _
      | exact ih1 _ _ _ _ _
      | exact ih2 _ _ _ _ _
      | exact ih3 _ _ _ _ _ _ _ _ _
      | exact conclavelaw03_anchor.mono _
      | exact heap_Common.mono _ _ _ _
      | exact heap_Under.mono _ _ _ _
      | exact LeO.none _
      | refine LeO.ite ?_ ?_
      | refine LeO.bind ?_ (fun _ => ?_)
    · intro y0 y1 y2 y3 y4
      unfold conclavelaw03_HeapCovers.l0
      repeat' first
      | (with_reducible exact ih0 _ _ _)
      | (with_reducible exact ih1 _ _ _ _ _)
      | (with_reducible exact ih2 _ _ _ _ _)
      | (with_reducible exact ih3 _ _ _ _ _ _ _ _ _)
      | (with_reducible exact conclavelaw03_anchor.mono _)
      | (with_reducible exact heap_Common.mono _ _ _ _)
      | (with_reducible exact heap_Under.mono _ _ _ _)
      | (with_reducible exact LeO.refl _)
      | (with_reducible exact LeO.none _)
      | (with_reducible refine LeO.ite ?_ ?_)
      | (with_reducible refine LeO.bind ?_ (fun _ => ?_))
      | exact ih0 _ _ _
      | exact ih1 _ _ _ _ _
      | exact ih2 _ _ _ _ _
      | exact ih3 _ _ _ _ _ _ _ _ _
      | exact conclavelaw03_anchor.mono _
      | exact heap_Common.mono _ _ _ _
      | exact heap_Under.mono _ _ _ _
      | exact LeO.none _
      | refine LeO.ite ?_ ?_
      | refine LeO.bind ?_ (fun _ => ?_)
    · intro y0 y1 y2 y3 y4 y5 y6 y7 y8
      unfold conclavelaw03_HeapCovers.l1
      repeat' first
      | (with_reducible exact ih0 _ _ _)
      | (with_reducible exact ih1 _ _ _ _ _)
      | (with_reducible exact ih2 _ _ _ _ _)
      | (with_reducible exact ih3 _ _ _ _ _ _ _ _ _)
      | (with_reducible exact conclavelaw03_anchor.mono _)
      | (with_reducible exact heap_Common.mono _ _ _ _)
      | (with_reducible exact heap_Under.mono _ _ _ _)
      | (with_reducible exact LeO.refl _)
      | (with_reducible exact LeO.none _)
      | (with_reducible refine LeO.ite ?_ ?_)
      | (with_reducible refine LeO.bind ?_ (fun _ => ?_))
      | exact ih0 _ _ _
      | exact ih1 _ _ _ _ _
      | exact ih2 _ _ _ _ _
      | exact ih3 _ _ _ _ _ _ _ _ _
      | exact conclavelaw03_anchor.mono _
      | exact heap_Common.mono _ _ _ _
      | exact heap_Under.mono _ _ _ _
      | exact LeO.none _
      | refine LeO.ite ?_ ?_
      | refine LeO.bind ?_ (fun _ => ?_)
theorem conclavelaw03_HeapCovers.mono : ∀ a0 a1 k, LeO (conclavelaw03_HeapCovers.f k a0 a1) (conclavelaw03_HeapCovers.f (k + 1) a0 a1) := by
  intro a0 a1 k
  obtain ⟨ih0, ih1, ih2, ih3⟩ := conclavelaw03_HeapCovers.mono_l k
  unfold conclavelaw03_HeapCovers.f
  repeat' first
      | (with_reducible exact ih0 _ _ _)
      | (with_reducible exact ih1 _ _ _ _ _)
      | (with_reducible exact ih2 _ _ _ _ _)
      | (with_reducible exact ih3 _ _ _ _ _ _ _ _ _)
      | (with_reducible exact conclavelaw03_anchor.mono _)
      | (with_reducible exact heap_Common.mono _ _ _ _)
      | (with_reducible exact heap_Under.mono _ _ _ _)
      | (with_reducible exact LeO.refl _)
      | (with_reducible exact LeO.none _)
      | (with_reducible refine LeO.ite ?_ ?_)
      | (with_reducible refine LeO.bind ?_ (fun _ => ?_))
      | exact ih0 _ _ _
      | exact ih1 _ _ _ _ _
      | exact ih2 _ _ _ _ _
      | exact ih3 _ _ _ _ _ _ _ _ _
      | exact conclavelaw03_anchor.mono _
      | exact heap_Common.mono _ _ _ _
      | exact heap_Under.mono _ _ _ _
      | exact LeO.none _
      | refine LeO.ite ?_ ?_
      | refine LeO.bind ?_ (fun _ => ?_)
set_option maxHeartbeats 8000000 in
set_option maxRecDepth 100000 in
theorem conclavelaw03_HeapCovers.calls (k : Nat) (a0 : Int) (a1 : Int) (r : Bool) (w : World) (hrG : TabG w) (h : conclavelaw03_HeapCovers.f k a0 a1 = some r) :
    Calls Tryd.prog 7 #[.int .i64 a0, .int .i64 a1] w fun e w' => e = .returned (.bool r) ∧ Below w.heap.size w w' := by
  have HRG := Aside0.mk hrG
  clear hrG
  have HB := Aside0.mk (Below.refl w.heap.size w)
  have H : ((conclavelaw03_anchor.f k).bind fun t238 => (if t238 = true then ((conclaveref03_Right.f a1).bind fun t239 => (if t239 = true then (if a0 < 0 then (conclavelaw03_HeapCovers.j0 k a0 a1 true) else (conclavelaw03_HeapCovers.j0 k a0 a1 (decide (a0 ≥ a1)))) else (conclavelaw03_HeapCovers.j0 k a0 a1 true))) else (some false))) = some r := h
  clear h
  replace H := Option.bind_eq_some_iff.mp H
  obtain ⟨t238, A30, H⟩ := H
  replace H : (if t238 = true then ((conclaveref03_Right.f a1).bind fun t239 => (if t239 = true then (if a0 < 0 then (conclavelaw03_HeapCovers.j0 k a0 a1 true) else (conclavelaw03_HeapCovers.j0 k a0 a1 (decide (a0 ≥ a1)))) else (conclavelaw03_HeapCovers.j0 k a0 a1 true))) else (some false)) = some r := H
  have A3 := Aside0.mk A30
  clear A30
  by_cases c4 : t238 = true
  · subst c4
    have H1 : ((conclaveref03_Right.f a1).bind fun t239 => (if t239 = true then (if a0 < 0 then (conclavelaw03_HeapCovers.j0 k a0 a1 true) else (conclavelaw03_HeapCovers.j0 k a0 a1 (decide (a0 ≥ a1)))) else (conclavelaw03_HeapCovers.j0 k a0 a1 true))) = some r := by rw [if_pos rfl] at H; exact H
    clear H
    have H := H1
    clear H1
    have HC5 := Aside0.mk H
    clear H
    go_enter Tryd.func7, Tryd.ntmps7
    go_upto_region 3 with (first | ((with_reducible refine gate_callee (f := 9) rfl ?_); refine goesL_ (some 15) rfl rfl Tryd.func9 (by kernel_rfl) rfl #[] rfl (by (try simp only [List.map_toArray, List.map_cons, List.map_nil]); first | done | rfl | (simp only [List.length_drop, List.length_take]; rfl)) ?_; (with_reducible refine (conclavelaw03_anchor.calls (hrG := ?sideG) k  true _ A3.out).mono ?_); (case sideG => (first | exact HRG.out | exact TabG.below HRG.out (by repeat (first | (with_reducible first | exact HB.out | apply below_alloc | apply pw_below_drewN | apply below_drew1) | exact HB.out | exact Below.refl _ _)))); rintro e w6 ⟨rfl, hb⟩; refine ⟨_, rfl, ?_⟩; have n0_ := Aside0.mk (below_step (by repeat (first | (with_reducible first | exact HB.out | apply below_alloc | apply pw_below_drewN | apply below_drew1) | exact HB.out)) hb); clear HB; have HB := n0_; clear n0_; (try clear hb); (try clear hb2); (try clear hk); (try clear hi)))
    (try simp only [Act.put, List.setIfInBounds_toArray, List.set_cons_zero, List.set_cons_succ])
    go_cut [28] (fun v28 wc => ∃ (kq : Nat) (x28_4 : Bool), v28 = .bool x28_4 ∧ Aside0 (conclavelaw03_HeapCovers.j0 kq a0 a1 x28_4 = some r) ∧ Aside0 (kq ≤ k) ∧ Aside0 (Below w.heap.size w wc))
    case first =>
      have H := HC5.out
      clear HC5
      replace H := Option.bind_eq_some_iff.mp H
      obtain ⟨t239, A70, H⟩ := H
      replace H : (if t239 = true then (if a0 < 0 then (conclavelaw03_HeapCovers.j0 k a0 a1 true) else (conclavelaw03_HeapCovers.j0 k a0 a1 (decide (a0 ≥ a1)))) else (conclavelaw03_HeapCovers.j0 k a0 a1 true)) = some r := H
      have A7 := Aside0.mk A70
      clear A70
      by_cases c8 : t239 = true
      · subst c8
        have H1 : (if a0 < 0 then (conclavelaw03_HeapCovers.j0 k a0 a1 true) else (conclavelaw03_HeapCovers.j0 k a0 a1 (decide (a0 ≥ a1)))) = some r := by rw [if_pos rfl] at H; exact H
        clear H
        have H := H1
        clear H1
        by_cases c9 : a0 < 0
        · rw [if_pos c9] at H
          have c9b0 : decide (a0 < 0) = true := decide_eq_true c9
          clear c9
          (first | rw [c9b0] | (simp only [i64_w, i32_w]; rw [c9b0]) | skip)
          have H' := Aside0.mk H
          clear H
          go_wp2_with (first | ((with_reducible refine gate_callee (f := 15) rfl ?_); refine goesL_ (some 18) rfl rfl Tryd.func15 (by kernel_rfl) rfl #[.int .i64 a1] rfl (by (try simp only [List.map_toArray, List.map_cons, List.map_nil]); first | done | rfl | (simp only [List.length_drop, List.length_take]; rfl)) ?_; (with_reducible refine (conclaveref03_Right.calls a1 true _ A7.out).mono ?_); rintro e w' ⟨rfl, ⟨nd, rfl⟩⟩; refine ⟨_, rfl, ?_⟩))
          go_meet
          case rel => exact ⟨_, (true), (by first | rfl | (simp; done) | (simp [*]; done)), H', ⟨by first | omega | exact Nat.le_refl _⟩, ⟨by repeat (first | (with_reducible first | exact HB.out | apply below_alloc | apply pw_below_drewN | apply below_drew1) | exact HB.out)⟩⟩
        · rw [if_neg c9] at H
          have c9b0 : decide (a0 < 0) = false := decide_eq_false c9
          clear c9
          (first | rw [c9b0] | (simp only [i64_w, i32_w]; rw [c9b0]) | skip)
          have H' := Aside0.mk H
          clear H
          go_wp2_with (first | ((with_reducible refine gate_callee (f := 15) rfl ?_); refine goesL_ (some 18) rfl rfl Tryd.func15 (by kernel_rfl) rfl #[.int .i64 a1] rfl (by (try simp only [List.map_toArray, List.map_cons, List.map_nil]); first | done | rfl | (simp only [List.length_drop, List.length_take]; rfl)) ?_; (with_reducible refine (conclaveref03_Right.calls a1 true _ A7.out).mono ?_); rintro e w' ⟨rfl, ⟨nd, rfl⟩⟩; refine ⟨_, rfl, ?_⟩))
          go_meet
          case rel => exact ⟨_, (decide (a0 ≥ a1)), (by first | rfl | (simp; done) | (simp [*]; done)), H', ⟨by first | omega | exact Nat.le_refl _⟩, ⟨by repeat (first | (with_reducible first | exact HB.out | apply below_alloc | apply pw_below_drewN | apply below_drew1) | exact HB.out)⟩⟩
      · replace c8 := Bool.eq_false_iff.mpr c8
        subst c8
        have H1 : (conclavelaw03_HeapCovers.j0 k a0 a1 true) = some r := by rw [if_neg (show ¬ (false = true) by decide)] at H; exact H
        clear H
        have H := H1
        clear H1
        have H' := Aside0.mk H
        clear H
        go_wp2_with (first | ((with_reducible refine gate_callee (f := 15) rfl ?_); refine goesL_ (some 18) rfl rfl Tryd.func15 (by kernel_rfl) rfl #[.int .i64 a1] rfl (by (try simp only [List.map_toArray, List.map_cons, List.map_nil]); first | done | rfl | (simp only [List.length_drop, List.length_take]; rfl)) ?_; (with_reducible refine (conclaveref03_Right.calls a1 false _ A7.out).mono ?_); rintro e w' ⟨rfl, ⟨nd, rfl⟩⟩; refine ⟨_, rfl, ?_⟩))
        go_meet
        case rel => exact ⟨_, (true), (by first | rfl | (simp; done) | (simp [*]; done)), H', ⟨by first | omega | exact Nat.le_refl _⟩, ⟨by repeat (first | (with_reducible first | exact HB.out | apply below_alloc | apply pw_below_drewN | apply below_drew1) | exact HB.out)⟩⟩
    case rest =>
      clear HC5
      try clear c1
      try clear p2
      try clear c4
      try clear c7
      try clear c8
      try clear c9
      try clear c9b0
      obtain ⟨kq, x28_4, rfl, HA, HJ4, HB⟩ := hcut
      cases kq with
      | zero => exact absurd HA.out (by simp [conclavelaw03_HeapCovers.j0])
      | succ kj4 =>
        have H := HA.out
        clear HA
        simp only [conclavelaw03_HeapCovers.j0] at H
        by_cases c10 : x28_4 = true
        · subst c10
          have H1 : (some true) = some r := by rw [if_pos rfl] at H; exact H
          clear H
          have H := H1
          clear H1
          obtain rfl := Option.some.inj H
          go_wp2
          go_ret
          exact ⟨by first | rfl | (simp [errW_none, errW_some] <;> rfl) | (simp [*, errW_none, errW_some] <;> rfl), by repeat (first | (with_reducible first | exact HB.out | apply below_alloc | apply pw_below_drewN | apply below_drew1) | exact HB.out)⟩
        · replace c10 := Bool.eq_false_iff.mpr c10
          subst c10
          have H1 : ((heap_Copath.f (wrap64 (2 * a0)) a1).bind fun bt240 => ((heap_Path.f (wrap64 (2 * a0)) a1).bind fun bt244 => (if bt240.2 = 0 then (if bt244.2 = 0 then (conclavelaw03_HeapCovers.j1 kj4 a0 a1 bt240.1 bt244.1 ((bt240.1.length : Int) != (bt244.1.length : Int))) else (conclavelaw03_HeapCovers.j1 kj4 a0 a1 bt240.1 bt244.1 true)) else (conclavelaw03_HeapCovers.j1 kj4 a0 a1 bt240.1 bt244.1 true)))) = some r := by rw [if_neg (show ¬ (false = true) by decide)] at H; exact H
          clear H
          have H := H1
          clear H1
          replace H := Option.bind_eq_some_iff.mp H
          obtain ⟨⟨t240, t241⟩, A110, H⟩ := H
          replace H : ((heap_Path.f (wrap64 (2 * a0)) a1).bind fun bt244 => (if t241 = 0 then (if bt244.2 = 0 then (conclavelaw03_HeapCovers.j1 kj4 a0 a1 t240 bt244.1 ((t240.length : Int) != (bt244.1.length : Int))) else (conclavelaw03_HeapCovers.j1 kj4 a0 a1 t240 bt244.1 true)) else (conclavelaw03_HeapCovers.j1 kj4 a0 a1 t240 bt244.1 true))) = some r := H
          have A11 := Aside0.mk A110
          clear A110
          replace H := Option.bind_eq_some_iff.mp H
          obtain ⟨⟨t244, t245⟩, A120, H⟩ := H
          replace H : (if t241 = 0 then (if t245 = 0 then (conclavelaw03_HeapCovers.j1 kj4 a0 a1 t240 t244 ((t240.length : Int) != (t244.length : Int))) else (conclavelaw03_HeapCovers.j1 kj4 a0 a1 t240 t244 true)) else (conclavelaw03_HeapCovers.j1 kj4 a0 a1 t240 t244 true)) = some r := H
          have A12 := Aside0.mk A120
          clear A120
          have HC13 := Aside0.mk H
          clear H
          go_upto_region 7 with (first | ((with_reducible refine gate_callee (f := 23) rfl ?_); refine goesL_ (some 33) rfl rfl Tryd.func23 (by kernel_rfl) rfl #[.int .i64 (wrap64 (2 * a0)), .int .i64 a1] rfl (by (try simp only [List.map_toArray, List.map_cons, List.map_nil]); first | done | rfl | (simp only [List.length_drop, List.length_take]; rfl)) ?_; (with_reducible refine (heap_Copath.calls (hrG := ?sideG) (wrap64 (2 * a0)) a1 t240 t241 _ A11.out).mono ?_); (case sideG => (first | exact HRG.out | exact TabG.below HRG.out (by repeat (first | (with_reducible first | exact HB.out | apply below_alloc | apply pw_below_drewN | apply below_drew1) | exact HB.out | exact Below.refl _ _)))); rintro e w14 ⟨v242, rfl, ho0, hb⟩; refine ⟨_, rfl, ?_⟩; have n0_ := Aside0.mk (Kd.R_lower ho0 (below_size (by repeat (first | (with_reducible first | exact HB.out | apply below_alloc | apply pw_below_drewN | apply below_drew1) | exact HB.out)))); have n1_ := Aside0.mk (below_step (by repeat (first | (with_reducible first | exact HB.out | apply below_alloc | apply pw_below_drewN | apply below_drew1) | exact HB.out)) hb); clear HB; have HO243 := n0_; have HB := n1_; clear n0_ n1_; (try clear hb); (try clear hb2); (try clear hk); (try clear hi); (try clear ho0)) | ((with_reducible refine gate_callee (f := 10) rfl ?_); refine goesL_ (some 40) rfl rfl Tryd.func10 (by kernel_rfl) rfl #[.int .i64 (wrap64 (2 * a0)), .int .i64 a1] rfl (by (try simp only [List.map_toArray, List.map_cons, List.map_nil]); first | done | rfl | (simp only [List.length_drop, List.length_take]; rfl)) ?_; (with_reducible refine (heap_Path.calls (hrG := ?sideG) (wrap64 (2 * a0)) a1 t244 t245 _ A12.out).mono ?_); (case sideG => (first | exact HRG.out | exact TabG.below HRG.out (by repeat (first | (with_reducible first | exact HB.out | apply below_alloc | apply pw_below_drewN | apply below_drew1) | exact HB.out | exact Below.refl _ _)))); rintro e w15 ⟨v246, rfl, ho0, hb⟩; refine ⟨_, rfl, ?_⟩; have n0_ := Aside0.mk (Kd.R_elder' (by (with_reducible repeat (first | apply Kd.R_alloc | apply Kd.R_drewN | apply Kd.R_drew)); exact HO243.out) (Kd.R_base ho0) hb); have n1_ := Aside0.mk (Kd.R_lower (Kd.R_new' ho0 (Kd.R_lt (by (with_reducible repeat (first | apply Kd.R_alloc | apply Kd.R_drewN | apply Kd.R_drew)); exact HO243.out))) (below_size (by repeat (first | (with_reducible first | exact HB.out | apply below_alloc | apply pw_below_drewN | apply below_drew1) | exact HB.out)))); have n2_ := Aside0.mk (below_step (by repeat (first | (with_reducible first | exact HB.out | apply below_alloc | apply pw_below_drewN | apply below_drew1) | exact HB.out)) hb); clear HO243; clear HB; have HO243 := n0_; have HO247 := n1_; have HB := n2_; clear n0_ n1_ n2_; (try clear hb); (try clear hb2); (try clear hk); (try clear hi); (try clear ho0)))
          (try simp only [Act.put, List.setIfInBounds_toArray, List.set_cons_zero, List.set_cons_succ])
          go_cut [55] (fun v55 wc => ∃ (kq : Nat) (x55_12 : Bool), v55 = .bool x55_12 ∧ Aside0 (conclavelaw03_HeapCovers.j1 kq a0 a1 t240 t244 x55_12 = some r) ∧ Aside0 (kq ≤ kj4) ∧ Aside0 (Kd.R (Kd.int .i64) 3 wc w.heap.size (fun k_ => some k_ ≠ (v246 : Value).ownBlock) v242 t240) ∧ Aside0 (Kd.R (Kd.int .i64) 3 wc w.heap.size (fun k_ => some k_ ≠ (v242 : Value).ownBlock) v246 t244) ∧ Aside0 (Below w.heap.size w wc))
          case first =>
            have H := HC13.out
            clear HC13
            by_cases c16 : t241 = 0
            · rw [if_pos c16] at H
              have c16b0 : (t241 == 0) = true := beq_iff_eq.mpr c16
              have c16b1 : (t241 != 0) = false := bne_eq_false_iff_eq.mpr c16
              clear c16
              (first | rw [c16b0] | (simp only [i64_w, i32_w]; rw [c16b0]) | skip)
              by_cases c17 : t245 = 0
              · rw [if_pos c17] at H
                have c17b0 : (t245 == 0) = true := beq_iff_eq.mpr c17
                have c17b1 : (t245 != 0) = false := bne_eq_false_iff_eq.mpr c17
                clear c17
                have H' := Aside0.mk H
                clear H
                obtain ⟨Ao18, co18, eo18⟩ := Kd.R_slice HO243.out
                subst eo18
                obtain ⟨Ao19, co19, eo19⟩ := Kd.R_slice HO247.out
                subst eo19
                go_wp2
                go_meet
                case rel => exact ⟨_, (((t240.length : Int) != (t244.length : Int))), (by first | rfl | (simp; done) | (simp [*]; done)), H', ⟨by have := HJ4.out; first | omega | exact Nat.le_refl _⟩, ⟨by (with_reducible repeat (first | apply Kd.R_alloc | apply Kd.R_drewN | apply Kd.R_drew)); exact Kd.R_mono HO243.out (fun _ hk => hk.2)⟩, ⟨by (with_reducible repeat (first | apply Kd.R_alloc | apply Kd.R_drewN | apply Kd.R_drew)); exact Kd.R_mono HO247.out (fun _ hk => hk.2)⟩, ⟨by repeat (first | (with_reducible first | exact HB.out | apply below_alloc | apply pw_below_drewN | apply below_drew1) | exact HB.out)⟩⟩
              · rw [if_neg c17] at H
                have c17b0 : (t245 == 0) = false := beq_eq_false_iff_ne.mpr c17
                have c17b1 : (t245 != 0) = true := bne_iff_ne.mpr c17
                have H' := Aside0.mk H
                clear H
                go_wp2
                go_meet
                case rel => exact ⟨_, (true), (by first | rfl | (simp; done) | (simp [*]; done)), H', ⟨by have := HJ4.out; first | omega | exact Nat.le_refl _⟩, ⟨by (with_reducible repeat (first | apply Kd.R_alloc | apply Kd.R_drewN | apply Kd.R_drew)); exact Kd.R_mono HO243.out (fun _ hk => hk.2)⟩, ⟨by (with_reducible repeat (first | apply Kd.R_alloc | apply Kd.R_drewN | apply Kd.R_drew)); exact Kd.R_mono HO247.out (fun _ hk => hk.2)⟩, ⟨by repeat (first | (with_reducible first | exact HB.out | apply below_alloc | apply pw_below_drewN | apply below_drew1) | exact HB.out)⟩⟩
            · rw [if_neg c16] at H
              have c16b0 : (t241 == 0) = false := beq_eq_false_iff_ne.mpr c16
              have c16b1 : (t241 != 0) = true := bne_iff_ne.mpr c16
              (first | rw [c16b0] | (simp only [i64_w, i32_w]; rw [c16b0]) | skip)
              have H' := Aside0.mk H
              clear H
              go_wp2
              go_meet
              case rel => exact ⟨_, (true), (by first | rfl | (simp; done) | (simp [*]; done)), H', ⟨by have := HJ4.out; first | omega | exact Nat.le_refl _⟩, ⟨by (with_reducible repeat (first | apply Kd.R_alloc | apply Kd.R_drewN | apply Kd.R_drew)); exact Kd.R_mono HO243.out (fun _ hk => hk.2)⟩, ⟨by (with_reducible repeat (first | apply Kd.R_alloc | apply Kd.R_drewN | apply Kd.R_drew)); exact Kd.R_mono HO247.out (fun _ hk => hk.2)⟩, ⟨by repeat (first | (with_reducible first | exact HB.out | apply below_alloc | apply pw_below_drewN | apply below_drew1) | exact HB.out)⟩⟩
          case rest =>
            clear HC13
            try clear c1
            try clear c2
            try clear p2
            try clear c4
            try clear p6
            try clear c7
            try clear c8
            try clear c9
            try clear c9b0
            try clear c10
            try clear c15
            try clear c16
            try clear c16b0
            try clear c16b1
            try clear c17
            try clear c17b0
            try clear c17b1
            try clear p2
            obtain ⟨kq, x55_12, rfl, HA, HJ12, HO_5, HO_7, HB⟩ := hcut
            cases kq with
            | zero => exact absurd HA.out (by simp [conclavelaw03_HeapCovers.j1])
            | succ kj12 =>
              have H := HA.out
              clear HA
              simp only [conclavelaw03_HeapCovers.j1] at H
              by_cases c20 : x55_12 = true
              · subst c20
                have H1 : (some false) = some r := by rw [if_pos rfl] at H; exact H
                clear H
                have H := H1
                clear H1
                obtain rfl := Option.some.inj H
                go_wp2
                go_ret
                exact ⟨by first | rfl | (simp [errW_none, errW_some] <;> rfl) | (simp [*, errW_none, errW_some] <;> rfl), by repeat (first | (with_reducible first | exact HB.out | apply below_alloc | apply pw_below_drewN | apply below_drew1) | exact HB.out)⟩
              · replace c20 := Bool.eq_false_iff.mpr c20
                subst c20
                have H1 : (conclavelaw03_HeapCovers.l0 kj12 a0 a1 t240 t244 0) = some r := by rw [if_neg (show ¬ (false = true) by decide)] at H; exact H
                clear H
                have H := H1
                clear H1
                have H' := Aside0.mk H
                clear H
                go_wp2
                go_loopg [9] kj12 (fun kq v9 w' => ∃ (x9_3 : Int), v9 = .int .i64 x9_3 ∧ Aside0 (conclavelaw03_HeapCovers.l0 kq a0 a1 t240 t244 x9_3 = some r) ∧ Aside0 (kq ≤ kj12) ∧ Aside0 (Kd.R (Kd.int .i64) 3 w' w.heap.size (fun k_ => some k_ ≠ (v246 : Value).ownBlock) v242 t240) ∧ Aside0 (Kd.R (Kd.int .i64) 3 w' w.heap.size (fun k_ => some k_ ≠ (v242 : Value).ownBlock) v246 t244) ∧ Aside0 (Below w.heap.size w w'))
                case atStart => exact ⟨(0), (by first | rfl | (simp; done) | (simp [*]; done)), H', ⟨Nat.le_refl _⟩, ⟨by (with_reducible repeat (first | apply Kd.R_alloc | apply Kd.R_drewN | apply Kd.R_drew)); exact HO_5.out⟩, ⟨by (with_reducible repeat (first | apply Kd.R_alloc | apply Kd.R_drewN | apply Kd.R_drew)); exact HO_7.out⟩, ⟨by repeat (first | (with_reducible first | exact HB.out | apply below_alloc | apply pw_below_drewN | apply below_drew1) | exact HB.out)⟩⟩
                case round =>
                  clear H'
                  try clear c1
                  try clear c2
                  try clear p2
                  try clear c4
                  try clear p6
                  try clear c7
                  try clear c8
                  try clear c9
                  try clear c9b0
                  try clear c10
                  try clear c15
                  try clear c16
                  try clear c16b0
                  try clear c16b1
                  try clear c17
                  try clear c17b0
                  try clear c17b1
                  try clear c20
                  try clear p2
                  try clear p6
                  obtain ⟨x9_3, rfl, HA, HK3, HO_5, HO_7, HB⟩ := hrel
                  cases gk with
                  | zero => exact absurd HA.out (by simp [conclavelaw03_HeapCovers.l0])
                  | succ k3 =>
                    have H := HA.out
                    clear HA
                    simp only [conclavelaw03_HeapCovers.l0] at H
                    by_cases c21 : x9_3 < a1
                    · rw [if_pos c21] at H
                      have c21b0 : decide (x9_3 < a1) = true := decide_eq_true c21
                      clear c21
                      have H' := Aside0.mk H
                      clear H
                      obtain ⟨Ao22, co22, eo22⟩ := Kd.R_slice HO_5.out
                      subst eo22
                      go_wp2
                      go_loopg [10, 63] k3 (fun kq v10 v63 w' => ∃ (x10_4 : Int) (x63_4 : Int), v10 = .int .i64 x10_4 ∧ v63 = .int .i64 x63_4 ∧ Aside0 (conclavelaw03_HeapCovers.l1 kq a0 a1 t240 t244 x9_3 x10_4 t240 (t240.length : Int) x63_4 = some r) ∧ Aside0 (kq ≤ k3) ∧ Aside0 (Kd.R (Kd.int .i64) 3 w' w.heap.size (fun k_ => some k_ ≠ (v246 : Value).ownBlock) (.slice Ao22 t240.length co22) t240) ∧ Aside0 (Kd.R (Kd.int .i64) 3 w' w.heap.size (fun k_ => some k_ ≠ ((.slice Ao22 t240.length co22) : Value).ownBlock ∧ some k_ ≠ ((.slice Ao22 t240.length co22) : Value).ownBlock) v246 t244) ∧ Aside0 (Kd.R (Kd.int .i64) 3 w' w.heap.size (fun k_ => some k_ ≠ (v246 : Value).ownBlock) (.slice Ao22 t240.length co22) t240) ∧ Aside0 (Below w.heap.size w w'))
                      case atStart => exact ⟨(0), (0), (by first | rfl | (simp; done) | (simp [*]; done)), (by first | rfl | (simp; done) | (simp [*]; done)), H', ⟨Nat.le_refl _⟩, ⟨by (with_reducible repeat (first | apply Kd.R_alloc | apply Kd.R_drewN | apply Kd.R_drew)); exact HO_5.out⟩, ⟨by (with_reducible repeat (first | apply Kd.R_alloc | apply Kd.R_drewN | apply Kd.R_drew)); exact Kd.R_mono HO_7.out (fun _ hk => ⟨hk, hk⟩)⟩, ⟨by (with_reducible repeat (first | apply Kd.R_alloc | apply Kd.R_drewN | apply Kd.R_drew)); exact HO_5.out⟩, ⟨by repeat (first | (with_reducible first | exact HB.out | apply below_alloc | apply pw_below_drewN | apply below_drew1) | exact HB.out)⟩⟩
                      case round =>
                        clear H'
                        try clear c1
                        try clear c2
                        try clear p2
                        try clear c4
                        try clear p6
                        try clear c7
                        try clear c8
                        try clear c9
                        try clear c9b0
                        try clear c10
                        try clear c15
                        try clear c16
                        try clear c16b0
                        try clear c16b1
                        try clear c17
                        try clear c17b0
                        try clear c17b1
                        try clear c20
                        try clear c21
                        try clear c21b0
                        try clear p2
                        try clear p6
                        obtain ⟨x10_4, x63_4, rfl, rfl, HA, HK4, HO_5, HO_7, HO_61, HB⟩ := hrel
                        cases gk with
                        | zero => exact absurd HA.out (by simp [conclavelaw03_HeapCovers.l1])
                        | succ k4 =>
                          have H := HA.out
                          clear HA
                          simp only [conclavelaw03_HeapCovers.l1] at H
                          by_cases c23 : x63_4 < (t240.length : Int)
                          · rw [if_pos c23] at H
                            have c23b0 : decide (x63_4 < (t240.length : Int)) = true := decide_eq_true c23
                            clear c23
                            by_cases c24 : 0 ≤ x63_4
                            · rw [if_pos c24] at H
                              have c24b0 : decide (0 ≤ x63_4) = true := decide_eq_true c24
                              clear c24
                              by_cases c25 : x63_4 < (t240.length : Int)
                              · rw [if_pos c25] at H
                                have c25b0 : decide (x63_4 < (t240.length : Int)) = true := decide_eq_true c25
                                clear c25
                                replace H := Option.bind_eq_some_iff.mp H
                                obtain ⟨t249, A260, H⟩ := H
                                replace H : (if t249 = true then ((heap_Common.f k4 a0 x9_3 a1).bind fun bt250 => (if bt250.2 = 0 then (if x63_4 < (t244.length : Int) then (if bt250.1 = (rd t244 x63_4) then (conclavelaw03_HeapCovers.l1 k4 a0 a1 t240 t244 x9_3 (wrap64 (x10_4 + 1)) t240 (t240.length : Int) (wrap64 (x63_4 + 1))) else (some false)) else (none)) else (some false))) else (conclavelaw03_HeapCovers.l1 k4 a0 a1 t240 t244 x9_3 x10_4 t240 (t240.length : Int) (wrap64 (x63_4 + 1)))) = some r := H
                                have A26 := Aside0.mk A260
                                clear A260
                                by_cases c27 : t249 = true
                                · subst c27
                                  have H1 : ((heap_Common.f k4 a0 x9_3 a1).bind fun bt250 => (if bt250.2 = 0 then (if x63_4 < (t244.length : Int) then (if bt250.1 = (rd t244 x63_4) then (conclavelaw03_HeapCovers.l1 k4 a0 a1 t240 t244 x9_3 (wrap64 (x10_4 + 1)) t240 (t240.length : Int) (wrap64 (x63_4 + 1))) else (some false)) else (none)) else (some false))) = some r := by rw [if_pos rfl] at H; exact H
                                  clear H
                                  have H := H1
                                  clear H1
                                  replace H := Option.bind_eq_some_iff.mp H
                                  obtain ⟨⟨t250, t251⟩, A280, H⟩ := H
                                  replace H : (if t251 = 0 then (if x63_4 < (t244.length : Int) then (if t250 = (rd t244 x63_4) then (conclavelaw03_HeapCovers.l1 k4 a0 a1 t240 t244 x9_3 (wrap64 (x10_4 + 1)) t240 (t240.length : Int) (wrap64 (x63_4 + 1))) else (some false)) else (none)) else (some false)) = some r := H
                                  have A28 := Aside0.mk A280
                                  clear A280
                                  by_cases c29 : t251 = 0
                                  · rw [if_pos c29] at H
                                    have c29b0 : (t251 == 0) = true := beq_iff_eq.mpr c29
                                    have c29b1 : (t251 != 0) = false := bne_eq_false_iff_eq.mpr c29
                                    clear c29
                                    by_cases c30 : x63_4 < (t244.length : Int)
                                    · rw [if_pos c30] at H
                                      have c30b0 : decide (x63_4 < (t244.length : Int)) = true := decide_eq_true c30
                                      clear c30
                                      by_cases c31 : t250 = (rd t244 x63_4)
                                      · rw [if_pos c31] at H
                                        have c31b0 : (t250 == (rd t244 x63_4)) = true := beq_iff_eq.mpr c31
                                        have c31b1 : (t250 != (rd t244 x63_4)) = false := bne_eq_false_iff_eq.mpr c31
                                        clear c31
                                        have H' := Aside0.mk H
                                        clear H
                                        have p248 : 0 ≤ (x63_4 : Int) := of_decide_eq_true (by first | (with_reducible assumption) | assumption)
                                        have q248 : x63_4 < (t240.length : Int) := of_decide_eq_true (by first | (with_reducible assumption) | assumption)
                                        obtain ⟨ad248, e248, hx248_0⟩ := Kd.at_int (Kd.R_reads' HO_61.out).2.2 x63_4 p248 q248
                                        cases e248
                                        replace p248 := eq_true p248
                                        replace q248 := eq_true q248
                                        go_wp2_with (first | ((with_reducible refine gate_callee (f := 12) rfl ?_); refine goesL_ (some 72) rfl rfl Tryd.func12 (by kernel_rfl) rfl #[.int .i64 (wrap64 (2 * x9_3)), .int .i64 (rd t240 x63_4), .int .i64 a1] rfl (by (try simp only [List.map_toArray, List.map_cons, List.map_nil]); first | done | rfl | (simp only [List.length_drop, List.length_take]; rfl)) ?_; (with_reducible refine (heap_Under.calls (hrG := ?sideG) k4 (wrap64 (2 * x9_3)) (rd t240 x63_4) a1 true _ A26.out).mono ?_); (case sideG => (first | exact HRG.out | exact TabG.below HRG.out (by repeat (first | (with_reducible first | exact HB.out | apply below_alloc | apply pw_below_drewN | apply below_drew1) | exact HB.out | exact Below.refl _ _)))); rintro e w' ⟨rfl, ⟨nd, rfl⟩⟩; refine ⟨_, rfl, ?_⟩) | ((with_reducible refine gate_callee (f := 25) rfl ?_); refine goesL_ (some 79) rfl rfl Tryd.func25 (by kernel_rfl) rfl #[.int .i64 a0, .int .i64 x9_3, .int .i64 a1] rfl (by (try simp only [List.map_toArray, List.map_cons, List.map_nil]); first | done | rfl | (simp only [List.length_drop, List.length_take]; rfl)) ?_; (with_reducible refine (heap_Common.calls k4 a0 x9_3 a1 t250 t251 _ A28.out).mono ?_); rintro e w' ⟨rfl, ⟨nd, rfl⟩⟩; refine ⟨_, rfl, ?_⟩; obtain ⟨Ao32, co32, eo32⟩ := Kd.R_slice HO_7.out; subst eo32; have p252 : 0 ≤ (x63_4 : Int) := of_decide_eq_true (by first | (with_reducible assumption) | assumption); have q252 : x63_4 < (t244.length : Int) := of_decide_eq_true (by first | (with_reducible assumption) | assumption); obtain ⟨ad252, e252, hx252_0⟩ := Kd.at_int (Kd.R_reads' HO_7.out).2.2 x63_4 p252 q252; cases e252; replace p252 := eq_true p252; replace q252 := eq_true q252))
                                        go_roundg k4
                                        case measure => have := HJ4.out; have := HJ12.out; have := HK3.out; have := HK4.out; omega
                                        case rel => exact ⟨(wrap64 (x10_4 + 1)), (wrap64 (x63_4 + 1)), (by first | rfl | (simp; done) | (simp [*]; done)), (by first | rfl | (simp; done) | (simp [*]; done)), H', ⟨by have := HJ4.out; have := HJ12.out; have := HK3.out; have := HK4.out; omega⟩, ⟨by (with_reducible repeat (first | apply Kd.R_alloc | apply Kd.R_drewN | apply Kd.R_drew)); exact HO_5.out⟩, ⟨by (with_reducible repeat (first | apply Kd.R_alloc | apply Kd.R_drewN | apply Kd.R_drew)); exact HO_7.out⟩, ⟨by (with_reducible repeat (first | apply Kd.R_alloc | apply Kd.R_drewN | apply Kd.R_drew)); exact HO_61.out⟩, ⟨by repeat (first | (with_reducible first | exact HB.out | apply below_alloc | apply pw_below_drewN | apply below_drew1) | exact HB.out)⟩⟩
                                      · rw [if_neg c31] at H
                                        have c31b0 : (t250 == (rd t244 x63_4)) = false := beq_eq_false_iff_ne.mpr c31
                                        have c31b1 : (t250 != (rd t244 x63_4)) = true := bne_iff_ne.mpr c31
                                        obtain rfl := Option.some.inj H
                                        have p248 : 0 ≤ (x63_4 : Int) := of_decide_eq_true (by first | (with_reducible assumption) | assumption)
                                        have q248 : x63_4 < (t240.length : Int) := of_decide_eq_true (by first | (with_reducible assumption) | assumption)
                                        obtain ⟨ad248, e248, hx248_0⟩ := Kd.at_int (Kd.R_reads' HO_61.out).2.2 x63_4 p248 q248
                                        cases e248
                                        replace p248 := eq_true p248
                                        replace q248 := eq_true q248
                                        go_wp2_with (first | ((with_reducible refine gate_callee (f := 12) rfl ?_); refine goesL_ (some 72) rfl rfl Tryd.func12 (by kernel_rfl) rfl #[.int .i64 (wrap64 (2 * x9_3)), .int .i64 (rd t240 x63_4), .int .i64 a1] rfl (by (try simp only [List.map_toArray, List.map_cons, List.map_nil]); first | done | rfl | (simp only [List.length_drop, List.length_take]; rfl)) ?_; (with_reducible refine (heap_Under.calls (hrG := ?sideG) k4 (wrap64 (2 * x9_3)) (rd t240 x63_4) a1 true _ A26.out).mono ?_); (case sideG => (first | exact HRG.out | exact TabG.below HRG.out (by repeat (first | (with_reducible first | exact HB.out | apply below_alloc | apply pw_below_drewN | apply below_drew1) | exact HB.out | exact Below.refl _ _)))); rintro e w' ⟨rfl, ⟨nd, rfl⟩⟩; refine ⟨_, rfl, ?_⟩) | ((with_reducible refine gate_callee (f := 25) rfl ?_); refine goesL_ (some 79) rfl rfl Tryd.func25 (by kernel_rfl) rfl #[.int .i64 a0, .int .i64 x9_3, .int .i64 a1] rfl (by (try simp only [List.map_toArray, List.map_cons, List.map_nil]); first | done | rfl | (simp only [List.length_drop, List.length_take]; rfl)) ?_; (with_reducible refine (heap_Common.calls k4 a0 x9_3 a1 t250 t251 _ A28.out).mono ?_); rintro e w' ⟨rfl, ⟨nd, rfl⟩⟩; refine ⟨_, rfl, ?_⟩; obtain ⟨Ao33, co33, eo33⟩ := Kd.R_slice HO_7.out; subst eo33; have p252 : 0 ≤ (x63_4 : Int) := of_decide_eq_true (by first | (with_reducible assumption) | assumption); have q252 : x63_4 < (t244.length : Int) := of_decide_eq_true (by first | (with_reducible assumption) | assumption); obtain ⟨ad252, e252, hx252_0⟩ := Kd.at_int (Kd.R_reads' HO_7.out).2.2 x63_4 p252 q252; cases e252; replace p252 := eq_true p252; replace q252 := eq_true q252))
                                        go_ret
                                        exact ⟨by first | rfl | (simp [errW_none, errW_some] <;> rfl) | (simp [*, errW_none, errW_some] <;> rfl), by repeat (first | (with_reducible first | exact HB.out | apply below_alloc | apply pw_below_drewN | apply below_drew1) | exact HB.out)⟩
                                    · rw [if_neg c30] at H
                                      exact absurd H (by simp)
                                  · rw [if_neg c29] at H
                                    have c29b0 : (t251 == 0) = false := beq_eq_false_iff_ne.mpr c29
                                    have c29b1 : (t251 != 0) = true := bne_iff_ne.mpr c29
                                    obtain rfl := Option.some.inj H
                                    have p248 : 0 ≤ (x63_4 : Int) := of_decide_eq_true (by first | (with_reducible assumption) | assumption)
                                    have q248 : x63_4 < (t240.length : Int) := of_decide_eq_true (by first | (with_reducible assumption) | assumption)
                                    obtain ⟨ad248, e248, hx248_0⟩ := Kd.at_int (Kd.R_reads' HO_61.out).2.2 x63_4 p248 q248
                                    cases e248
                                    replace p248 := eq_true p248
                                    replace q248 := eq_true q248
                                    go_wp2_with (first | ((with_reducible refine gate_callee (f := 12) rfl ?_); refine goesL_ (some 72) rfl rfl Tryd.func12 (by kernel_rfl) rfl #[.int .i64 (wrap64 (2 * x9_3)), .int .i64 (rd t240 x63_4), .int .i64 a1] rfl (by (try simp only [List.map_toArray, List.map_cons, List.map_nil]); first | done | rfl | (simp only [List.length_drop, List.length_take]; rfl)) ?_; (with_reducible refine (heap_Under.calls (hrG := ?sideG) k4 (wrap64 (2 * x9_3)) (rd t240 x63_4) a1 true _ A26.out).mono ?_); (case sideG => (first | exact HRG.out | exact TabG.below HRG.out (by repeat (first | (with_reducible first | exact HB.out | apply below_alloc | apply pw_below_drewN | apply below_drew1) | exact HB.out | exact Below.refl _ _)))); rintro e w' ⟨rfl, ⟨nd, rfl⟩⟩; refine ⟨_, rfl, ?_⟩) | ((with_reducible refine gate_callee (f := 25) rfl ?_); refine goesL_ (some 79) rfl rfl Tryd.func25 (by kernel_rfl) rfl #[.int .i64 a0, .int .i64 x9_3, .int .i64 a1] rfl (by (try simp only [List.map_toArray, List.map_cons, List.map_nil]); first | done | rfl | (simp only [List.length_drop, List.length_take]; rfl)) ?_; (with_reducible refine (heap_Common.calls k4 a0 x9_3 a1 t250 t251 _ A28.out).mono ?_); rintro e w' ⟨rfl, ⟨nd, rfl⟩⟩; refine ⟨_, rfl, ?_⟩))
                                    go_ret
                                    exact ⟨by first | rfl | (simp [errW_none, errW_some] <;> rfl) | (simp [*, errW_none, errW_some] <;> rfl), by repeat (first | (with_reducible first | exact HB.out | apply below_alloc | apply pw_below_drewN | apply below_drew1) | exact HB.out)⟩
                                · replace c27 := Bool.eq_false_iff.mpr c27
                                  subst c27
                                  have H1 : (conclavelaw03_HeapCovers.l1 k4 a0 a1 t240 t244 x9_3 x10_4 t240 (t240.length : Int) (wrap64 (x63_4 + 1))) = some r := by rw [if_neg (show ¬ (false = true) by decide)] at H; exact H
                                  clear H
                                  have H := H1
                                  clear H1
                                  have H' := Aside0.mk H
                                  clear H
                                  have p248 : 0 ≤ (x63_4 : Int) := of_decide_eq_true (by first | (with_reducible assumption) | assumption)
                                  have q248 : x63_4 < (t240.length : Int) := of_decide_eq_true (by first | (with_reducible assumption) | assumption)
                                  obtain ⟨ad248, e248, hx248_0⟩ := Kd.at_int (Kd.R_reads' HO_61.out).2.2 x63_4 p248 q248
                                  cases e248
                                  replace p248 := eq_true p248
                                  replace q248 := eq_true q248
                                  go_wp2_with (first | ((with_reducible refine gate_callee (f := 12) rfl ?_); refine goesL_ (some 72) rfl rfl Tryd.func12 (by kernel_rfl) rfl #[.int .i64 (wrap64 (2 * x9_3)), .int .i64 (rd t240 x63_4), .int .i64 a1] rfl (by (try simp only [List.map_toArray, List.map_cons, List.map_nil]); first | done | rfl | (simp only [List.length_drop, List.length_take]; rfl)) ?_; (with_reducible refine (heap_Under.calls (hrG := ?sideG) k4 (wrap64 (2 * x9_3)) (rd t240 x63_4) a1 false _ A26.out).mono ?_); (case sideG => (first | exact HRG.out | exact TabG.below HRG.out (by repeat (first | (with_reducible first | exact HB.out | apply below_alloc | apply pw_below_drewN | apply below_drew1) | exact HB.out | exact Below.refl _ _)))); rintro e w' ⟨rfl, ⟨nd, rfl⟩⟩; refine ⟨_, rfl, ?_⟩))
                                  go_roundg k4
                                  case measure => have := HJ4.out; have := HJ12.out; have := HK3.out; have := HK4.out; omega
                                  case rel => exact ⟨(x10_4), (wrap64 (x63_4 + 1)), (by first | rfl | (simp; done) | (simp [*]; done)), (by first | rfl | (simp; done) | (simp [*]; done)), H', ⟨by have := HJ4.out; have := HJ12.out; have := HK3.out; have := HK4.out; omega⟩, ⟨by (with_reducible repeat (first | apply Kd.R_alloc | apply Kd.R_drewN | apply Kd.R_drew)); exact HO_5.out⟩, ⟨by (with_reducible repeat (first | apply Kd.R_alloc | apply Kd.R_drewN | apply Kd.R_drew)); exact HO_7.out⟩, ⟨by (with_reducible repeat (first | apply Kd.R_alloc | apply Kd.R_drewN | apply Kd.R_drew)); exact HO_61.out⟩, ⟨by repeat (first | (with_reducible first | exact HB.out | apply below_alloc | apply pw_below_drewN | apply below_drew1) | exact HB.out)⟩⟩
                              · rw [if_neg c25] at H
                                exact absurd H (by simp)
                            · rw [if_neg c24] at H
                              exact absurd H (by simp)
                          · rw [if_neg c23] at H
                            have c23b0 : decide (x63_4 < (t240.length : Int)) = false := decide_eq_false c23
                            clear c23
                            by_cases c34 : x9_3 = a0
                            · rw [if_pos c34] at H
                              have c34b0 : (x9_3 == a0) = true := beq_iff_eq.mpr c34
                              have c34b1 : (x9_3 != a0) = false := bne_eq_false_iff_eq.mpr c34
                              clear c34
                              by_cases c35 : x10_4 = 0
                              · rw [if_pos c35] at H
                                have c35b0 : (x10_4 == 0) = true := beq_iff_eq.mpr c35
                                have c35b1 : (x10_4 != 0) = false := bne_eq_false_iff_eq.mpr c35
                                clear c35
                                have H' := Aside0.mk H
                                clear H
                                go_wp2
                                go_roundg k4
                                case measure => have := HJ4.out; have := HJ12.out; have := HK3.out; have := HK4.out; omega
                                case rel => exact ⟨(wrap64 (x9_3 + 1)), (by first | rfl | (simp; done) | (simp [*]; done)), H', ⟨by have := HJ4.out; have := HJ12.out; have := HK3.out; have := HK4.out; omega⟩, ⟨by (with_reducible repeat (first | apply Kd.R_alloc | apply Kd.R_drewN | apply Kd.R_drew)); exact HO_5.out⟩, ⟨by (with_reducible repeat (first | apply Kd.R_alloc | apply Kd.R_drewN | apply Kd.R_drew)); exact Kd.R_mono HO_7.out (fun _ hk => hk.1)⟩, ⟨by repeat (first | (with_reducible first | exact HB.out | apply below_alloc | apply pw_below_drewN | apply below_drew1) | exact HB.out)⟩⟩
                              · rw [if_neg c35] at H
                                have c35b0 : (x10_4 == 0) = false := beq_eq_false_iff_ne.mpr c35
                                have c35b1 : (x10_4 != 0) = true := bne_iff_ne.mpr c35
                                obtain rfl := Option.some.inj H
                                go_wp2
                                go_ret
                                exact ⟨by first | rfl | (simp [errW_none, errW_some] <;> rfl) | (simp [*, errW_none, errW_some] <;> rfl), by repeat (first | (with_reducible first | exact HB.out | apply below_alloc | apply pw_below_drewN | apply below_drew1) | exact HB.out)⟩
                            · rw [if_neg c34] at H
                              have c34b0 : (x9_3 == a0) = false := beq_eq_false_iff_ne.mpr c34
                              have c34b1 : (x9_3 != a0) = true := bne_iff_ne.mpr c34
                              by_cases c36 : x10_4 = 1
                              · rw [if_pos c36] at H
                                have c36b0 : (x10_4 == 1) = true := beq_iff_eq.mpr c36
                                have c36b1 : (x10_4 != 1) = false := bne_eq_false_iff_eq.mpr c36
                                clear c36
                                have H' := Aside0.mk H
                                clear H
                                go_wp2
                                go_roundg k4
                                case measure => have := HJ4.out; have := HJ12.out; have := HK3.out; have := HK4.out; omega
                                case rel => exact ⟨(wrap64 (x9_3 + 1)), (by first | rfl | (simp; done) | (simp [*]; done)), H', ⟨by have := HJ4.out; have := HJ12.out; have := HK3.out; have := HK4.out; omega⟩, ⟨by (with_reducible repeat (first | apply Kd.R_alloc | apply Kd.R_drewN | apply Kd.R_drew)); exact HO_5.out⟩, ⟨by (with_reducible repeat (first | apply Kd.R_alloc | apply Kd.R_drewN | apply Kd.R_drew)); exact Kd.R_mono HO_7.out (fun _ hk => hk.1)⟩, ⟨by repeat (first | (with_reducible first | exact HB.out | apply below_alloc | apply pw_below_drewN | apply below_drew1) | exact HB.out)⟩⟩
                              · rw [if_neg c36] at H
                                have c36b0 : (x10_4 == 1) = false := beq_eq_false_iff_ne.mpr c36
                                have c36b1 : (x10_4 != 1) = true := bne_iff_ne.mpr c36
                                obtain rfl := Option.some.inj H
                                go_wp2
                                go_ret
                                exact ⟨by first | rfl | (simp [errW_none, errW_some] <;> rfl) | (simp [*, errW_none, errW_some] <;> rfl), by repeat (first | (with_reducible first | exact HB.out | apply below_alloc | apply pw_below_drewN | apply below_drew1) | exact HB.out)⟩
                    · rw [if_neg c21] at H
                      have c21b0 : decide (x9_3 < a1) = false := decide_eq_false c21
                      clear c21
                      obtain rfl := Option.some.inj H
                      go_wp2
                      go_ret
                      exact ⟨by first | rfl | (simp [errW_none, errW_some] <;> rfl) | (simp [*, errW_none, errW_some] <;> rfl), by repeat (first | (with_reducible first | exact HB.out | apply below_alloc | apply pw_below_drewN | apply below_drew1) | exact HB.out)⟩
  · replace c4 := Bool.eq_false_iff.mpr c4
    subst c4
    have H1 : (some false) = some r := by rw [if_neg (show ¬ (false = true) by decide)] at H; exact H
    clear H
    have H := H1
    clear H1
    obtain rfl := Option.some.inj H
    go_enter Tryd.func7, Tryd.ntmps7
    go_wp2_with (first | ((with_reducible refine gate_callee (f := 9) rfl ?_); refine goesL_ (some 15) rfl rfl Tryd.func9 (by kernel_rfl) rfl #[] rfl (by (try simp only [List.map_toArray, List.map_cons, List.map_nil]); first | done | rfl | (simp only [List.length_drop, List.length_take]; rfl)) ?_; (with_reducible refine (conclavelaw03_anchor.calls (hrG := ?sideG) k  false _ A3.out).mono ?_); (case sideG => (first | exact HRG.out | exact TabG.below HRG.out (by repeat (first | (with_reducible first | exact HB.out | apply below_alloc | apply pw_below_drewN | apply below_drew1) | exact HB.out | exact Below.refl _ _)))); rintro e w37 ⟨rfl, hb⟩; refine ⟨_, rfl, ?_⟩; have n0_ := Aside0.mk (below_step (by repeat (first | (with_reducible first | exact HB.out | apply below_alloc | apply pw_below_drewN | apply below_drew1) | exact HB.out)) hb); clear HB; have HB := n0_; clear n0_; (try clear hb); (try clear hb2); (try clear hk); (try clear hi)))
    go_ret
    exact ⟨by first | rfl | (simp [errW_none, errW_some] <;> rfl) | (simp [*, errW_none, errW_some] <;> rfl), by repeat (first | (with_reducible first | exact HB.out | apply below_alloc | apply pw_below_drewN | apply below_drew1) | exact HB.out)⟩

/-- THE ONE PURE STATEMENT of conclavelaw03_HeapCovers: yours. -/
def conclavelaw03_HeapCovers.Pure : Prop := ∀ (a0 : Int) (a1 : Int), (Lit.int .i64 a0).wf = true → (Lit.int .i64 a1).wf = true → ∃ k, conclavelaw03_HeapCovers.f k a0 a1 = some true
theorem conclavelaw03_HeapCovers.walk (P : conclavelaw03_HeapCovers.Pure) (a0 : Int) (a1 : Int) (w : World) (hrG : TabG w) (w0 : (Lit.int .i64 a0).wf = true) (w1 : (Lit.int .i64 a1).wf = true) :
    Calls Tryd.prog 7 #[.int .i64 a0, .int .i64 a1] w fun e w' => e = .returned (.bool true) ∧ Below w.heap.size w w' := by
  obtain ⟨k, h⟩ := P a0 a1 w0 w1
  refine (conclavelaw03_HeapCovers.calls (hrG := hrG) k a0 a1 true w h).mono ?_
  rintro e w' ⟨rfl, hd⟩
  exact ⟨rfl, hd⟩

end Go.Proofs.YtmioejkhhcjfpaaDoor.PHe
