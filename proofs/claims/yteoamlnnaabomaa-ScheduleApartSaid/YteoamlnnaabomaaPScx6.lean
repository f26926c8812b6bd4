-- Written by a program of this session over the translation.
import Derived.Test.YteoamlnnaabomaaPScx0
import Derived.Test.YteoamlnnaabomaaPScx1
import Derived.Test.YteoamlnnaabomaaPScx2
import Derived.Test.YteoamlnnaabomaaPScx3
import Derived.Test.YteoamlnnaabomaaPScx4
namespace Go.Proofs.Yteoamlnnaabomaa.PSc
open Go.RowKit Go.Proofs.YteoamlnnaabomaaW.PrintWords Go.Proofs.YteoamlnnaabomaaW.PrintLast Go.Proofs.YteoamlnnaabomaaW.PrintMore
attribute [local go_sem] max2_int min2_int max_two min_two max_three min_three max_four min_four   -- for this text's walks alone
set_option linter.unusedVariables false
set_option linter.unusedSimpArgs false

/-! ### conclaveref01_Ints: function 12 -/
def conclaveref01_Ints.l0 : Nat → List Int → List Int → Int → Option (Bool)
  | 0, _, _, _ => none
  | k + 1, x0, x1, x5 => if x5 < (x0.length : Int) then (if 0 ≤ x5 then (if x5 < (x1.length : Int) then (if (rd x0 x5) = (rd x1 x5) then (conclaveref01_Ints.l0 k x0 x1 (wrap64 (x5 + 1))) else (some false)) else (none)) else (none)) else (some true)
def conclaveref01_Ints.f (k : Nat) (l0 : List Int) (l1 : List Int) : Option (Bool) := if (l0.length : Int) = (l1.length : Int) then (conclaveref01_Ints.l0 k l0 l1 0) else (some false)
theorem conclaveref01_Ints.mono_l : ∀ k, (∀ y0 y1 y2, LeO (conclaveref01_Ints.l0 k y0 y1 y2) (conclaveref01_Ints.l0 (k + 1) y0 y1 y2))
  | 0 => fun _ _ _ r h => by simp [conclaveref01_Ints.l0] at h
  | k + 1 => by
    have ih0 := conclaveref01_Ints.mono_l k
    · intro y0 y1 y2
      unfold conclaveref01_Ints.l0
      repeat' first
      | (with_reducible exact ih0 _ _ _)
      | (with_reducible exact LeO.refl _)
      | (with_reducible exact LeO.none _)
      | (with_reducible refine LeO.ite ?_ ?_)
      | (with_reducible refine LeO.bind ?_ (fun _ => ?_))
      | exact ih0 _ _ _
      | exact LeO.none _
      | refine LeO.ite ?_ ?_
      | refine LeO.bind ?_ (fun _ => ?_)
theorem conclaveref01_Ints.mono : ∀ a0 a1 k, LeO (conclaveref01_Ints.f k a0 a1) (conclaveref01_Ints.f (k + 1) a0 a1) := by
  intro a0 a1 k
  have ih0 := conclaveref01_Ints.mono_l k
  unfold conclaveref01_Ints.f
  repeat' first
      | (with_reducible exact ih0 _ _ _)
      | (with_reducible exact LeO.refl _)
      | (with_reducible exact LeO.none _)
      | (with_reducible refine LeO.ite ?_ ?_)
      | (with_reducible refine LeO.bind ?_ (fun _ => ?_))
      | exact ih0 _ _ _
      | exact LeO.none _
      | refine LeO.ite ?_ ?_
      | refine LeO.bind ?_ (fun _ => ?_)
set_option maxHeartbeats 8000000 in
set_option maxRecDepth 100000 in
theorem conclaveref01_Ints.calls (k : Nat) (A0 : Option Addr) (c0 : Nat) (l0 : List Int) (A1 : Option Addr) (c1 : Nat) (l1 : List Int) (r : Bool) (w : World) (hr0 : Kd.C (Kd.int .i64) w A0 l0.length l0) (hc0 : l0.length ≤ c0) (hr1 : Kd.C (Kd.int .i64) w A1 l1.length l1) (hc1 : l1.length ≤ c1) (h : conclaveref01_Ints.f k l0 l1 = some r) :
    Calls Try.prog 12 #[.slice A0 l0.length c0, .slice A1 l1.length c1] w fun e w' => e = .returned (.bool r) ∧ Drawn0 w w' := by
  have HR0 := Aside0.mk hr0
  have HC0 := Aside0.mk hc0
  clear hr0 hc0
  have HR1 := Aside0.mk hr1
  have HC1 := Aside0.mk hc1
  clear hr1 hc1
  have H : (if (l0.length : Int) = (l1.length : Int) then (conclaveref01_Ints.l0 k l0 l1 0) else (some false)) = some r := h
  clear h
  by_cases c3 : (l0.length : Int) = (l1.length : Int)
  · rw [if_pos c3] at H
    have c3b0 : ((l0.length : Int) == (l1.length : Int)) = true := beq_iff_eq.mpr c3
    have c3b1 : ((l0.length : Int) != (l1.length : Int)) = false := bne_eq_false_iff_eq.mpr c3
    have c3b2 : (l0.length == l1.length) = true := by first | simpa using c3 | (simp at c3 ⊢; omega)
    clear c3
    have H' := Aside0.mk H
    clear H
    go_enter Try.func12, Try.ntmps12
    go_wp2
    repeat (go_quiet (fail); try go_wp2)
    go_loopg [5] k (fun kq v5 w' => ∃ (x5_1 : Int), v5 = .int .i64 x5_1 ∧ Aside0 (conclaveref01_Ints.l0 kq l0 l1 x5_1 = some r) ∧ Aside0 (kq ≤ k) ∧ Drawn0 w w')
    case atStart => exact ⟨(0), (by first | rfl | (simp; done) | (simp [*]; done)), H', ⟨Nat.le_refl _⟩, by repeat (first | exact Drawn0.refl _ | apply Drawn0.step)⟩
    case round =>
      clear H'
      try clear c1
      try clear p2
      try clear c3
      try clear c3b0
      try clear c3b1
      try clear c3b2
      obtain ⟨x5_1, rfl, HA, HK1, ⟨m1, rfl⟩⟩ := hrel
      cases gk with
      | zero => exact absurd HA.out (by simp [conclaveref01_Ints.l0])
      | succ k1 =>
        have H := HA.out
        clear HA
        simp only [conclaveref01_Ints.l0] at H
        by_cases c4 : x5_1 < (l0.length : Int)
        · rw [if_pos c4] at H
          have c4b0 : decide (x5_1 < (l0.length : Int)) = true := decide_eq_true c4
          clear c4
          by_cases c5 : 0 ≤ x5_1
          · rw [if_pos c5] at H
            have c5b0 : decide (0 ≤ x5_1) = true := decide_eq_true c5
            clear c5
            by_cases c6 : x5_1 < (l1.length : Int)
            · rw [if_pos c6] at H
              have c6b0 : decide (x5_1 < (l1.length : Int)) = true := decide_eq_true c6
              clear c6
              by_cases c7 : (rd l0 x5_1) = (rd l1 x5_1)
              · rw [if_pos c7] at H
                have c7b0 : ((rd l0 x5_1) == (rd l1 x5_1)) = true := beq_iff_eq.mpr c7
                have c7b1 : ((rd l0 x5_1) != (rd l1 x5_1)) = false := bne_eq_false_iff_eq.mpr c7
                clear c7
                have H' := Aside0.mk H
                clear H
                have p251 : 0 ≤ (x5_1 : Int) := of_decide_eq_true (by first | (with_reducible assumption) | assumption)
                have q251 : x5_1 < (l0.length : Int) := of_decide_eq_true (by first | (with_reducible assumption) | assumption)
                obtain ⟨ad251, e251, hx251_0⟩ := Kd.at_int HR0.out x5_1 p251 q251
                cases e251
                replace p251 := eq_true p251
                replace q251 := eq_true q251
                have p252 : 0 ≤ (x5_1 : Int) := of_decide_eq_true (by first | (with_reducible assumption) | assumption)
                have q252 : x5_1 < (l1.length : Int) := of_decide_eq_true (by first | (with_reducible assumption) | assumption)
                obtain ⟨ad252, e252, hx252_0⟩ := Kd.at_int HR1.out x5_1 p252 q252
                cases e252
                replace p252 := eq_true p252
                replace q252 := eq_true q252
                go_wp2
                repeat (go_quiet (fail); try go_wp2)
                go_roundg k1
                case measure => have := HK1.out; omega
                case rel => exact ⟨(wrap64 (x5_1 + 1)), (by first | rfl | (simp; done) | (simp [*]; done)), H', ⟨by have := HK1.out; omega⟩, by repeat (first | exact Drawn0.refl _ | apply Drawn0.step)⟩
              · rw [if_neg c7] at H
                have c7b0 : ((rd l0 x5_1) == (rd l1 x5_1)) = false := beq_eq_false_iff_ne.mpr c7
                have c7b1 : ((rd l0 x5_1) != (rd l1 x5_1)) = true := bne_iff_ne.mpr c7
                obtain rfl := Option.some.inj H
                have p251 : 0 ≤ (x5_1 : Int) := of_decide_eq_true (by first | (with_reducible assumption) | assumption)
                have q251 : x5_1 < (l0.length : Int) := of_decide_eq_true (by first | (with_reducible assumption) | assumption)
                obtain ⟨ad251, e251, hx251_0⟩ := Kd.at_int HR0.out x5_1 p251 q251
                cases e251
                replace p251 := eq_true p251
                replace q251 := eq_true q251
                have p252 : 0 ≤ (x5_1 : Int) := of_decide_eq_true (by first | (with_reducible assumption) | assumption)
                have q252 : x5_1 < (l1.length : Int) := of_decide_eq_true (by first | (with_reducible assumption) | assumption)
                obtain ⟨ad252, e252, hx252_0⟩ := Kd.at_int HR1.out x5_1 p252 q252
                cases e252
                replace p252 := eq_true p252
                replace q252 := eq_true q252
                go_wp2
                repeat (go_quiet (fail); try go_wp2)
                go_ret
                exact ⟨by first | rfl | (simp; done) | (simp [*]; done), by repeat (first | exact Drawn0.refl _ | apply Drawn0.step)⟩
            · rw [if_neg c6] at H
              exact absurd H (by simp)
          · rw [if_neg c5] at H
            exact absurd H (by simp)
        · rw [if_neg c4] at H
          have c4b0 : decide (x5_1 < (l0.length : Int)) = false := decide_eq_false c4
          clear c4
          obtain rfl := Option.some.inj H
          go_wp2
          repeat (go_quiet (fail); try go_wp2)
          go_ret
          exact ⟨by first | rfl | (simp; done) | (simp [*]; done), by repeat (first | exact Drawn0.refl _ | apply Drawn0.step)⟩
  · rw [if_neg c3] at H
    have c3b0 : ((l0.length : Int) == (l1.length : Int)) = false := beq_eq_false_iff_ne.mpr c3
    have c3b1 : ((l0.length : Int) != (l1.length : Int)) = true := bne_iff_ne.mpr c3
    have c3b2 : (l0.length == l1.length) = false := by first | simpa using c3 | (simp at c3 ⊢; omega)
    obtain rfl := Option.some.inj H
    go_enter Try.func12, Try.ntmps12
    go_wp2
    repeat (go_quiet (fail); try go_wp2)
    go_ret
    exact ⟨by first | rfl | (simp; done) | (simp [*]; done), by repeat (first | exact Drawn0.refl _ | apply Drawn0.step)⟩

/-! ### conclavelaw07_ScheduleChain: function 4 -/
def conclavelaw07_ScheduleChain.j0 : Nat → List Int → List Int → Bool → Option (Bool)
  | 0, _, _, _ => none
  | k + 1, x0, x1, x28 => if x28 = true then (some true) else ((conclavelaw07_stores.f 9).bind fun t256 => ((schedule_Shared.f k t256 x0).bind fun bt258 => ((schedule_Shared.f k bt258.2 x1).bind fun bt260 => (if bt258.1 = 0 then (some false) else (if bt260.1 = 0 then (some false) else ((conclaveref01_Ints.f k x0 x1).bind fun t262 => (some ((bt258.1 == bt260.1) == t262))))))))
def conclavelaw07_ScheduleChain.f (k : Nat) (l0 : List Int) (l1 : List Int) : Option (Bool) := (conclavelaw07_anchor.f k).bind fun t253 => (if t253 = true then ((conclavelaw07_right.f k l0 9).bind fun t254 => (if t254 = true then ((conclavelaw07_right.f k l1 9).bind fun t255 => (if t255 = true then (if (l0.length : Int) > 200 then (conclavelaw07_ScheduleChain.j0 k l0 l1 true) else (conclavelaw07_ScheduleChain.j0 k l0 l1 (decide ((l1.length : Int) > 200)))) else (conclavelaw07_ScheduleChain.j0 k l0 l1 true))) else (conclavelaw07_ScheduleChain.j0 k l0 l1 true))) else (some false))
theorem conclavelaw07_ScheduleChain.mono_l : ∀ k, (∀ y0 y1 y2, LeO (conclavelaw07_ScheduleChain.j0 k y0 y1 y2) (conclavelaw07_ScheduleChain.j0 (k + 1) y0 y1 y2))
  | 0 => fun _ _ _ r h => by simp [conclavelaw07_ScheduleChain.j0] at h
  | k + 1 => by
    have ih0 := conclavelaw07_ScheduleChain.mono_l k
    · intro y0 y1 y2
      unfold conclavelaw07_ScheduleChain.j0
      repeat' first
      | (with_reducible exact ih0 _ _ _)
      | (with_reducible exact conclavelaw07_anchor.mono _)
      | (with_reducible exact conclavelaw07_right.mono _ _ _)
      | (with_reducible exact conclaveref01_Ints.mono _ _ _)
      | (with_reducible exact schedule_Shared.mono _ _ _)
      | (with_reducible exact LeO.refl _)
      | (with_reducible exact LeO.none _)
      | (with_reducible refine LeO.ite ?_ ?_)
      | (with_reducible refine LeO.bind ?_ (fun _ => ?_))
      | exact ih0 _ _ _
      | exact conclavelaw07_anchor.mono _
      | exact conclavelaw07_right.mono _ _ _
      | exact conclaveref01_Ints.mono _ _ _
      | exact schedule_Shared.mono _ _ _
      | exact LeO.none _
      | refine LeO.ite ?_ ?_
      | refine LeO.bind ?_ (fun _ => ?_)
theorem conclavelaw07_ScheduleChain.mono : ∀ a0 a1 k, LeO (conclavelaw07_ScheduleChain.f k a0 a1) (conclavelaw07_ScheduleChain.f (k + 1) a0 a1) := by
  intro a0 a1 k
  have ih0 := conclavelaw07_ScheduleChain.mono_l k
  unfold conclavelaw07_ScheduleChain.f
  repeat' first
      | (with_reducible exact ih0 _ _ _)
      | (with_reducible exact conclavelaw07_anchor.mono _)
      | (with_reducible exact conclavelaw07_right.mono _ _ _)
      | (with_reducible exact conclaveref01_Ints.mono _ _ _)
      | (with_reducible exact schedule_Shared.mono _ _ _)
      | (with_reducible exact LeO.refl _)
      | (with_reducible exact LeO.none _)
      | (with_reducible refine LeO.ite ?_ ?_)
      | (with_reducible refine LeO.bind ?_ (fun _ => ?_))
      | exact ih0 _ _ _
      | exact conclavelaw07_anchor.mono _
      | exact conclavelaw07_right.mono _ _ _
      | exact conclaveref01_Ints.mono _ _ _
      | exact schedule_Shared.mono _ _ _
      | exact LeO.none _
      | refine LeO.ite ?_ ?_
      | refine LeO.bind ?_ (fun _ => ?_)
set_option maxHeartbeats 8000000 in
set_option maxRecDepth 100000 in
theorem conclavelaw07_ScheduleChain.calls (k : Nat) (A0 : Option Addr) (c0 : Nat) (l0 : List Int) (A1 : Option Addr) (c1 : Nat) (l1 : List Int) (r : Bool) (w : World) (hr0 : Kd.C (Kd.int .i64) w A0 l0.length l0) (hc0 : l0.length ≤ c0) (hr1 : Kd.C (Kd.int .i64) w A1 l1.length l1) (hc1 : l1.length ≤ c1) (h : conclavelaw07_ScheduleChain.f k l0 l1 = some r) :
    Calls Try.prog 4 #[.slice A0 l0.length c0, .slice A1 l1.length c1] w fun e w' => e = .returned (.bool r) ∧ Below w.heap.size w w' := by
  have HR0 := Aside0.mk hr0
  have HC0 := Aside0.mk hc0
  clear hr0 hc0
  have HR1 := Aside0.mk hr1
  have HC1 := Aside0.mk hc1
  clear hr1 hc1
  have HB := Aside0.mk (Below.refl w.heap.size w)
  have H : ((conclavelaw07_anchor.f k).bind fun t253 => (if t253 = true then ((conclavelaw07_right.f k l0 9).bind fun t254 => (if t254 = true then ((conclavelaw07_right.f k l1 9).bind fun t255 => (if t255 = true then (if (l0.length : Int) > 200 then (conclavelaw07_ScheduleChain.j0 k l0 l1 true) else (conclavelaw07_ScheduleChain.j0 k l0 l1 (decide ((l1.length : Int) > 200)))) else (conclavelaw07_ScheduleChain.j0 k l0 l1 true))) else (conclavelaw07_ScheduleChain.j0 k l0 l1 true))) else (some false))) = some r := h
  clear h
  replace H := Option.bind_eq_some_iff.mp H
  obtain ⟨t253, A30, H⟩ := H
  replace H : (if t253 = true then ((conclavelaw07_right.f k l0 9).bind fun t254 => (if t254 = true then ((conclavelaw07_right.f k l1 9).bind fun t255 => (if t255 = true then (if (l0.length : Int) > 200 then (conclavelaw07_ScheduleChain.j0 k l0 l1 true) else (conclavelaw07_ScheduleChain.j0 k l0 l1 (decide ((l1.length : Int) > 200)))) else (conclavelaw07_ScheduleChain.j0 k l0 l1 true))) else (conclavelaw07_ScheduleChain.j0 k l0 l1 true))) else (some false)) = some r := H
  have A3 := Aside0.mk A30
  clear A30
  by_cases c4 : t253 = true
  · subst c4
    have H1 : ((conclavelaw07_right.f k l0 9).bind fun t254 => (if t254 = true then ((conclavelaw07_right.f k l1 9).bind fun t255 => (if t255 = true then (if (l0.length : Int) > 200 then (conclavelaw07_ScheduleChain.j0 k l0 l1 true) else (conclavelaw07_ScheduleChain.j0 k l0 l1 (decide ((l1.length : Int) > 200)))) else (conclavelaw07_ScheduleChain.j0 k l0 l1 true))) else (conclavelaw07_ScheduleChain.j0 k l0 l1 true))) = some r := by rw [if_pos rfl] at H; exact H
    clear H
    have H := H1
    clear H1
    have HC5 := Aside0.mk H
    clear H
    go_enter Try.func4, Try.ntmps4
    go_upto_region 3 with (first | ((with_reducible refine gate_callee (f := 6) rfl ?_); refine goesL_ (some 9) rfl rfl Try.func6 (by kernel_rfl) rfl #[] rfl (by (try simp only [List.map_toArray, List.map_cons, List.map_nil]); first | done | rfl | (simp only [List.length_drop, List.length_take]; rfl)) ?_; (with_reducible refine (conclavelaw07_anchor.calls k  true _ A3.out).mono ?_); rintro e w6 ⟨rfl, hb⟩; refine ⟨_, rfl, ?_⟩; have n0_ := Aside0.mk (below_step (by repeat (first | (with_reducible first | exact HB.out | apply below_alloc | apply pw_below_drewN | apply below_drew1) | exact HB.out)) hb); clear HB; have HB := n0_; clear n0_; (try clear hb); (try clear hb2); (try clear hk); (try clear hi)))
    (try simp only [Act.put, List.setIfInBounds_toArray, List.set_cons_zero, List.set_cons_succ])
    go_cut [28] (fun v28 wc => ∃ (kq : Nat) (x28_4 : Bool), v28 = .bool x28_4 ∧ Aside0 (conclavelaw07_ScheduleChain.j0 kq l0 l1 x28_4 = some r) ∧ Aside0 (kq ≤ k) ∧ Aside0 (Below w.heap.size w wc))
    case first =>
      have H := HC5.out
      clear HC5
      replace H := Option.bind_eq_some_iff.mp H
      obtain ⟨t254, A70, H⟩ := H
      replace H : (if t254 = true then ((conclavelaw07_right.f k l1 9).bind fun t255 => (if t255 = true then (if (l0.length : Int) > 200 then (conclavelaw07_ScheduleChain.j0 k l0 l1 true) else (conclavelaw07_ScheduleChain.j0 k l0 l1 (decide ((l1.length : Int) > 200)))) else (conclavelaw07_ScheduleChain.j0 k l0 l1 true))) else (conclavelaw07_ScheduleChain.j0 k l0 l1 true)) = some r := H
      have A7 := Aside0.mk A70
      clear A70
      by_cases c8 : t254 = true
      · subst c8
        have H1 : ((conclavelaw07_right.f k l1 9).bind fun t255 => (if t255 = true then (if (l0.length : Int) > 200 then (conclavelaw07_ScheduleChain.j0 k l0 l1 true) else (conclavelaw07_ScheduleChain.j0 k l0 l1 (decide ((l1.length : Int) > 200)))) else (conclavelaw07_ScheduleChain.j0 k l0 l1 true))) = some r := by rw [if_pos rfl] at H; exact H
        clear H
        have H := H1
        clear H1
        replace H := Option.bind_eq_some_iff.mp H
        obtain ⟨t255, A90, H⟩ := H
        replace H : (if t255 = true then (if (l0.length : Int) > 200 then (conclavelaw07_ScheduleChain.j0 k l0 l1 true) else (conclavelaw07_ScheduleChain.j0 k l0 l1 (decide ((l1.length : Int) > 200)))) else (conclavelaw07_ScheduleChain.j0 k l0 l1 true)) = some r := H
        have A9 := Aside0.mk A90
        clear A90
        by_cases c10 : t255 = true
        · subst c10
          have H1 : (if (l0.length : Int) > 200 then (conclavelaw07_ScheduleChain.j0 k l0 l1 true) else (conclavelaw07_ScheduleChain.j0 k l0 l1 (decide ((l1.length : Int) > 200)))) = some r := by rw [if_pos rfl] at H; exact H
          clear H
          have H := H1
          clear H1
          by_cases c11 : (l0.length : Int) > 200
          · rw [if_pos c11] at H
            have c11b0 : decide (200 < (l0.length : Int)) = true := decide_eq_true c11
            have c11b1 : decide (200 < l0.length) = true := decide_eq_true (by omega)
            clear c11
            (first | rw [c11b0] | (simp only [i64_w, i32_w]; rw [c11b0]) | skip)
            have H' := Aside0.mk H
            clear H
            go_wp2_with (first | ((with_reducible refine gate_callee (f := 7) rfl ?_); refine goesL_ (some 12) rfl rfl Try.func7 (by kernel_rfl) rfl #[.slice A0 l0.length c0, .int .i64 9] rfl (by (try simp only [List.map_toArray, List.map_cons, List.map_nil]); first | done | rfl | (simp only [List.length_drop, List.length_take]; rfl)) ?_; (with_reducible refine (conclavelaw07_right.calls k _ _ l0 9 true _ ?side1 ?side2 A7.out).mono ?_); (case side1 => repeat (first | exact (Kd.C_below HR0.out HB.out) | (with_reducible refine Kd.C_alloc ?_ _) | (with_reducible refine Kd.C_drewN ?_ _) | (with_reducible refine Kd.C_drew ?_))); (case side2 => exact HC0.out); rintro e w' ⟨rfl, ⟨nd, rfl⟩⟩; refine ⟨_, rfl, ?_⟩) | (go_at_call 7; (with_reducible refine (conclavelaw07_right.calls k _ _ l1 9 true _ ?side1 ?side2 A9.out).mono ?_); (case side1 => repeat (first | exact (Kd.C_below HR1.out (by repeat (first | (with_reducible first | exact HB.out | apply below_alloc | apply pw_below_drewN | apply below_drew1) | exact HB.out))) | (with_reducible refine Kd.C_alloc ?_ _) | (with_reducible refine Kd.C_drewN ?_ _) | (with_reducible refine Kd.C_drew ?_))); (case side2 => exact HC1.out); rintro e w' ⟨rfl, ⟨nd, rfl⟩⟩))
            go_meet
            case rel => exact ⟨_, (true), (by first | rfl | (simp; done) | (simp [*]; done)), H', ⟨by first | omega | exact Nat.le_refl _⟩, ⟨by repeat (first | (with_reducible first | exact HB.out | apply below_alloc | apply pw_below_drewN | apply below_drew1) | exact HB.out)⟩⟩
          · rw [if_neg c11] at H
            have c11b0 : decide (200 < (l0.length : Int)) = false := decide_eq_false c11
            have c11b1 : decide (200 < l0.length) = false := decide_eq_false (by omega)
            clear c11
            (first | rw [c11b0] | (simp only [i64_w, i32_w]; rw [c11b0]) | skip)
            have H' := Aside0.mk H
            clear H
            go_wp2_with (first | ((with_reducible refine gate_callee (f := 7) rfl ?_); refine goesL_ (some 12) rfl rfl Try.func7 (by kernel_rfl) rfl #[.slice A0 l0.length c0, .int .i64 9] rfl (by (try simp only [List.map_toArray, List.map_cons, List.map_nil]); first | done | rfl | (simp only [List.length_drop, List.length_take]; rfl)) ?_; (with_reducible refine (conclavelaw07_right.calls k _ _ l0 9 true _ ?side1 ?side2 A7.out).mono ?_); (case side1 => repeat (first | exact (Kd.C_below HR0.out HB.out) | (with_reducible refine Kd.C_alloc ?_ _) | (with_reducible refine Kd.C_drewN ?_ _) | (with_reducible refine Kd.C_drew ?_))); (case side2 => exact HC0.out); rintro e w' ⟨rfl, ⟨nd, rfl⟩⟩; refine ⟨_, rfl, ?_⟩) | (go_at_call 7; (with_reducible refine (conclavelaw07_right.calls k _ _ l1 9 true _ ?side1 ?side2 A9.out).mono ?_); (case side1 => repeat (first | exact (Kd.C_below HR1.out (by repeat (first | (with_reducible first | exact HB.out | apply below_alloc | apply pw_below_drewN | apply below_drew1) | exact HB.out))) | (with_reducible refine Kd.C_alloc ?_ _) | (with_reducible refine Kd.C_drewN ?_ _) | (with_reducible refine Kd.C_drew ?_))); (case side2 => exact HC1.out); rintro e w' ⟨rfl, ⟨nd, rfl⟩⟩))
            go_meet
            case rel => exact ⟨_, (decide ((l1.length : Int) > 200)), (by first | rfl | (simp; done) | (simp [*]; done)), H', ⟨by first | omega | exact Nat.le_refl _⟩, ⟨by repeat (first | (with_reducible first | exact HB.out | apply below_alloc | apply pw_below_drewN | apply below_drew1) | exact HB.out)⟩⟩
        · replace c10 := Bool.eq_false_iff.mpr c10
          subst c10
          have H1 : (conclavelaw07_ScheduleChain.j0 k l0 l1 true) = some r := by rw [if_neg (show ¬ (false = true) by decide)] at H; exact H
          clear H
          have H := H1
          clear H1
          have H' := Aside0.mk H
          clear H
          go_wp2_with (first | ((with_reducible refine gate_callee (f := 7) rfl ?_); refine goesL_ (some 12) rfl rfl Try.func7 (by kernel_rfl) rfl #[.slice A0 l0.length c0, .int .i64 9] rfl (by (try simp only [List.map_toArray, List.map_cons, List.map_nil]); first | done | rfl | (simp only [List.length_drop, List.length_take]; rfl)) ?_; (with_reducible refine (conclavelaw07_right.calls k _ _ l0 9 true _ ?side1 ?side2 A7.out).mono ?_); (case side1 => repeat (first | exact (Kd.C_below HR0.out HB.out) | (with_reducible refine Kd.C_alloc ?_ _) | (with_reducible refine Kd.C_drewN ?_ _) | (with_reducible refine Kd.C_drew ?_))); (case side2 => exact HC0.out); rintro e w' ⟨rfl, ⟨nd, rfl⟩⟩; refine ⟨_, rfl, ?_⟩) | (go_at_call 7; (with_reducible refine (conclavelaw07_right.calls k _ _ l1 9 false _ ?side1 ?side2 A9.out).mono ?_); (case side1 => repeat (first | exact (Kd.C_below HR1.out (by repeat (first | (with_reducible first | exact HB.out | apply below_alloc | apply pw_below_drewN | apply below_drew1) | exact HB.out))) | (with_reducible refine Kd.C_alloc ?_ _) | (with_reducible refine Kd.C_drewN ?_ _) | (with_reducible refine Kd.C_drew ?_))); (case side2 => exact HC1.out); rintro e w' ⟨rfl, ⟨nd, rfl⟩⟩))
          go_meet
          case rel => exact ⟨_, (true), (by first | rfl | (simp; done) | (simp [*]; done)), H', ⟨by first | omega | exact Nat.le_refl _⟩, ⟨by repeat (first | (with_reducible first | exact HB.out | apply below_alloc | apply pw_below_drewN | apply below_drew1) | exact HB.out)⟩⟩
      · replace c8 := Bool.eq_false_iff.mpr c8
        subst c8
        have H1 : (conclavelaw07_ScheduleChain.j0 k l0 l1 true) = some r := by rw [if_neg (show ¬ (false = true) by decide)] at H; exact H
        clear H
        have H := H1
        clear H1
        have H' := Aside0.mk H
        clear H
        go_wp2_with (first | ((with_reducible refine gate_callee (f := 7) rfl ?_); refine goesL_ (some 12) rfl rfl Try.func7 (by kernel_rfl) rfl #[.slice A0 l0.length c0, .int .i64 9] rfl (by (try simp only [List.map_toArray, List.map_cons, List.map_nil]); first | done | rfl | (simp only [List.length_drop, List.length_take]; rfl)) ?_; (with_reducible refine (conclavelaw07_right.calls k _ _ l0 9 false _ ?side1 ?side2 A7.out).mono ?_); (case side1 => repeat (first | exact (Kd.C_below HR0.out HB.out) | (with_reducible refine Kd.C_alloc ?_ _) | (with_reducible refine Kd.C_drewN ?_ _) | (with_reducible refine Kd.C_drew ?_))); (case side2 => exact HC0.out); rintro e w' ⟨rfl, ⟨nd, rfl⟩⟩; refine ⟨_, rfl, ?_⟩))
        go_meet
        case rel => exact ⟨_, (true), (by first | rfl | (simp; done) | (simp [*]; done)), H', ⟨by first | omega | exact Nat.le_refl _⟩, ⟨by repeat (first | (with_reducible first | exact HB.out | apply below_alloc | apply pw_below_drewN | apply below_drew1) | exact HB.out)⟩⟩
    case rest =>
      clear HC5
      try clear c1
      try clear p2
      try clear c4
      try clear c6
      try clear c7
      try clear c8
      try clear c10
      try clear c11
      try clear c11b0
      try clear c11b1
      obtain ⟨kq, x28_4, rfl, HA, HJ4, HB⟩ := hcut
      cases kq with
      | zero => exact absurd HA.out (by simp [conclavelaw07_ScheduleChain.j0])
      | succ kj4 =>
        have H := HA.out
        clear HA
        simp only [conclavelaw07_ScheduleChain.j0] at H
        by_cases c12 : x28_4 = true
        · subst c12
          have H1 : (some true) = some r := by rw [if_pos rfl] at H; exact H
          clear H
          have H := H1
          clear H1
          obtain rfl := Option.some.inj H
          go_wp2
          go_ret
          exact ⟨by first | rfl | (simp [errW_none, errW_some] <;> rfl) | (simp [*, errW_none, errW_some] <;> rfl), by repeat (first | (with_reducible first | exact HB.out | apply below_alloc | apply pw_below_drewN | apply below_drew1) | exact HB.out)⟩
        · replace c12 := Bool.eq_false_iff.mpr c12
          subst c12
          have H1 : ((conclavelaw07_stores.f 9).bind fun t256 => ((schedule_Shared.f kj4 t256 l0).bind fun bt258 => ((schedule_Shared.f kj4 bt258.2 l1).bind fun bt260 => (if bt258.1 = 0 then (some false) else (if bt260.1 = 0 then (some false) else ((conclaveref01_Ints.f kj4 l0 l1).bind fun t262 => (some ((bt258.1 == bt260.1) == t262)))))))) = some r := by rw [if_neg (show ¬ (false = true) by decide)] at H; exact H
          clear H
          have H := H1
          clear H1
          replace H := Option.bind_eq_some_iff.mp H
          obtain ⟨t256, A130, H⟩ := H
          replace H : ((schedule_Shared.f kj4 t256 l0).bind fun bt258 => ((schedule_Shared.f kj4 bt258.2 l1).bind fun bt260 => (if bt258.1 = 0 then (some false) else (if bt260.1 = 0 then (some false) else ((conclaveref01_Ints.f kj4 l0 l1).bind fun t262 => (some ((bt258.1 == bt260.1) == t262))))))) = some r := H
          have A13 := Aside0.mk A130
          clear A130
          replace H := Option.bind_eq_some_iff.mp H
          obtain ⟨⟨t258, t259⟩, A140, H⟩ := H
          replace H : ((schedule_Shared.f kj4 t259 l1).bind fun bt260 => (if t258 = 0 then (some false) else (if bt260.1 = 0 then (some false) else ((conclaveref01_Ints.f kj4 l0 l1).bind fun t262 => (some ((t258 == bt260.1) == t262)))))) = some r := H
          have A14 := Aside0.mk A140
          clear A140
          replace H := Option.bind_eq_some_iff.mp H
          obtain ⟨⟨t260, t261⟩, A150, H⟩ := H
          replace H : (if t258 = 0 then (some false) else (if t260 = 0 then (some false) else ((conclaveref01_Ints.f kj4 l0 l1).bind fun t262 => (some ((t258 == t260) == t262))))) = some r := H
          have A15 := Aside0.mk A150
          clear A150
          by_cases c16 : t258 = 0
          · rw [if_pos c16] at H
            have c16b0 : (t258 == 0) = true := beq_iff_eq.mpr c16
            have c16b1 : (t258 != 0) = false := bne_eq_false_iff_eq.mpr c16
            clear c16
            obtain rfl := Option.some.inj H
            go_wp2_with (first | ((with_reducible refine gate_callee (f := 8) rfl ?_); refine goesL_ (some 30) rfl rfl Try.func8 (by kernel_rfl) rfl #[.int .i64 9] rfl (by (try simp only [List.map_toArray, List.map_cons, List.map_nil]); first | done | rfl | (simp only [List.length_drop, List.length_take]; rfl)) ?_; (with_reducible refine (conclavelaw07_stores.calls 9 t256 w _ ?side1 A13.out).mono ?_); (case side1 => repeat (first | (with_reducible first | exact HB.out | apply below_alloc | apply pw_below_drewN | apply below_drew1) | exact HB.out)); rintro e w17 ⟨g257, rfl, hi, hb, hb2⟩; refine ⟨_, rfl, ?_⟩; have n0_ := Aside0.mk (hb); have n1_ := Aside0.mk (hi); clear HB; have HB := n0_; have HI257 := n1_; clear n0_ n1_; (try clear hb); (try clear hb2); (try clear hk); (try clear hi)) | ((with_reducible refine gate_callee (f := 11) rfl ?_); refine goesL_ (some 37) rfl rfl Try.func11 (by kernel_rfl) rfl #[.pointer (some ⟨g257, 0, none⟩), .slice A0 l0.length c0] rfl (by (try simp only [List.map_toArray, List.map_cons, List.map_nil]); first | done | rfl | (simp only [List.length_drop, List.length_take]; rfl)) ?_; (with_reducible refine (schedule_Shared.calls kj4 g257 t256 _ _ l0 t258 t259 w _ ?side1 ?side2 ?side3 ?side4 ?side5 A14.out).mono ?_); (case side1 => repeat (first | (with_reducible first | exact HI257.out | apply IsS53.alloc | apply IsS53.drewN | apply IsS53.drew | apply IsS53.set_0) | exact HI257.out)); (case side2 => repeat (first | (with_reducible first | exact HB.out | apply below_alloc | apply pw_below_drewN | apply below_drew1 | refine below_set ?_ (IsS53.ge HI257.out)) | exact HB.out)); (case side3 => repeat (first | exact (Kd.C_below HR0.out HB.out) | (with_reducible refine Kd.C_alloc ?_ _) | (with_reducible refine Kd.C_drewN ?_ _) | (with_reducible refine Kd.C_drew ?_))); (case side4 => exact HC0.out); (case side5 => exact Kd.far_CS HR0.out); rintro e w18 ⟨rfl, hi, hb, hk⟩; refine ⟨_, rfl, ?_⟩; have n0_ := Aside0.mk (hb); have n1_ := Aside0.mk (hi); clear HB; clear HI257; have HB := n0_; have HI257 := n1_; clear n0_ n1_; (try clear hb); (try clear hb2); (try clear hk); (try clear hi)) | ((with_reducible refine gate_callee (f := 11) rfl ?_); refine goesL_ (some 40) rfl rfl Try.func11 (by kernel_rfl) rfl #[.pointer (some ⟨g257, 0, none⟩), .slice A1 l1.length c1] rfl (by (try simp only [List.map_toArray, List.map_cons, List.map_nil]); first | done | rfl | (simp only [List.length_drop, List.length_take]; rfl)) ?_; (with_reducible refine (schedule_Shared.calls kj4 g257 t259 _ _ l1 t260 t261 w _ ?side1 ?side2 ?side3 ?side4 ?side5 A15.out).mono ?_); (case side1 => repeat (first | (with_reducible first | exact HI257.out | apply IsS53.alloc | apply IsS53.drewN | apply IsS53.drew | apply IsS53.set_0) | exact HI257.out)); (case side2 => repeat (first | (with_reducible first | exact HB.out | apply below_alloc | apply pw_below_drewN | apply below_drew1 | refine below_set ?_ (IsS53.ge HI257.out)) | exact HB.out)); (case side3 => repeat (first | exact (Kd.C_below HR1.out HB.out) | (with_reducible refine Kd.C_alloc ?_ _) | (with_reducible refine Kd.C_drewN ?_ _) | (with_reducible refine Kd.C_drew ?_))); (case side4 => exact HC1.out); (case side5 => exact Kd.far_CS HR1.out); rintro e w19 ⟨rfl, hi, hb, hk⟩; refine ⟨_, rfl, ?_⟩; have n0_ := Aside0.mk (hb); have n1_ := Aside0.mk (hi); clear HB; clear HI257; have HB := n0_; have HI257 := n1_; clear n0_ n1_; (try clear hb); (try clear hb2); (try clear hk); (try clear hi)))
            go_ret
            exact ⟨by first | rfl | (simp [errW_none, errW_some] <;> rfl) | (simp [*, errW_none, errW_some] <;> rfl), by repeat (first | (with_reducible first | exact HB.out | apply below_alloc | apply pw_below_drewN | apply below_drew1 | refine below_set ?_ (IsS53.ge HI257.out)) | exact HB.out)⟩
          · rw [if_neg c16] at H
            have c16b0 : (t258 == 0) = false := beq_eq_false_iff_ne.mpr c16
            have c16b1 : (t258 != 0) = true := bne_iff_ne.mpr c16
            by_cases c20 : t260 = 0
            · rw [if_pos c20] at H
              have c20b0 : (t260 == 0) = true := beq_iff_eq.mpr c20
              have c20b1 : (t260 != 0) = false := bne_eq_false_iff_eq.mpr c20
              clear c20
              obtain rfl := Option.some.inj H
              go_wp2_with (first | ((with_reducible refine gate_callee (f := 8) rfl ?_); refine goesL_ (some 30) rfl rfl Try.func8 (by kernel_rfl) rfl #[.int .i64 9] rfl (by (try simp only [List.map_toArray, List.map_cons, List.map_nil]); first | done | rfl | (simp only [List.length_drop, List.length_take]; rfl)) ?_; (with_reducible refine (conclavelaw07_stores.calls 9 t256 w _ ?side1 A13.out).mono ?_); (case side1 => repeat (first | (with_reducible first | exact HB.out | apply below_alloc | apply pw_below_drewN | apply below_drew1) | exact HB.out)); rintro e w21 ⟨g257, rfl, hi, hb, hb2⟩; refine ⟨_, rfl, ?_⟩; have n0_ := Aside0.mk (hb); have n1_ := Aside0.mk (hi); clear HB; have HB := n0_; have HI257 := n1_; clear n0_ n1_; (try clear hb); (try clear hb2); (try clear hk); (try clear hi)) | ((with_reducible refine gate_callee (f := 11) rfl ?_); refine goesL_ (some 37) rfl rfl Try.func11 (by kernel_rfl) rfl #[.pointer (some ⟨g257, 0, none⟩), .slice A0 l0.length c0] rfl (by (try simp only [List.map_toArray, List.map_cons, List.map_nil]); first | done | rfl | (simp only [List.length_drop, List.length_take]; rfl)) ?_; (with_reducible refine (schedule_Shared.calls kj4 g257 t256 _ _ l0 t258 t259 w _ ?side1 ?side2 ?side3 ?side4 ?side5 A14.out).mono ?_); (case side1 => repeat (first | (with_reducible first | exact HI257.out | apply IsS53.alloc | apply IsS53.drewN | apply IsS53.drew | apply IsS53.set_0) | exact HI257.out)); (case side2 => repeat (first | (with_reducible first | exact HB.out | apply below_alloc | apply pw_below_drewN | apply below_drew1 | refine below_set ?_ (IsS53.ge HI257.out)) | exact HB.out)); (case side3 => repeat (first | exact (Kd.C_below HR0.out HB.out) | (with_reducible refine Kd.C_alloc ?_ _) | (with_reducible refine Kd.C_drewN ?_ _) | (with_reducible refine Kd.C_drew ?_))); (case side4 => exact HC0.out); (case side5 => exact Kd.far_CS HR0.out); rintro e w22 ⟨rfl, hi, hb, hk⟩; refine ⟨_, rfl, ?_⟩; have n0_ := Aside0.mk (hb); have n1_ := Aside0.mk (hi); clear HB; clear HI257; have HB := n0_; have HI257 := n1_; clear n0_ n1_; (try clear hb); (try clear hb2); (try clear hk); (try clear hi)) | ((with_reducible refine gate_callee (f := 11) rfl ?_); refine goesL_ (some 40) rfl rfl Try.func11 (by kernel_rfl) rfl #[.pointer (some ⟨g257, 0, none⟩), .slice A1 l1.length c1] rfl (by (try simp only [List.map_toArray, List.map_cons, List.map_nil]); first | done | rfl | (simp only [List.length_drop, List.length_take]; rfl)) ?_; (with_reducible refine (schedule_Shared.calls kj4 g257 t259 _ _ l1 t260 t261 w _ ?side1 ?side2 ?side3 ?side4 ?side5 A15.out).mono ?_); (case side1 => repeat (first | (with_reducible first | exact HI257.out | apply IsS53.alloc | apply IsS53.drewN | apply IsS53.drew | apply IsS53.set_0) | exact HI257.out)); (case side2 => repeat (first | (with_reducible first | exact HB.out | apply below_alloc | apply pw_below_drewN | apply below_drew1 | refine below_set ?_ (IsS53.ge HI257.out)) | exact HB.out)); (case side3 => repeat (first | exact (Kd.C_below HR1.out HB.out) | (with_reducible refine Kd.C_alloc ?_ _) | (with_reducible refine Kd.C_drewN ?_ _) | (with_reducible refine Kd.C_drew ?_))); (case side4 => exact HC1.out); (case side5 => exact Kd.far_CS HR1.out); rintro e w23 ⟨rfl, hi, hb, hk⟩; refine ⟨_, rfl, ?_⟩; have n0_ := Aside0.mk (hb); have n1_ := Aside0.mk (hi); clear HB; clear HI257; have HB := n0_; have HI257 := n1_; clear n0_ n1_; (try clear hb); (try clear hb2); (try clear hk); (try clear hi)))
              go_ret
              exact ⟨by first | rfl | (simp [errW_none, errW_some] <;> rfl) | (simp [*, errW_none, errW_some] <;> rfl), by repeat (first | (with_reducible first | exact HB.out | apply below_alloc | apply pw_below_drewN | apply below_drew1 | refine below_set ?_ (IsS53.ge HI257.out)) | exact HB.out)⟩
            · rw [if_neg c20] at H
              have c20b0 : (t260 == 0) = false := beq_eq_false_iff_ne.mpr c20
              have c20b1 : (t260 != 0) = true := bne_iff_ne.mpr c20
              replace H := Option.bind_eq_some_iff.mp H
              obtain ⟨t262, A240, H⟩ := H
              replace H : (some ((t258 == t260) == t262)) = some r := H
              have A24 := Aside0.mk A240
              clear A240
              obtain rfl := Option.some.inj H
              go_wp2_with (first | ((with_reducible refine gate_callee (f := 8) rfl ?_); refine goesL_ (some 30) rfl rfl Try.func8 (by kernel_rfl) rfl #[.int .i64 9] rfl (by (try simp only [List.map_toArray, List.map_cons, List.map_nil]); first | done | rfl | (simp only [List.length_drop, List.length_take]; rfl)) ?_; (with_reducible refine (conclavelaw07_stores.calls 9 t256 w _ ?side1 A13.out).mono ?_); (case side1 => repeat (first | (with_reducible first | exact HB.out | apply below_alloc | apply pw_below_drewN | apply below_drew1) | exact HB.out)); rintro e w25 ⟨g257, rfl, hi, hb, hb2⟩; refine ⟨_, rfl, ?_⟩; have n0_ := Aside0.mk (hb); have n1_ := Aside0.mk (hi); clear HB; have HB := n0_; have HI257 := n1_; clear n0_ n1_; (try clear hb); (try clear hb2); (try clear hk); (try clear hi)) | ((with_reducible refine gate_callee (f := 11) rfl ?_); refine goesL_ (some 37) rfl rfl Try.func11 (by kernel_rfl) rfl #[.pointer (some ⟨g257, 0, none⟩), .slice A0 l0.length c0] rfl (by (try simp only [List.map_toArray, List.map_cons, List.map_nil]); first | done | rfl | (simp only [List.length_drop, List.length_take]; rfl)) ?_; (with_reducible refine (schedule_Shared.calls kj4 g257 t256 _ _ l0 t258 t259 w _ ?side1 ?side2 ?side3 ?side4 ?side5 A14.out).mono ?_); (case side1 => repeat (first | (with_reducible first | exact HI257.out | apply IsS53.alloc | apply IsS53.drewN | apply IsS53.drew | apply IsS53.set_0) | exact HI257.out)); (case side2 => repeat (first | (with_reducible first | exact HB.out | apply below_alloc | apply pw_below_drewN | apply below_drew1 | refine below_set ?_ (IsS53.ge HI257.out)) | exact HB.out)); (case side3 => repeat (first | exact (Kd.C_below HR0.out HB.out) | (with_reducible refine Kd.C_alloc ?_ _) | (with_reducible refine Kd.C_drewN ?_ _) | (with_reducible refine Kd.C_drew ?_))); (case side4 => exact HC0.out); (case side5 => exact Kd.far_CS HR0.out); rintro e w26 ⟨rfl, hi, hb, hk⟩; refine ⟨_, rfl, ?_⟩; have n0_ := Aside0.mk (hb); have n1_ := Aside0.mk (hi); clear HB; clear HI257; have HB := n0_; have HI257 := n1_; clear n0_ n1_; (try clear hb); (try clear hb2); (try clear hk); (try clear hi)) | ((with_reducible refine gate_callee (f := 11) rfl ?_); refine goesL_ (some 40) rfl rfl Try.func11 (by kernel_rfl) rfl #[.pointer (some ⟨g257, 0, none⟩), .slice A1 l1.length c1] rfl (by (try simp only [List.map_toArray, List.map_cons, List.map_nil]); first | done | rfl | (simp only [List.length_drop, List.length_take]; rfl)) ?_; (with_reducible refine (schedule_Shared.calls kj4 g257 t259 _ _ l1 t260 t261 w _ ?side1 ?side2 ?side3 ?side4 ?side5 A15.out).mono ?_); (case side1 => repeat (first | (with_reducible first | exact HI257.out | apply IsS53.alloc | apply IsS53.drewN | apply IsS53.drew | apply IsS53.set_0) | exact HI257.out)); (case side2 => repeat (first | (with_reducible first | exact HB.out | apply below_alloc | apply pw_below_drewN | apply below_drew1 | refine below_set ?_ (IsS53.ge HI257.out)) | exact HB.out)); (case side3 => repeat (first | exact (Kd.C_below HR1.out HB.out) | (with_reducible refine Kd.C_alloc ?_ _) | (with_reducible refine Kd.C_drewN ?_ _) | (with_reducible refine Kd.C_drew ?_))); (case side4 => exact HC1.out); (case side5 => exact Kd.far_CS HR1.out); rintro e w27 ⟨rfl, hi, hb, hk⟩; refine ⟨_, rfl, ?_⟩; have n0_ := Aside0.mk (hb); have n1_ := Aside0.mk (hi); clear HB; clear HI257; have HB := n0_; have HI257 := n1_; clear n0_ n1_; (try clear hb); (try clear hb2); (try clear hk); (try clear hi)) | (go_at_call 12; (with_reducible refine (conclaveref01_Ints.calls kj4 _ _ l0 _ _ l1 t262 _ ?side1 ?side2 ?side3 ?side4 A24.out).mono ?_); (case side1 => repeat (first | exact (Kd.C_below HR0.out HB.out) | (with_reducible refine Kd.C_alloc ?_ _) | (with_reducible refine Kd.C_drewN ?_ _) | (with_reducible refine Kd.C_drew ?_))); (case side2 => exact HC0.out); (case side3 => repeat (first | exact (Kd.C_below HR1.out HB.out) | (with_reducible refine Kd.C_alloc ?_ _) | (with_reducible refine Kd.C_drewN ?_ _) | (with_reducible refine Kd.C_drew ?_))); (case side4 => exact HC1.out); rintro e w' ⟨rfl, ⟨nd, rfl⟩⟩))
              go_ret
              exact ⟨by first | rfl | (simp [errW_none, errW_some] <;> rfl) | (simp [*, errW_none, errW_some] <;> rfl), by repeat (first | (with_reducible first | exact HB.out | apply below_alloc | apply pw_below_drewN | apply below_drew1 | refine below_set ?_ (IsS53.ge HI257.out)) | exact HB.out)⟩
  · replace c4 := Bool.eq_false_iff.mpr c4
    subst c4
    have H1 : (some false) = some r := by rw [if_neg (show ¬ (false = true) by decide)] at H; exact H
    clear H
    have H := H1
    clear H1
    obtain rfl := Option.some.inj H
    go_enter Try.func4, Try.ntmps4
    go_wp2_with (first | ((with_reducible refine gate_callee (f := 6) rfl ?_); refine goesL_ (some 9) rfl rfl Try.func6 (by kernel_rfl) rfl #[] rfl (by (try simp only [List.map_toArray, List.map_cons, List.map_nil]); first | done | rfl | (simp only [List.length_drop, List.length_take]; rfl)) ?_; (with_reducible refine (conclavelaw07_anchor.calls k  false _ A3.out).mono ?_); rintro e w28 ⟨rfl, hb⟩; refine ⟨_, rfl, ?_⟩; have n0_ := Aside0.mk (below_step (by repeat (first | (with_reducible first | exact HB.out | apply below_alloc | apply pw_below_drewN | apply below_drew1) | exact HB.out)) hb); clear HB; have HB := n0_; clear n0_; (try clear hb); (try clear hb2); (try clear hk); (try clear hi)))
    go_ret
    exact ⟨by first | rfl | (simp [errW_none, errW_some] <;> rfl) | (simp [*, errW_none, errW_some] <;> rfl), by repeat (first | (with_reducible first | exact HB.out | apply below_alloc | apply pw_below_drewN | apply below_drew1) | exact HB.out)⟩

/-- THE ONE PURE STATEMENT of conclavelaw07_ScheduleChain: yours. -/
def conclavelaw07_ScheduleChain.Pure : Prop := ∀ (l0 : List Int) (l1 : List Int), l0.length ≤ maxLen → l0.length * 8 ≤ 140737488351232 → (∀ x ∈ l0, (Lit.int .i64 x).wf = true) → l1.length ≤ maxLen → l1.length * 8 ≤ 140737488351232 → (∀ x ∈ l1, (Lit.int .i64 x).wf = true) → ∃ k, conclavelaw07_ScheduleChain.f k l0 l1 = some true
theorem conclavelaw07_ScheduleChain.walk (P : conclavelaw07_ScheduleChain.Pure) (a0 : Option Addr) (len0 cap0 : Nat) (z0 : List Int) (a1 : Option Addr) (len1 cap1 : Nat) (z1 : List Int) (w : World) (w0 : (a0 = none ∧ len0 = 0 ∧ cap0 = 0 ∧ z0 = []) ∨ ∃ x, a0 = some x ∧ len0 ≤ cap0 ∧ cap0 ≤ maxLen ∧ z0.length = cap0 ∧ (∀ i, i < z0.length → w.cell? (x.add i) = some (.int .i64 (z0.getD i 0))) ∧ ∀ n ∈ z0, (Lit.int .i64 n).wf = true) (y0 : len0 * 8 ≤ 140737488351232) (w1 : (a1 = none ∧ len1 = 0 ∧ cap1 = 0 ∧ z1 = []) ∨ ∃ x, a1 = some x ∧ len1 ≤ cap1 ∧ cap1 ≤ maxLen ∧ z1.length = cap1 ∧ (∀ i, i < z1.length → w.cell? (x.add i) = some (.int .i64 (z1.getD i 0))) ∧ ∀ n ∈ z1, (Lit.int .i64 n).wf = true) (y1 : len1 * 8 ≤ 140737488351232) :
    Calls Try.prog 4 #[.slice a0 len0 cap0, .slice a1 len1 cap1] w fun e w' => e = .returned (.bool true) ∧ Below w.heap.size w w' := by
  obtain ⟨l0, rfl, hr0, hm0, hw0, hc0⟩ := ReadsInt.ofRowC w0
  obtain ⟨l1, rfl, hr1, hm1, hw1, hc1⟩ := ReadsInt.ofRowC w1
  obtain ⟨k, h⟩ := P l0 l1 hm0 y0 hw0 hm1 y1 hw1
  refine (conclavelaw07_ScheduleChain.calls k _ _ l0 _ _ l1 true w (Kd.C_of_reads (d := (0 : Int)) (h1 := fun _ => rfl) hr0) hc0 (Kd.C_of_reads (d := (0 : Int)) (h1 := fun _ => rfl) hr1) hc1 h).mono ?_
  rintro e w' ⟨rfl, hd⟩
  exact ⟨rfl, hd⟩

/-! ### schedule_Export: function 14 -/
def schedule_Export.f (s0_0 : TS) (a1_0 : Int) (a1_1 : Int) (a1_2 : Int) (a1_3 : Int) (a1_4 : Int) (a1_5 : Int) (a1_6 : Int) (a1_7 : Int) (a1_8 : Int) (a1_9 : Int) (a1_10 : Int) (a1_11 : Int) (a1_12 : Int) (a2 : ByteArray) (a3 : ByteArray) : Option (Int × TS) := (term_Store_Text.f s0_0 a2).bind fun bt264 => ((term_Store_Kdf.f bt264.2 (⟨#[101, 120, 112, 111, 114, 116, 101, 100]⟩ : ByteArray) a1_7 bt264.1).bind fun bt266 => ((term_Store_Text.f bt266.2 a3).bind fun bt268 => ((term_Store_Kdf.f bt268.2 (⟨#[101, 120, 112, 111, 114, 116]⟩ : ByteArray) bt266.1 bt268.1).bind fun bt270 => (some (bt270.1, bt270.2)))))
def schedule_Export.T1 : Bool × List (List Nat × List Nat) := (true, [([], []), ([], []), ([], []), ([2], [2]), ([], []), ([], []), ([4, 5], [4, 5]), ([1, 3, 6, 6], [1, 3, 6]), ([], []), ([], []), ([8, 9, 7], [8, 9]), ([0, 7, 10, 10], [0, 7, 10]), ([11, 11, 0, 1, 2, 3, 4, 5, 6, 7, 8, 9, 10, 11], [11])])
def schedule_Export.B1 : List Nat := [0, 0, 0, 4, 0, 0, 48, 126, 0, 0, 1022, 2047, 4095]
theorem schedule_Export.tab1 : rtab .any (opsOf Try.f14 1) = schedule_Export.T1 := by kernel_rfl
theorem schedule_Export.bits1 : waitsOk schedule_Export.T1.2 schedule_Export.B1 = true := by kernel_rfl
set_option maxHeartbeats 8000000 in
set_option maxRecDepth 100000 in
theorem schedule_Export.calls (g : Nat) (s0_0 : TS) (a1_0 : Int) (a1_1 : Int) (a1_2 : Int) (a1_3 : Int) (a1_4 : Int) (a1_5 : Int) (a1_6 : Int) (a1_7 : Int) (a1_8 : Int) (a1_9 : Int) (a1_10 : Int) (a1_11 : Int) (a1_12 : Int) (a2 : ByteArray) (a3 : ByteArray) (r1 : Int) (r2 : TS) (w0 w : World) (hI : IsS53 w0 w g s0_0) (hB : Below w0.heap.size w0 w) (h : schedule_Export.f s0_0 a1_0 a1_1 a1_2 a1_3 a1_4 a1_5 a1_6 a1_7 a1_8 a1_9 a1_10 a1_11 a1_12 a2 a3 = some (r1, r2)) :
    Calls Try.prog 14 #[.pointer (some ⟨g, 0, none⟩), .agg #[.int .i64 a1_0, .int .i64 a1_1, .int .i64 a1_2, .int .i64 a1_3, .int .i64 a1_4, .int .i64 a1_5, .int .i64 a1_6, .int .i64 a1_7, .int .i64 a1_8, .int .i64 a1_9, .int .i64 a1_10, .int .i64 a1_11, .int .i64 a1_12], .string a2, .string a3] w fun e w' => e = .returned (.int .i64 r1) ∧ IsS53 w0 w' g r2 ∧ Below w0.heap.size w0 w' ∧ KeepSt w w' w0 := by
  have hu31 := Try.underlying31
  have HI0 := Aside0.mk hI
  have HK := Aside0.mk (KeepSt.refl w w0)
  have HL := Aside0.mk hB.size
  clear hI
  have HW0 := Aside0.mk hB.size
  have HB := Aside0.mk hB
  clear hB
  have H : ((term_Store_Text.f s0_0 a2).bind fun bt264 => ((term_Store_Kdf.f bt264.2 (⟨#[101, 120, 112, 111, 114, 116, 101, 100]⟩ : ByteArray) a1_7 bt264.1).bind fun bt266 => ((term_Store_Text.f bt266.2 a3).bind fun bt268 => ((term_Store_Kdf.f bt268.2 (⟨#[101, 120, 112, 111, 114, 116]⟩ : ByteArray) bt266.1 bt268.1).bind fun bt270 => (some (bt270.1, bt270.2)))))) = some (r1, r2) := h
  clear h
  replace H := Option.bind_eq_some_iff.mp H
  obtain ⟨⟨t264, t265⟩, A50, H⟩ := H
  replace H : ((term_Store_Kdf.f t265 (⟨#[101, 120, 112, 111, 114, 116, 101, 100]⟩ : ByteArray) a1_7 t264).bind fun bt266 => ((term_Store_Text.f bt266.2 a3).bind fun bt268 => ((term_Store_Kdf.f bt268.2 (⟨#[101, 120, 112, 111, 114, 116]⟩ : ByteArray) bt266.1 bt268.1).bind fun bt270 => (some (bt270.1, bt270.2))))) = some (r1, r2) := H
  have A5 := Aside0.mk A50
  clear A50
  replace H := Option.bind_eq_some_iff.mp H
  obtain ⟨⟨t266, t267⟩, A60, H⟩ := H
  replace H : ((term_Store_Text.f t267 a3).bind fun bt268 => ((term_Store_Kdf.f bt268.2 (⟨#[101, 120, 112, 111, 114, 116]⟩ : ByteArray) t266 bt268.1).bind fun bt270 => (some (bt270.1, bt270.2)))) = some (r1, r2) := H
  have A6 := Aside0.mk A60
  clear A60
  replace H := Option.bind_eq_some_iff.mp H
  obtain ⟨⟨t268, t269⟩, A70, H⟩ := H
  replace H : ((term_Store_Kdf.f t269 (⟨#[101, 120, 112, 111, 114, 116]⟩ : ByteArray) t266 t268).bind fun bt270 => (some (bt270.1, bt270.2))) = some (r1, r2) := H
  have A7 := Aside0.mk A70
  clear A70
  replace H := Option.bind_eq_some_iff.mp H
  obtain ⟨⟨t270, t271⟩, A80, H⟩ := H
  replace H : (some (t270, t271)) = some (r1, r2) := H
  have A8 := Aside0.mk A80
  clear A80
  simp only [Option.some.injEq, Prod.mk.injEq] at H
  obtain ⟨rfl, rfl⟩ := H
  go_enter Try.func14, Try.ntmps14
  try go_wp2_with (first | ((with_reducible refine gate_dst (N := 5) rfl ?_); refine box_event ?hg (N := 5) ?hd (cs := #[.int .i64 a1_0, .int .i64 a1_1, .int .i64 a1_2, .int .i64 a1_3, .int .i64 a1_4, .int .i64 a1_5, .int .i64 a1_6, .int .i64 a1_7, .int .i64 a1_8, .int .i64 a1_9, .int .i64 a1_10, .int .i64 a1_11, .int .i64 a1_12]) (t := 31) ?hr ?_; (case hd => rfl); (case hg => rfl); (case hr => first | (go_simp; done) | (go_simp; rfl)); intro gb263 hg w9 hbox hb; have n0_ := Aside0.mk (IsS53.below (by repeat (first | (with_reducible first | exact HI0.out | apply IsS53.alloc | apply IsS53.drewN | apply IsS53.drew | apply IsS53.set_0) | exact HI0.out)) hb); have n1_ := Aside0.mk (KeepSt.trans (by repeat (first | (with_reducible first | exact HK.out | apply KeepSt.drewN | apply KeepSt.drew | apply KeepSt.alloc) | exact HK.out)) (KeepSt.of_below hb w0)); have n2_ := Aside0.mk (below_step (by repeat (first | (with_reducible first | exact HB.out | apply below_alloc | apply pw_below_drewN | apply below_drew1 | refine below_set ?_ (IsS53.ge HI0.out)) | exact HB.out)) hb); have n3_ := Aside0.mk (hbox); have n4_ := Aside0.mk ((by rw [hg]; exact (KeepSt.size (w := w) (w0 := w0) (by repeat (first | (with_reducible first | exact HK.out | apply KeepSt.drewN | apply KeepSt.drew | apply KeepSt.alloc) | exact HK.out))) : w.heap.size ≤ gb263)); have n5_ := Aside0.mk ((Nat.le_trans HW0.out (by rw [hg]; exact (KeepSt.size (w := w) (w0 := w0) (by repeat (first | (with_reducible first | exact HK.out | apply KeepSt.drewN | apply KeepSt.drew | apply KeepSt.alloc) | exact HK.out))) : w.heap.size ≤ gb263) : w0.heap.size ≤ gb263)); have n6_ := Aside0.mk ((by rw [hg]; exact Nat.ne_of_lt (IsS53.lt (show IsS53 w0 _ g s0_0 from by repeat (first | (with_reducible first | exact HI0.out | apply IsS53.alloc | apply IsS53.drewN | apply IsS53.drew | apply IsS53.set_0) | exact HI0.out))) : g ≠ gb263)); have n7_ := Aside0.mk ((by rw [hg]; exact Nat.ne_of_gt (IsS53.lt (show IsS53 w0 _ g s0_0 from by repeat (first | (with_reducible first | exact HI0.out | apply IsS53.alloc | apply IsS53.drewN | apply IsS53.drew | apply IsS53.set_0) | exact HI0.out))) : gb263 ≠ g)); clear HI0; clear HK; clear HB; have HI0 := n0_; have HK := n1_; have HB := n2_; have BK263 := n3_; have GW263 := n4_; have GE263 := n5_; have NB0_263 := n6_; have NB263_0 := n7_; clear n0_ n1_ n2_ n3_ n4_ n5_ n6_ n7_; clear hb hbox hg))
  have n0_ := Aside0.mk (blk_drew BK263.out)
  have n1_ := Aside0.mk (IsS53.drew HI0.out)
  have n2_ := Aside0.mk (KeepSt.drew HK.out)
  have n3_ := Aside0.mk (below_drew1 HB.out)
  clear BK263
  clear HI0
  clear HK
  clear HB
  have BK263 := n0_
  have HI0 := n1_
  have HK := n2_
  have HB := n3_
  clear n0_ n1_ n2_ n3_
  refine start_ (n := 13) (S := fun w' => w'.cell? ⟨gb263, 0, none⟩ = some (.int .i64 a1_0) ∧ w'.cell? ⟨gb263, 1, none⟩ = some (.int .i64 a1_1) ∧ w'.cell? ⟨gb263, 2, none⟩ = some (.int .i64 a1_2) ∧ w'.cell? ⟨gb263, 3, none⟩ = some (.int .i64 a1_3) ∧ w'.cell? ⟨gb263, 4, none⟩ = some (.int .i64 a1_4) ∧ w'.cell? ⟨gb263, 5, none⟩ = some (.int .i64 a1_5) ∧ w'.cell? ⟨gb263, 6, none⟩ = some (.int .i64 a1_6) ∧ w'.cell? ⟨gb263, 7, none⟩ = some (.int .i64 a1_7) ∧ w'.cell? ⟨gb263, 8, none⟩ = some (.int .i64 a1_8) ∧ w'.cell? ⟨gb263, 9, none⟩ = some (.int .i64 a1_9) ∧ w'.cell? ⟨gb263, 10, none⟩ = some (.int .i64 a1_10) ∧ w'.cell? ⟨gb263, 11, none⟩ = some (.int .i64 a1_11) ∧ w'.cell? ⟨gb263, 12, none⟩ = some (.int .i64 a1_12)) (ds := []) #[false, false, false, false, false, false, false, false, false, false, false, false, false] (by kernel_rfl) rfl rfl ⟨(blk_cell BK263.out 0).trans rfl, (blk_cell BK263.out 1).trans rfl, (blk_cell BK263.out 2).trans rfl, (blk_cell BK263.out 3).trans rfl, (blk_cell BK263.out 4).trans rfl, (blk_cell BK263.out 5).trans rfl, (blk_cell BK263.out 6).trans rfl, (blk_cell BK263.out 7).trans rfl, (blk_cell BK263.out 8).trans rfl, (blk_cell BK263.out 9).trans rfl, (blk_cell BK263.out 10).trans rfl, (blk_cell BK263.out 11).trans rfl, (blk_cell BK263.out 12).trans rfl⟩ (fun hHeld => ?_); refine with_tabW schedule_Export.tab1 schedule_Export.bits1 (fun HT_ HW_ => ?_)
  generalize w9.drew = w10 at BK263 HI0 HK HB hHeld ⊢
  refine pure_ (i := 0) (N := some 9) (v := ?_) (a' := ?_) #[true, false, false, false, false, false, false, false, false, false, false, false, false] rfl rfl (any_of HT_.out (by kernel_rfl)) (fun _ _ _ h => h) (Or.inl ⟨by rfl, ?_⟩) ?_ ?_
  rotate_left
  · intro w'
    go_simp
    with_reducible rfl
  rotate_left
  · simp only [Act.put, List.setIfInBounds_toArray, List.set_cons_zero, List.set_cons_succ, i64_w, i32_w]
    rfl
  refine pure_ (i := 1) (N := some 10) (v := ?_) (a' := ?_) #[true, true, false, false, false, false, false, false, false, false, false, false, false] rfl rfl (any_of HT_.out (by kernel_rfl)) (fun _ _ _ h => h) (Or.inl ⟨by rfl, ?_⟩) ?_ ?_
  rotate_left
  · intro w'
    go_simp
    with_reducible rfl
  rotate_left
  · simp only [Act.put, List.setIfInBounds_toArray, List.set_cons_zero, List.set_cons_succ, i64_w, i32_w]
    rfl
  refine pure_ (i := 2) (N := some 11) (v := ?_) (a' := ?_) #[true, true, true, false, false, false, false, false, false, false, false, false, false] rfl rfl (any_of HT_.out (by kernel_rfl)) (fun _ _ _ h => h) (Or.inl ⟨by rfl, ?_⟩) ?_ ?_
  rotate_left
  · intro w'
    go_simp
    with_reducible rfl
  rotate_left
  · simp only [Act.put, List.setIfInBounds_toArray, List.set_cons_zero, List.set_cons_succ, i64_w, i32_w]
    rfl
  refine pure_ (i := 4) (N := some 13) (v := ?_) (a' := ?_) #[true, true, true, false, true, false, false, false, false, false, false, false, false] rfl rfl (any_of HT_.out (by kernel_rfl)) (fun _ _ _ h => h) (Or.inl ⟨by rfl, ?_⟩) ?_ ?_
  rotate_left
  · intro w'
    go_simp
    with_reducible rfl
  rotate_left
  · simp only [Act.put, List.setIfInBounds_toArray, List.set_cons_zero, List.set_cons_succ, i64_w, i32_w]
    rfl
  refine pure_ (i := 5) (N := some 14) (v := ?_) (a' := ?_) #[true, true, true, false, true, true, false, false, false, false, false, false, false] rfl rfl (any_of HT_.out (by kernel_rfl)) (fun _ _ _ h => h) (Or.inl ⟨by rfl, ?_⟩) ?_ ?_
  rotate_left
  · intro w'
    go_simp
    with_reducible rfl
  rotate_left
  · simp only [Act.put, List.setIfInBounds_toArray, List.set_cons_zero, List.set_cons_succ, i64_w, i32_w]
    rfl
  refine pure_ (i := 8) (N := some 17) (v := ?_) (a' := ?_) #[true, true, true, false, true, true, false, false, true, false, false, false, false] rfl rfl (any_of HT_.out (by kernel_rfl)) (fun _ _ _ h => h) (Or.inl ⟨by rfl, ?_⟩) ?_ ?_
  rotate_left
  · intro w'
    go_simp
    with_reducible rfl
  rotate_left
  · simp only [Act.put, List.setIfInBounds_toArray, List.set_cons_zero, List.set_cons_succ, i64_w, i32_w]
    rfl
  refine pure_ (i := 9) (N := some 18) (v := ?_) (a' := ?_) #[true, true, true, false, true, true, false, false, true, true, false, false, false] rfl rfl (any_of HT_.out (by kernel_rfl)) (fun _ _ _ h => h) (Or.inl ⟨by rfl, ?_⟩) ?_ ?_
  rotate_left
  · intro w'
    go_simp
    with_reducible rfl
  rotate_left
  · simp only [Act.put, List.setIfInBounds_toArray, List.set_cons_zero, List.set_cons_succ, i64_w, i32_w]
    rfl
  refine take_ (i := 3) (N := some 12) (v := ?_) (a' := ?_) #[true, true, true, true, true, true, false, false, true, true, false, false, false] rfl rfl (take_ofW HT_.out HW_.out (by kernel_rfl)) (fun _ _ _ h => h) (Or.inl ⟨by rfl, ?_⟩) hHeld ?_ ?_
  rotate_left
  · rintro w' ⟨s0, s1, s2, s3, s4, s5, s6, s7, s8, s9, s10, s11, s12⟩
    go_simp
    with_reducible rfl
  rotate_left
  · simp only [Act.put, List.setIfInBounds_toArray, List.set_cons_zero, List.set_cons_succ, i64_w, i32_w]
    rfl
  refine one_ (i := 6) (N := some 15) #[true, true, true, true, true, true, true, false, true, true, false, false, false] rfl rfl (one_of HT_.out (by kernel_rfl)) (by decide) (fun K hK => ?_)
  refine goes_ Try.func13 (by kernel_rfl) rfl #[.pointer (some ⟨g, 0, none⟩), .string a2] (by rfl) rfl rfl (by (try simp only [List.map_toArray, List.map_cons, List.map_nil]); first | done | rfl | (simp only [List.length_drop, List.length_take]; rfl)) ?_
  with_reducible refine (term_Store_Text.calls g s0_0 a2 t264 t265 w0 _ ?side1 ?side2 A5.out).mono ?_
  (case side1 => repeat (first | (with_reducible first | exact HI0.out | apply IsS53.alloc | apply IsS53.drewN | apply IsS53.drew | apply IsS53.set_0 | refine IsS53.far ?_ (by repeat (first | (with_reducible first | exact Nsty.of BK263.out rfl | apply Nsty.set | apply Nsty.drewN | apply Nsty.drew | apply Nsty.alloc) | exact Nsty.of BK263.out rfl)) _) | exact HI0.out))
  (case side2 => repeat (first | (with_reducible first | exact HB.out | apply below_alloc | apply pw_below_drewN | apply below_drew1 | refine below_set ?_ (IsS53.ge HI0.out) | refine below_set ?_ GE263.out) | exact HB.out))
  rintro e w11 ⟨rfl, hi, hb, hk⟩
  refine ⟨_, rfl, ?_⟩
  have n0_ := Aside0.mk (KeepSt.blk hk (g' := gb263) (o := .cells #[.int .i64 a1_0, .int .i64 a1_1, .int .i64 a1_2, .int .i64 a1_3, .int .i64 a1_4, .int .i64 a1_5, .int .i64 a1_6, .int .i64 a1_7, .int .i64 a1_8, .int .i64 a1_9, .int .i64 a1_10, .int .i64 a1_11, .int .i64 a1_12] 31 (0, 0)) (by (with_reducible repeat (first | refine blk_drewN ?_ _ | refine blk_drew ?_ | refine blk_alloc ?_ _)); exact BK263.out) NB263_0.out rfl)
  have n1_ := Aside0.mk (KeepSt.trans (by repeat (first | (with_reducible first | exact HK.out | apply KeepSt.drewN | apply KeepSt.drew | apply KeepSt.alloc | refine KeepSt.far ?_ GW263.out _) | exact HK.out)) hk)
  have n2_ := Aside0.mk (hb)
  have n3_ := Aside0.mk (hi)
  clear BK263
  clear HK
  clear HB
  clear HI0
  have BK263 := n0_
  have HK := n1_
  have HB := n2_
  have HI0 := n3_
  clear n0_ n1_ n2_ n3_
  (try clear hb)
  (try clear hb2)
  (try clear hk)
  (try clear hi)
  refine hK.out _ _ ⟨(blk_cell BK263.out 0).trans rfl, (blk_cell BK263.out 1).trans rfl, (blk_cell BK263.out 2).trans rfl, (blk_cell BK263.out 3).trans rfl, (blk_cell BK263.out 4).trans rfl, (blk_cell BK263.out 5).trans rfl, (blk_cell BK263.out 6).trans rfl, (blk_cell BK263.out 7).trans rfl, (blk_cell BK263.out 8).trans rfl, (blk_cell BK263.out 9).trans rfl, (blk_cell BK263.out 10).trans rfl, (blk_cell BK263.out 11).trans rfl, (blk_cell BK263.out 12).trans rfl⟩ (fun hHeld => ?_)
  clear hK K
  refine norm_ (a' := ?_) ?_ ?_
  rotate_left
  · show Act.put _ (some 15) _ = _
    simp only [Act.put, List.setIfInBounds_toArray, List.set_cons_zero, List.set_cons_succ, i64_w, i32_w]
    rfl
  refine one_ (i := 7) (N := some 16) #[true, true, true, true, true, true, true, true, true, true, false, false, false] rfl rfl (one_of HT_.out (by kernel_rfl)) (by decide) (fun K hK => ?_)
  refine goes_ Try.func16 (by kernel_rfl) rfl #[.pointer (some ⟨g, 0, none⟩), .string (⟨#[101, 120, 112, 111, 114, 116, 101, 100]⟩ : ByteArray), .int .i64 a1_7, .int .i64 t264] (by rfl) rfl rfl (by (try simp only [List.map_toArray, List.map_cons, List.map_nil]); first | done | rfl | (simp only [List.length_drop, List.length_take]; rfl)) ?_
  with_reducible refine (term_Store_Kdf.calls g t265 (⟨#[101, 120, 112, 111, 114, 116, 101, 100]⟩ : ByteArray) a1_7 t264 t266 t267 w0 _ ?side1 ?side2 A6.out).mono ?_
  (case side1 => repeat (first | (with_reducible first | exact HI0.out | apply IsS53.alloc | apply IsS53.drewN | apply IsS53.drew | apply IsS53.set_0 | refine IsS53.far ?_ (by repeat (first | (with_reducible first | exact Nsty.of BK263.out rfl | apply Nsty.set | apply Nsty.drewN | apply Nsty.drew | apply Nsty.alloc) | exact Nsty.of BK263.out rfl)) _) | exact HI0.out))
  (case side2 => repeat (first | (with_reducible first | exact HB.out | apply below_alloc | apply pw_below_drewN | apply below_drew1 | refine below_set ?_ (IsS53.ge HI0.out) | refine below_set ?_ GE263.out) | exact HB.out))
  rintro e w12 ⟨rfl, hi, hb, hk⟩
  refine ⟨_, rfl, ?_⟩
  have n0_ := Aside0.mk (KeepSt.blk hk (g' := gb263) (o := .cells #[.int .i64 a1_0, .int .i64 a1_1, .int .i64 a1_2, .int .i64 a1_3, .int .i64 a1_4, .int .i64 a1_5, .int .i64 a1_6, .int .i64 a1_7, .int .i64 a1_8, .int .i64 a1_9, .int .i64 a1_10, .int .i64 a1_11, .int .i64 a1_12] 31 (0, 0)) (by (with_reducible repeat (first | refine blk_drewN ?_ _ | refine blk_drew ?_ | refine blk_alloc ?_ _)); exact BK263.out) NB263_0.out rfl)
  have n1_ := Aside0.mk (KeepSt.trans (by repeat (first | (with_reducible first | exact HK.out | apply KeepSt.drewN | apply KeepSt.drew | apply KeepSt.alloc | refine KeepSt.far ?_ GW263.out _) | exact HK.out)) hk)
  have n2_ := Aside0.mk (hb)
  have n3_ := Aside0.mk (hi)
  clear BK263
  clear HK
  clear HB
  clear HI0
  have BK263 := n0_
  have HK := n1_
  have HB := n2_
  have HI0 := n3_
  clear n0_ n1_ n2_ n3_
  (try clear hb)
  (try clear hb2)
  (try clear hk)
  (try clear hi)
  refine hK.out _ _ ⟨(blk_cell BK263.out 0).trans rfl, (blk_cell BK263.out 1).trans rfl, (blk_cell BK263.out 2).trans rfl, (blk_cell BK263.out 3).trans rfl, (blk_cell BK263.out 4).trans rfl, (blk_cell BK263.out 5).trans rfl, (blk_cell BK263.out 6).trans rfl, (blk_cell BK263.out 7).trans rfl, (blk_cell BK263.out 8).trans rfl, (blk_cell BK263.out 9).trans rfl, (blk_cell BK263.out 10).trans rfl, (blk_cell BK263.out 11).trans rfl, (blk_cell BK263.out 12).trans rfl⟩ (fun hHeld => ?_)
  clear hK K
  refine norm_ (a' := ?_) ?_ ?_
  rotate_left
  · show Act.put _ (some 16) _ = _
    simp only [Act.put, List.setIfInBounds_toArray, List.set_cons_zero, List.set_cons_succ, i64_w, i32_w]
    rfl
  refine one_ (i := 10) (N := some 19) #[true, true, true, true, true, true, true, true, true, true, true, false, false] rfl rfl (one_of HT_.out (by kernel_rfl)) (by decide) (fun K hK => ?_)
  refine goes_ Try.func13 (by kernel_rfl) rfl #[.pointer (some ⟨g, 0, none⟩), .string a3] (by rfl) rfl rfl (by (try simp only [List.map_toArray, List.map_cons, List.map_nil]); first | done | rfl | (simp only [List.length_drop, List.length_take]; rfl)) ?_
  with_reducible refine (term_Store_Text.calls g t267 a3 t268 t269 w0 _ ?side1 ?side2 A7.out).mono ?_
  (case side1 => repeat (first | (with_reducible first | exact HI0.out | apply IsS53.alloc | apply IsS53.drewN | apply IsS53.drew | apply IsS53.set_0 | refine IsS53.far ?_ (by repeat (first | (with_reducible first | exact Nsty.of BK263.out rfl | apply Nsty.set | apply Nsty.drewN | apply Nsty.drew | apply Nsty.alloc) | exact Nsty.of BK263.out rfl)) _) | exact HI0.out))
  (case side2 => repeat (first | (with_reducible first | exact HB.out | apply below_alloc | apply pw_below_drewN | apply below_drew1 | refine below_set ?_ (IsS53.ge HI0.out) | refine below_set ?_ GE263.out) | exact HB.out))
  rintro e w13 ⟨rfl, hi, hb, hk⟩
  refine ⟨_, rfl, ?_⟩
  have n0_ := Aside0.mk (KeepSt.blk hk (g' := gb263) (o := .cells #[.int .i64 a1_0, .int .i64 a1_1, .int .i64 a1_2, .int .i64 a1_3, .int .i64 a1_4, .int .i64 a1_5, .int .i64 a1_6, .int .i64 a1_7, .int .i64 a1_8, .int .i64 a1_9, .int .i64 a1_10, .int .i64 a1_11, .int .i64 a1_12] 31 (0, 0)) (by (with_reducible repeat (first | refine blk_drewN ?_ _ | refine blk_drew ?_ | refine blk_alloc ?_ _)); exact BK263.out) NB263_0.out rfl)
  have n1_ := Aside0.mk (KeepSt.trans (by repeat (first | (with_reducible first | exact HK.out | apply KeepSt.drewN | apply KeepSt.drew | apply KeepSt.alloc | refine KeepSt.far ?_ GW263.out _) | exact HK.out)) hk)
  have n2_ := Aside0.mk (hb)
  have n3_ := Aside0.mk (hi)
  clear BK263
  clear HK
  clear HB
  clear HI0
  have BK263 := n0_
  have HK := n1_
  have HB := n2_
  have HI0 := n3_
  clear n0_ n1_ n2_ n3_
  (try clear hb)
  (try clear hb2)
  (try clear hk)
  (try clear hi)
  refine hK.out _ _ ⟨(blk_cell BK263.out 0).trans rfl, (blk_cell BK263.out 1).trans rfl, (blk_cell BK263.out 2).trans rfl, (blk_cell BK263.out 3).trans rfl, (blk_cell BK263.out 4).trans rfl, (blk_cell BK263.out 5).trans rfl, (blk_cell BK263.out 6).trans rfl, (blk_cell BK263.out 7).trans rfl, (blk_cell BK263.out 8).trans rfl, (blk_cell BK263.out 9).trans rfl, (blk_cell BK263.out 10).trans rfl, (blk_cell BK263.out 11).trans rfl, (blk_cell BK263.out 12).trans rfl⟩ (fun hHeld => ?_)
  clear hK K
  refine norm_ (a' := ?_) ?_ ?_
  rotate_left
  · show Act.put _ (some 19) _ = _
    simp only [Act.put, List.setIfInBounds_toArray, List.set_cons_zero, List.set_cons_succ, i64_w, i32_w]
    rfl
  refine one_ (i := 11) (N := some 20) #[true, true, true, true, true, true, true, true, true, true, true, true, false] rfl rfl (one_of HT_.out (by kernel_rfl)) (by decide) (fun K hK => ?_)
  refine goes_ Try.func16 (by kernel_rfl) rfl #[.pointer (some ⟨g, 0, none⟩), .string (⟨#[101, 120, 112, 111, 114, 116]⟩ : ByteArray), .int .i64 t266, .int .i64 t268] (by rfl) rfl rfl (by (try simp only [List.map_toArray, List.map_cons, List.map_nil]); first | done | rfl | (simp only [List.length_drop, List.length_take]; rfl)) ?_
  with_reducible refine (term_Store_Kdf.calls g t269 (⟨#[101, 120, 112, 111, 114, 116]⟩ : ByteArray) t266 t268 t270 t271 w0 _ ?side1 ?side2 A8.out).mono ?_
  (case side1 => repeat (first | (with_reducible first | exact HI0.out | apply IsS53.alloc | apply IsS53.drewN | apply IsS53.drew | apply IsS53.set_0 | refine IsS53.far ?_ (by repeat (first | (with_reducible first | exact Nsty.of BK263.out rfl | apply Nsty.set | apply Nsty.drewN | apply Nsty.drew | apply Nsty.alloc) | exact Nsty.of BK263.out rfl)) _) | exact HI0.out))
  (case side2 => repeat (first | (with_reducible first | exact HB.out | apply below_alloc | apply pw_below_drewN | apply below_drew1 | refine below_set ?_ (IsS53.ge HI0.out) | refine below_set ?_ GE263.out) | exact HB.out))
  rintro e w14 ⟨rfl, hi, hb, hk⟩
  refine ⟨_, rfl, ?_⟩
  have n0_ := Aside0.mk (KeepSt.blk hk (g' := gb263) (o := .cells #[.int .i64 a1_0, .int .i64 a1_1, .int .i64 a1_2, .int .i64 a1_3, .int .i64 a1_4, .int .i64 a1_5, .int .i64 a1_6, .int .i64 a1_7, .int .i64 a1_8, .int .i64 a1_9, .int .i64 a1_10, .int .i64 a1_11, .int .i64 a1_12] 31 (0, 0)) (by (with_reducible repeat (first | refine blk_drewN ?_ _ | refine blk_drew ?_ | refine blk_alloc ?_ _)); exact BK263.out) NB263_0.out rfl)
  have n1_ := Aside0.mk (KeepSt.trans (by repeat (first | (with_reducible first | exact HK.out | apply KeepSt.drewN | apply KeepSt.drew | apply KeepSt.alloc | refine KeepSt.far ?_ GW263.out _) | exact HK.out)) hk)
  have n2_ := Aside0.mk (hb)
  have n3_ := Aside0.mk (hi)
  clear BK263
  clear HK
  clear HB
  clear HI0
  have BK263 := n0_
  have HK := n1_
  have HB := n2_
  have HI0 := n3_
  clear n0_ n1_ n2_ n3_
  (try clear hb)
  (try clear hb2)
  (try clear hk)
  (try clear hi)
  refine hK.out _ _ ⟨(blk_cell BK263.out 0).trans rfl, (blk_cell BK263.out 1).trans rfl, (blk_cell BK263.out 2).trans rfl, (blk_cell BK263.out 3).trans rfl, (blk_cell BK263.out 4).trans rfl, (blk_cell BK263.out 5).trans rfl, (blk_cell BK263.out 6).trans rfl, (blk_cell BK263.out 7).trans rfl, (blk_cell BK263.out 8).trans rfl, (blk_cell BK263.out 9).trans rfl, (blk_cell BK263.out 10).trans rfl, (blk_cell BK263.out 11).trans rfl, (blk_cell BK263.out 12).trans rfl⟩ (fun hHeld => ?_)
  clear hK K
  refine norm_ (a' := ?_) ?_ ?_
  rotate_left
  · show Act.put _ (some 20) _ = _
    simp only [Act.put, List.setIfInBounds_toArray, List.set_cons_zero, List.set_cons_succ, i64_w, i32_w]
    rfl
  refine pure_ (i := 12) (N := some 8) (v := ?_) (a' := ?_) #[true, true, true, true, true, true, true, true, true, true, true, true, true] rfl rfl (any_of HT_.out (by kernel_rfl)) (fun _ _ _ h => h) (Or.inl ⟨by rfl, ?_⟩) ?_ ?_
  rotate_left
  · intro w'
    go_simp
    with_reducible rfl
  rotate_left
  · simp only [Act.put, List.setIfInBounds_toArray, List.set_cons_zero, List.set_cons_succ, i64_w, i32_w]
    rfl
  refine done_ (done_of HT_.out (by kernel_rfl)) ?_
  try go_wp2
  go_ret
  exact ⟨by first | rfl | (simp [errW_none, errW_some] <;> rfl) | (simp [*, errW_none, errW_some] <;> rfl), by repeat (first | (with_reducible first | exact HI0.out | apply IsS53.alloc | apply IsS53.drewN | apply IsS53.drew | apply IsS53.set_0 | refine IsS53.far ?_ (by repeat (first | (with_reducible first | exact Nsty.of BK263.out rfl | apply Nsty.set | apply Nsty.drewN | apply Nsty.drew | apply Nsty.alloc) | exact Nsty.of BK263.out rfl)) _) | exact HI0.out), by repeat (first | (with_reducible first | exact HB.out | apply below_alloc | apply pw_below_drewN | apply below_drew1 | refine below_set ?_ (IsS53.ge HI0.out) | refine below_set ?_ GE263.out) | exact HB.out), by repeat (first | (with_reducible first | exact HK.out | apply KeepSt.drewN | apply KeepSt.drew | apply KeepSt.alloc | refine KeepSt.far ?_ GW263.out _) | exact HK.out)⟩

end Go.Proofs.Yteoamlnnaabomaa.PSc
