-- Written by a program of this session over the translation.
import Derived.Test.YtbblomnhobodkaaDoorPTvx0
import Derived.Test.YtbblomnhobodkaaDoorPTvx1
import Derived.Test.YtbblomnhobodkaaDoorPTvx7
import Derived.Test.YtbblomnhobodkaaDoorPTvx8
import Derived.Test.YtbblomnhobodkaaDoorPTvx9
namespace Go.Proofs.YtbblomnhobodkaaDoor.PTv
open Go.RowKit Go.Proofs.YtbblomnhobodkaaDoorW.PrintWords Go.Proofs.YtbblomnhobodkaaDoorW.PrintLast Go.Proofs.YtbblomnhobodkaaDoorW.PrintMore
attribute [local go_sem] max2_int min2_int max_two min_two max_three min_three max_four min_four   -- for this text's walks alone
set_option linter.unusedVariables false
set_option linter.unusedSimpArgs false

/-! ### conclaveref04_Check: function 16 -/
mutual
def conclaveref04_Check.j0 : Nat → List (S29) → Bool → Option (Bool)
  | 0, _, _ => none
  | k + 1, x0, x18 => if x18 = true then (some false) else (conclaveref04_Check.l0 k x0 0)
def conclaveref04_Check.l0 : Nat → List (S29) → Int → Option (Bool)
  | 0, _, _ => none
  | k + 1, x0, x3 => if x3 < (x0.length : Int) then ((conclaveref04_vertex.f k x0 x3).bind fun t320 => (if t320 = true then (conclaveref04_Check.l0 k x0 (wrap64 (x3 + 1))) else (some false))) else (some true)
end
def conclaveref04_Check.f (k : Nat) (l0 : List (S29)) : Option (Bool) := if ((l0.length : Int) % 2) = 0 then (conclaveref04_Check.j0 k l0 true) else ((conclaveref04_Leaves.f l0).bind fun t317 => ((conclaveref03_Right.f t317).bind fun t318 => (if t318 = true then ((conclaveref04_Tight.f k l0).bind fun t319 => (conclaveref04_Check.j0 k l0 (!t319))) else (conclaveref04_Check.j0 k l0 true))))
theorem conclaveref04_Check.mono_l : ∀ k, (∀ y0 y1, LeO (conclaveref04_Check.j0 k y0 y1) (conclaveref04_Check.j0 (k + 1) y0 y1)) ∧ (∀ y0 y1, LeO (conclaveref04_Check.l0 k y0 y1) (conclaveref04_Check.l0 (k + 1) y0 y1))
  | 0 => ⟨fun _ _ r h => by simp [conclaveref04_Check.j0] at h, fun _ _ r h => by simp [conclaveref04_Check.l0] at h⟩
  | k + 1 => by
    obtain ⟨ih0, ih1⟩ := conclaveref04_Check.mono_l k
    refine ⟨?_, ?_⟩
    · intro y0 y1
      unfold conclaveref04_Check.j0
      repeat' first
      | (with_reducible exact ih0 _ _)
      | (with_reducible exact ih1 _ _)
      | (with_reducible exact conclaveref04_Tight.mono _ _)
      | (with_reducible exact conclaveref04_vertex.mono _ _ _)
      | (with_reducible exact LeO.refl _)
      | (with_reducible exact LeO.none _)
      | (with_reducible refine LeO.ite ?_ ?_)
      | (with_reducible refine LeO.bind ?_ (fun _ => ?_))
      | exact ih0 _ _
      | exact ih1 _ _
      | exact conclaveref04_Tight.mono _ _
      | exact conclaveref04_vertex.mono _ _ _
      | exact LeO.none _
      | refine LeO.ite ?_ ?_
      | refine LeO.bind ?_ (fun _ => ?_)
    · intro y0 y1
      unfold conclaveref04_Check.l0
      repeat' first
      | (with_reducible exact ih0 _ _)
      | (with_reducible exact ih1 _ _)
      | (with_reducible exact conclaveref04_Tight.mono _ _)
      | (with_reducible exact conclaveref04_vertex.mono _ _ _)
      | (with_reducible exact LeO.refl _)
      | (with_reducible exact LeO.none _)
      | (with_reducible refine LeO.ite ?_ ?_)
      | (with_reducible refine LeO.bind ?_ (fun _ => ?_))
      | exact ih0 _ _
      | exact ih1 _ _
      | exact conclaveref04_Tight.mono _ _
      | exact conclaveref04_vertex.mono _ _ _
      | exact LeO.none _
      | refine LeO.ite ?_ ?_
      | refine LeO.bind ?_ (fun _ => ?_)
theorem conclaveref04_Check.mono : ∀ a0 k, LeO (conclaveref04_Check.f k a0) (conclaveref04_Check.f (k + 1) a0) := by
  intro a0 k
  obtain ⟨ih0, ih1⟩ := conclaveref04_Check.mono_l k
  unfold conclaveref04_Check.f
  repeat' first
      | (with_reducible exact ih0 _ _)
      | (with_reducible exact ih1 _ _)
      | (with_reducible exact conclaveref04_Tight.mono _ _)
      | (with_reducible exact conclaveref04_vertex.mono _ _ _)
      | (with_reducible exact LeO.refl _)
      | (with_reducible exact LeO.none _)
      | (with_reducible refine LeO.ite ?_ ?_)
      | (with_reducible refine LeO.bind ?_ (fun _ => ?_))
      | exact ih0 _ _
      | exact ih1 _ _
      | exact conclaveref04_Tight.mono _ _
      | exact conclaveref04_vertex.mono _ _ _
      | exact LeO.none _
      | refine LeO.ite ?_ ?_
      | refine LeO.bind ?_ (fun _ => ?_)
set_option maxHeartbeats 8000000 in
set_option maxRecDepth 100000 in
theorem conclaveref04_Check.calls (k : Nat) (A0 : Option Addr) (c0 : Nat) (l0 : List (S29)) (r : Bool) (w : World) (hr0 : Kd.C k29 w A0 l0.length l0) (hc0 : l0.length ≤ c0) (h : conclaveref04_Check.f k l0 = some r) :
    Calls Tryd.prog 16 #[.slice A0 l0.length c0] w fun e w' => e = .returned (.bool r) ∧ Below w.heap.size w w' := by
  have HR0 := Aside0.mk hr0
  have HC0 := Aside0.mk hc0
  clear hr0 hc0
  have HB := Aside0.mk (Below.refl w.heap.size w)
  have H : (if ((l0.length : Int) % 2) = 0 then (conclaveref04_Check.j0 k l0 true) else ((conclaveref04_Leaves.f l0).bind fun t317 => ((conclaveref03_Right.f t317).bind fun t318 => (if t318 = true then ((conclaveref04_Tight.f k l0).bind fun t319 => (conclaveref04_Check.j0 k l0 (!t319))) else (conclaveref04_Check.j0 k l0 true))))) = some r := h
  clear h
  have HC2 := Aside0.mk H
  clear H
  go_enter Tryd.func16, Tryd.ntmps16
  go_upto_region 1 with (fail)
  go_cut [18] (fun v18 wc => ∃ (kq : Nat) (x18_1 : Bool), v18 = .bool x18_1 ∧ Aside0 (conclaveref04_Check.j0 kq l0 x18_1 = some r) ∧ Aside0 (kq ≤ k) ∧ Aside0 (Below w.heap.size w wc))
  case first =>
    have H := HC2.out
    clear HC2
    by_cases c3 : ((l0.length : Int) % 2) = 0
    · rw [if_pos c3] at H
      have c3b0 : (((l0.length : Int) % 2) == 0) = true := beq_iff_eq.mpr c3
      have c3b1 : (((l0.length : Int) % 2) != 0) = false := bne_eq_false_iff_eq.mpr c3
      clear c3
      (first | rw [c3b0] | (simp only [i64_w, i32_w]; rw [c3b0]) | skip)
      have H' := Aside0.mk H
      clear H
      go_wp2
      go_meet
      case rel => exact ⟨_, (true), (by first | rfl | (simp; done) | (simp [*]; done)), H', ⟨by first | omega | exact Nat.le_refl _⟩, ⟨by repeat (first | (with_reducible first | exact HB.out | apply below_alloc | apply pw_below_drewN | apply below_drew1) | exact HB.out)⟩⟩
    · rw [if_neg c3] at H
      have c3b0 : (((l0.length : Int) % 2) == 0) = false := beq_eq_false_iff_ne.mpr c3
      have c3b1 : (((l0.length : Int) % 2) != 0) = true := bne_iff_ne.mpr c3
      (first | rw [c3b0] | (simp only [i64_w, i32_w]; rw [c3b0]) | skip)
      replace H := Option.bind_eq_some_iff.mp H
      obtain ⟨t317, A40, H⟩ := H
      replace H : ((conclaveref03_Right.f t317).bind fun t318 => (if t318 = true then ((conclaveref04_Tight.f k l0).bind fun t319 => (conclaveref04_Check.j0 k l0 (!t319))) else (conclaveref04_Check.j0 k l0 true))) = some r := H
      have A4 := Aside0.mk A40
      clear A40
      replace H := Option.bind_eq_some_iff.mp H
      obtain ⟨t318, A50, H⟩ := H
      replace H : (if t318 = true then ((conclaveref04_Tight.f k l0).bind fun t319 => (conclaveref04_Check.j0 k l0 (!t319))) else (conclaveref04_Check.j0 k l0 true)) = some r := H
      have A5 := Aside0.mk A50
      clear A50
      by_cases c6 : t318 = true
      · subst c6
        have H1 : ((conclaveref04_Tight.f k l0).bind fun t319 => (conclaveref04_Check.j0 k l0 (!t319))) = some r := by rw [if_pos rfl] at H; exact H
        clear H
        have H := H1
        clear H1
        replace H := Option.bind_eq_some_iff.mp H
        obtain ⟨t319, A70, H⟩ := H
        replace H : (conclaveref04_Check.j0 k l0 (!t319)) = some r := H
        have A7 := Aside0.mk A70
        clear A70
        have H' := Aside0.mk H
        clear H
        go_wp2_with (first | (go_at_call 21; (with_reducible refine (conclaveref04_Leaves.calls _ _ l0 t317 _ ?side1 ?side2 A4.out).mono ?_); (case side1 => repeat (first | exact (Kd.C_below HR0.out HB.out) | (with_reducible refine Kd.C_alloc ?_ _) | (with_reducible refine Kd.C_drewN ?_ _) | (with_reducible refine Kd.C_drew ?_))); (case side2 => exact HC0.out); rintro e w' ⟨rfl, ⟨nd, rfl⟩⟩) | (go_at_call 44; (with_reducible refine (conclaveref03_Right.calls t317 true _ A5.out).mono ?_); rintro e w' ⟨rfl, ⟨nd, rfl⟩⟩) | (go_at_call 45; (with_reducible refine (conclaveref04_Tight.calls k _ _ l0 t319 _ ?side1 ?side2 A7.out).mono ?_); (case side1 => repeat (first | exact (Kd.C_below HR0.out (by repeat (first | (with_reducible first | exact HB.out | apply below_alloc | apply pw_below_drewN | apply below_drew1) | exact HB.out))) | (with_reducible refine Kd.C_alloc ?_ _) | (with_reducible refine Kd.C_drewN ?_ _) | (with_reducible refine Kd.C_drew ?_))); (case side2 => exact HC0.out); rintro e w' ⟨rfl, ⟨nd, rfl⟩⟩))
        go_meet
        case rel => exact ⟨_, (!t319), (by first | rfl | (simp; done) | (simp [*]; done)), H', ⟨by first | omega | exact Nat.le_refl _⟩, ⟨by repeat (first | (with_reducible first | exact HB.out | apply below_alloc | apply pw_below_drewN | apply below_drew1) | exact HB.out)⟩⟩
      · replace c6 := Bool.eq_false_iff.mpr c6
        subst c6
        have H1 : (conclaveref04_Check.j0 k l0 true) = some r := by rw [if_neg (show ¬ (false = true) by decide)] at H; exact H
        clear H
        have H := H1
        clear H1
        have H' := Aside0.mk H
        clear H
        go_wp2_with (first | (go_at_call 21; (with_reducible refine (conclaveref04_Leaves.calls _ _ l0 t317 _ ?side1 ?side2 A4.out).mono ?_); (case side1 => repeat (first | exact (Kd.C_below HR0.out HB.out) | (with_reducible refine Kd.C_alloc ?_ _) | (with_reducible refine Kd.C_drewN ?_ _) | (with_reducible refine Kd.C_drew ?_))); (case side2 => exact HC0.out); rintro e w' ⟨rfl, ⟨nd, rfl⟩⟩) | (go_at_call 44; (with_reducible refine (conclaveref03_Right.calls t317 false _ A5.out).mono ?_); rintro e w' ⟨rfl, ⟨nd, rfl⟩⟩))
        go_meet
        case rel => exact ⟨_, (true), (by first | rfl | (simp; done) | (simp [*]; done)), H', ⟨by first | omega | exact Nat.le_refl _⟩, ⟨by repeat (first | (with_reducible first | exact HB.out | apply below_alloc | apply pw_below_drewN | apply below_drew1) | exact HB.out)⟩⟩
  case rest =>
    clear HC2
    try clear c1
    try clear p2
    try clear c3
    try clear c3b0
    try clear c3b1
    try clear c6
    obtain ⟨kq, x18_1, rfl, HA, HJ1, HB⟩ := hcut
    cases kq with
    | zero => exact absurd HA.out (by simp [conclaveref04_Check.j0])
    | succ kj1 =>
      have H := HA.out
      clear HA
      simp only [conclaveref04_Check.j0] at H
      by_cases c8 : x18_1 = true
      · subst c8
        have H1 : (some false) = some r := by rw [if_pos rfl] at H; exact H
        clear H
        have H := H1
        clear H1
        obtain rfl := Option.some.inj H
        go_wp2
        go_ret
        exact ⟨by first | rfl | (simp [errW_none, errW_some] <;> rfl) | (simp [*, errW_none, errW_some] <;> rfl), by repeat (first | (with_reducible first | exact HB.out | apply below_alloc | apply pw_below_drewN | apply below_drew1) | exact HB.out)⟩
      · replace c8 := Bool.eq_false_iff.mpr c8
        subst c8
        have H1 : (conclaveref04_Check.l0 kj1 l0 0) = some r := by rw [if_neg (show ¬ (false = true) by decide)] at H; exact H
        clear H
        have H := H1
        clear H1
        have H' := Aside0.mk H
        clear H
        go_wp2
        go_loopg [3] kj1 (fun kq v3 w' => ∃ (x3_2 : Int), v3 = .int .i64 x3_2 ∧ Aside0 (conclaveref04_Check.l0 kq l0 x3_2 = some r) ∧ Aside0 (kq ≤ kj1) ∧ Aside0 (Below w.heap.size w w'))
        case atStart => exact ⟨(0), (by first | rfl | (simp; done) | (simp [*]; done)), H', ⟨Nat.le_refl _⟩, ⟨by repeat (first | (with_reducible first | exact HB.out | apply below_alloc | apply pw_below_drewN | apply below_drew1) | exact HB.out)⟩⟩
        case round =>
          clear H'
          try clear c1
          try clear p2
          try clear c3
          try clear c3b0
          try clear c3b1
          try clear c6
          try clear c8
          try clear p2
          obtain ⟨x3_2, rfl, HA, HK2, HB⟩ := hrel
          cases gk with
          | zero => exact absurd HA.out (by simp [conclaveref04_Check.l0])
          | succ k2 =>
            have H := HA.out
            clear HA
            simp only [conclaveref04_Check.l0] at H
            by_cases c9 : x3_2 < (l0.length : Int)
            · rw [if_pos c9] at H
              have c9b0 : decide (x3_2 < (l0.length : Int)) = true := decide_eq_true c9
              clear c9
              replace H := Option.bind_eq_some_iff.mp H
              obtain ⟨t320, A100, H⟩ := H
              replace H : (if t320 = true then (conclaveref04_Check.l0 k2 l0 (wrap64 (x3_2 + 1))) else (some false)) = some r := H
              have A10 := Aside0.mk A100
              clear A100
              by_cases c11 : t320 = true
              · subst c11
                have H1 : (conclaveref04_Check.l0 k2 l0 (wrap64 (x3_2 + 1))) = some r := by rw [if_pos rfl] at H; exact H
                clear H
                have H := H1
                clear H1
                have H' := Aside0.mk H
                clear H
                go_wp2_with (first | ((with_reducible refine gate_callee (f := 46) rfl ?_); refine goesL_ (some 27) rfl rfl Tryd.func46 (by kernel_rfl) rfl #[.slice A0 l0.length c0, .int .i64 x3_2] rfl (by (try simp only [List.map_toArray, List.map_cons, List.map_nil]); first | done | rfl | (simp only [List.length_drop, List.length_take]; rfl)) ?_; (with_reducible refine (conclaveref04_vertex.calls k2 _ _ l0 x3_2 true _ ?side1 ?side2 A10.out).mono ?_); (case side1 => repeat (first | exact (Kd.C_below HR0.out HB.out) | (with_reducible refine Kd.C_alloc ?_ _) | (with_reducible refine Kd.C_drewN ?_ _) | (with_reducible refine Kd.C_drew ?_))); (case side2 => exact HC0.out); rintro e w12 ⟨rfl, hb⟩; refine ⟨_, rfl, ?_⟩; have n0_ := Aside0.mk (below_step (by repeat (first | (with_reducible first | exact HB.out | apply below_alloc | apply pw_below_drewN | apply below_drew1) | exact HB.out)) hb); clear HB; have HB := n0_; clear n0_; (try clear hb); (try clear hb2); (try clear hk); (try clear hi)))
                go_roundg k2
                case measure => have := HJ1.out; have := HK2.out; omega
                case rel => exact ⟨(wrap64 (x3_2 + 1)), (by first | rfl | (simp; done) | (simp [*]; done)), H', ⟨by have := HJ1.out; have := HK2.out; omega⟩, ⟨by repeat (first | (with_reducible first | exact HB.out | apply below_alloc | apply pw_below_drewN | apply below_drew1) | exact HB.out)⟩⟩
              · replace c11 := Bool.eq_false_iff.mpr c11
                subst c11
                have H1 : (some false) = some r := by rw [if_neg (show ¬ (false = true) by decide)] at H; exact H
                clear H
                have H := H1
                clear H1
                obtain rfl := Option.some.inj H
                go_wp2_with (first | ((with_reducible refine gate_callee (f := 46) rfl ?_); refine goesL_ (some 27) rfl rfl Tryd.func46 (by kernel_rfl) rfl #[.slice A0 l0.length c0, .int .i64 x3_2] rfl (by (try simp only [List.map_toArray, List.map_cons, List.map_nil]); first | done | rfl | (simp only [List.length_drop, List.length_take]; rfl)) ?_; (with_reducible refine (conclaveref04_vertex.calls k2 _ _ l0 x3_2 false _ ?side1 ?side2 A10.out).mono ?_); (case side1 => repeat (first | exact (Kd.C_below HR0.out HB.out) | (with_reducible refine Kd.C_alloc ?_ _) | (with_reducible refine Kd.C_drewN ?_ _) | (with_reducible refine Kd.C_drew ?_))); (case side2 => exact HC0.out); rintro e w13 ⟨rfl, hb⟩; refine ⟨_, rfl, ?_⟩; have n0_ := Aside0.mk (below_step (by repeat (first | (with_reducible first | exact HB.out | apply below_alloc | apply pw_below_drewN | apply below_drew1) | exact HB.out)) hb); clear HB; have HB := n0_; clear n0_; (try clear hb); (try clear hb2); (try clear hk); (try clear hi)))
                go_ret
                exact ⟨by first | rfl | (simp [errW_none, errW_some] <;> rfl) | (simp [*, errW_none, errW_some] <;> rfl), by repeat (first | (with_reducible first | exact HB.out | apply below_alloc | apply pw_below_drewN | apply below_drew1) | exact HB.out)⟩
            · rw [if_neg c9] at H
              have c9b0 : decide (x3_2 < (l0.length : Int)) = false := decide_eq_false c9
              clear c9
              obtain rfl := Option.some.inj H
              go_wp2
              go_ret
              exact ⟨by first | rfl | (simp [errW_none, errW_some] <;> rfl) | (simp [*, errW_none, errW_some] <;> rfl), by repeat (first | (with_reducible first | exact HB.out | apply below_alloc | apply pw_below_drewN | apply below_drew1) | exact HB.out)⟩

end Go.Proofs.YtbblomnhobodkaaDoor.PTv
