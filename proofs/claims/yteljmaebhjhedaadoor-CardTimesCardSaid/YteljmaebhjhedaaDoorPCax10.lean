-- Written by a program of this session over the translation.
import Derived.Test.YteljmaebhjhedaaDoorPCax0
import Derived.Test.YteljmaebhjhedaaDoorPCax1
import Derived.Test.YteljmaebhjhedaaDoorPCax2
import Derived.Test.YteljmaebhjhedaaDoorPCax3
import Derived.Test.YteljmaebhjhedaaDoorPCax4
import Derived.Test.YteljmaebhjhedaaDoorPCax5
namespace Go.Proofs.YteljmaebhjhedaaDoor.PCa
open Go.RowKit Go.Proofs.YteljmaebhjhedaaDoorW.PrintWords Go.Proofs.YteljmaebhjhedaaDoorW.PrintLast Go.Proofs.YteljmaebhjhedaaDoorW.PrintMore
attribute [local go_sem] max2_int min2_int max_two min_two max_three min_three max_four min_four   -- for this text's walks alone
set_option linter.unusedVariables false
set_option linter.unusedSimpArgs false

/-! ### conclavelaw09_CardTimes: function 4 -/
attribute [local go_sem high] eqA30
mutual
def conclavelaw09_CardTimes.j0 : Nat → Int → Int → Int → Int → Bool → Option (Bool)
  | 0, _, _, _, _, _ => none
  | k + 1, x0, x1, x2, x3, x32 => if x32 = true then (some true) else ((conclavelaw09_stores.f 9).bind fun t247 => (conclavelaw09_CardTimes.l0 k x0 x1 x2 x3 ([] : List Int) 0 t247))
def conclavelaw09_CardTimes.l0 : Nat → Int → Int → Int → Int → List Int → Int → TS → Option (Bool)
  | 0, _, _, _, _, _, _, _ => none
  | k + 1, x0, x1, x2, x3, x11, x12, x249000 => if x12 < x3 then ((term_Store_Pub.f x249000 2).bind fun bt249 => (if x11.length < 17592186044416 then (conclavelaw09_CardTimes.l0 k x0 x1 x2 x3 (x11 ++ [bt249.1]) (wrap64 (x12 + 1)) bt249.2) else (none))) else ((term_Store_Pub.f x249000 1).bind fun bt254 => (if 0 ≤ x2 then (if x2 < (x11.length : Int) then ((some (x11.set (x2 : Int).toNat bt254.1 : List Int)).bind fun y256 => ((card_Make.f k bt254.2 x2 1 3 4 x0).bind fun bt257 => ((card_Check.f k bt257.2.2.2.2.2.2 bt257.1 bt257.2.1 bt257.2.2.1 bt257.2.2.2.1 bt257.2.2.2.2.1 bt257.2.2.2.2.2.1 x1 y256).bind fun bt264 => ((card_Make.f k bt264.2 x2 5 3 4 x0).bind fun bt266 => ((card_Check.f k bt266.2.2.2.2.2.2 bt266.1 bt266.2.1 bt266.2.2.1 bt266.2.2.2.1 bt266.2.2.2.2.1 bt266.2.2.2.2.2.1 x1 y256).bind fun bt273 => ((card_Make.f k bt273.2 x3 1 3 4 x0).bind fun bt275 => ((card_Check.f k bt275.2.2.2.2.2.2 bt275.1 bt275.2.1 bt275.2.2.1 bt275.2.2.2.1 bt275.2.2.2.2.1 bt275.2.2.2.2.2.1 x1 y256).bind fun bt282 => (if bt273.1 = 90 then (if bt282.1 = 90 then (if ((bt264.1 == 0) == (decide (x1 ≤ x0))) = true then (some ((bt264.1 == 91) == (decide (x1 > x0)))) else (some false)) else (some false)) else (some false))))))))) else (none)) else (none)))
end
def conclavelaw09_CardTimes.f (k : Nat) (a0 : Int) (a1 : Int) (a2 : Int) (a3 : Int) : Option (Bool) := (conclavelaw09_anchor.f k).bind fun t246 => (if t246 = true then (if a3 < 1 then (conclavelaw09_CardTimes.j0 k a0 a1 a2 a3 true) else (if a3 > 20 then (conclavelaw09_CardTimes.j0 k a0 a1 a2 a3 true) else (if a2 < 0 then (conclavelaw09_CardTimes.j0 k a0 a1 a2 a3 true) else (conclavelaw09_CardTimes.j0 k a0 a1 a2 a3 (decide (a2 ≥ a3)))))) else (some false))
theorem conclavelaw09_CardTimes.mono_l : ∀ k, (∀ y0 y1 y2 y3 y4, LeO (conclavelaw09_CardTimes.j0 k y0 y1 y2 y3 y4) (conclavelaw09_CardTimes.j0 (k + 1) y0 y1 y2 y3 y4)) ∧ (∀ y0 y1 y2 y3 y4 y5 y6, LeO (conclavelaw09_CardTimes.l0 k y0 y1 y2 y3 y4 y5 y6) (conclavelaw09_CardTimes.l0 (k + 1) y0 y1 y2 y3 y4 y5 y6))
  | 0 => ⟨fun _ _ _ _ _ r h => by simp [conclavelaw09_CardTimes.j0] at h, fun _ _ _ _ _ _ _ r h => by simp [conclavelaw09_CardTimes.l0] at h⟩
  | k + 1 => by
    obtain ⟨ih0, ih1⟩ := conclavelaw09_CardTimes.mono_l k
    refine ⟨?_, ?_⟩
    · intro y0 y1 y2 y3 y4
      unfold conclavelaw09_CardTimes.j0
      repeat' first
      | (with_reducible exact ih0 _ _ _ _ _)
      | (with_reducible exact ih1 _ _ _ _ _ _ _)
      | (with_reducible exact card_Check.mono _ _ _ _ _ _ _ _ _ _)
      | (with_reducible exact card_Make.mono _ _ _ _ _ _ _)
      | (with_reducible exact conclavelaw09_anchor.mono _)
      | (with_reducible exact LeO.refl _)
      | (with_reducible exact LeO.none _)
      | (with_reducible refine LeO.ite ?_ ?_)
      | (with_reducible refine LeO.bind ?_ (fun _ => ?_))
      | exact ih0 _ _ _ _ _
      | exact ih1 _ _ _ _ _ _ _
      | exact card_Check.mono _ _ _ _ _ _ _ _ _ _
      | exact card_Make.mono _ _ _ _ _ _ _
      | exact conclavelaw09_anchor.mono _
      | exact LeO.none _
      | refine LeO.ite ?_ ?_
      | refine LeO.bind ?_ (fun _ => ?_)
    · intro y0 y1 y2 y3 y4 y5 y6
      unfold conclavelaw09_CardTimes.l0
      repeat' first
      | (with_reducible exact ih0 _ _ _ _ _)
      | (with_reducible exact ih1 _ _ _ _ _ _ _)
      | (with_reducible exact card_Check.mono _ _ _ _ _ _ _ _ _ _)
      | (with_reducible exact card_Make.mono _ _ _ _ _ _ _)
      | (with_reducible exact conclavelaw09_anchor.mono _)
      | (with_reducible exact LeO.refl _)
      | (with_reducible exact LeO.none _)
      | (with_reducible refine LeO.ite ?_ ?_)
      | (with_reducible refine LeO.bind ?_ (fun _ => ?_))
      | exact ih0 _ _ _ _ _
      | exact ih1 _ _ _ _ _ _ _
      | exact card_Check.mono _ _ _ _ _ _ _ _ _ _
      | exact card_Make.mono _ _ _ _ _ _ _
      | exact conclavelaw09_anchor.mono _
      | exact LeO.none _
      | refine LeO.ite ?_ ?_
      | refine LeO.bind ?_ (fun _ => ?_)
theorem conclavelaw09_CardTimes.mono : ∀ a0 a1 a2 a3 k, LeO (conclavelaw09_CardTimes.f k a0 a1 a2 a3) (conclavelaw09_CardTimes.f (k + 1) a0 a1 a2 a3) := by
  intro a0 a1 a2 a3 k
  obtain ⟨ih0, ih1⟩ := conclavelaw09_CardTimes.mono_l k
  unfold conclavelaw09_CardTimes.f
  repeat' first
      | (with_reducible exact ih0 _ _ _ _ _)
      | (with_reducible exact ih1 _ _ _ _ _ _ _)
      | (with_reducible exact card_Check.mono _ _ _ _ _ _ _ _ _ _)
      | (with_reducible exact card_Make.mono _ _ _ _ _ _ _)
      | (with_reducible exact conclavelaw09_anchor.mono _)
      | (with_reducible exact LeO.refl _)
      | (with_reducible exact LeO.none _)
      | (with_reducible refine LeO.ite ?_ ?_)
      | (with_reducible refine LeO.bind ?_ (fun _ => ?_))
      | exact ih0 _ _ _ _ _
      | exact ih1 _ _ _ _ _ _ _
      | exact card_Check.mono _ _ _ _ _ _ _ _ _ _
      | exact card_Make.mono _ _ _ _ _ _ _
      | exact conclavelaw09_anchor.mono _
      | exact LeO.none _
      | refine LeO.ite ?_ ?_
      | refine LeO.bind ?_ (fun _ => ?_)
set_option maxHeartbeats 8000000 in
set_option maxRecDepth 100000 in
theorem conclavelaw09_CardTimes.calls (k : Nat) (a0 : Int) (a1 : Int) (a2 : Int) (a3 : Int) (r : Bool) (w : World) (hrG : TabG w) (h : conclavelaw09_CardTimes.f k a0 a1 a2 a3 = some r) (hr : r = true) :
    Calls Tryd.prog 4 #[.int .i64 a0, .int .i64 a1, .int .i64 a2, .int .i64 a3] w fun e w' => e = .returned (.bool r) ∧ Below w.heap.size w w' := by
  have HRG := Aside0.mk hrG
  clear hrG
  have HB := Aside0.mk (Below.refl w.heap.size w)
  have H : ((conclavelaw09_anchor.f k).bind fun t246 => (if t246 = true then (if a3 < 1 then (conclavelaw09_CardTimes.j0 k a0 a1 a2 a3 true) else (if a3 > 20 then (conclavelaw09_CardTimes.j0 k a0 a1 a2 a3 true) else (if a2 < 0 then (conclavelaw09_CardTimes.j0 k a0 a1 a2 a3 true) else (conclavelaw09_CardTimes.j0 k a0 a1 a2 a3 (decide (a2 ≥ a3)))))) else (some false))) = some r := h
  clear h
  replace H := Option.bind_eq_some_iff.mp H
  obtain ⟨t246, A50, H⟩ := H
  replace H : (if t246 = true then (if a3 < 1 then (conclavelaw09_CardTimes.j0 k a0 a1 a2 a3 true) else (if a3 > 20 then (conclavelaw09_CardTimes.j0 k a0 a1 a2 a3 true) else (if a2 < 0 then (conclavelaw09_CardTimes.j0 k a0 a1 a2 a3 true) else (conclavelaw09_CardTimes.j0 k a0 a1 a2 a3 (decide (a2 ≥ a3)))))) else (some false)) = some r := H
  have A5 := Aside0.mk A50
  clear A50
  by_cases c6 : t246 = true
  · subst c6
    have H1 : (if a3 < 1 then (conclavelaw09_CardTimes.j0 k a0 a1 a2 a3 true) else (if a3 > 20 then (conclavelaw09_CardTimes.j0 k a0 a1 a2 a3 true) else (if a2 < 0 then (conclavelaw09_CardTimes.j0 k a0 a1 a2 a3 true) else (conclavelaw09_CardTimes.j0 k a0 a1 a2 a3 (decide (a2 ≥ a3)))))) = some r := by rw [if_pos rfl] at H; exact H
    clear H
    have H := H1
    clear H1
    have HC7 := Aside0.mk H
    clear H
    go_enter Tryd.func4, Tryd.ntmps4
    go_upto_region 3 with (first | ((with_reducible refine gate_callee (f := 7) rfl ?_); refine goesL_ (some 16) rfl rfl Tryd.func7 (by kernel_rfl) rfl #[] rfl (by (try simp only [List.map_toArray, List.map_cons, List.map_nil]); first | done | rfl | (simp only [List.length_drop, List.length_take]; rfl)) ?_; (with_reducible refine (conclavelaw09_anchor.calls (hrG := ?sideG) k  true _ A5.out).mono ?_); (case sideG => (first | (with_reducible exact HRG.out) | exact TabG.below HRG.out (by repeat (first | (with_reducible first | exact HB.out | apply below_alloc | apply pw_below_drewN | apply below_drew1 | refine below_set ?_ (IsS60.ge HI248.out)) | (with_reducible exact Below.refl _ _))))); rintro e w8 ⟨rfl, hb⟩; refine ⟨_, rfl, ?_⟩; have n0_ := Aside0.mk (below_step (by repeat (first | (with_reducible first | exact HB.out | apply below_alloc | apply pw_below_drewN | apply below_drew1) | exact HB.out)) hb); clear HB; have HB := n0_; clear n0_; (try clear hb); (try clear hb2); (try clear hk); (try clear hi)))
    (try simp only [Act.put, List.setIfInBounds_toArray, List.set_cons_zero, List.set_cons_succ])
    go_cut [32] (fun v32 wc => ∃ (kq : Nat) (x32_6 : Bool), v32 = .bool x32_6 ∧ Aside0 (conclavelaw09_CardTimes.j0 kq a0 a1 a2 a3 x32_6 = some r) ∧ Aside0 (kq ≤ k) ∧ Aside0 (Below w.heap.size w wc))
    case first =>
      have H := HC7.out
      clear HC7
      by_cases c9 : a3 < 1
      · rw [if_pos c9] at H
        have c9b0 : decide (a3 < 1) = true := decide_eq_true c9
        clear c9
        (first | rw [c9b0] | (simp only [i64_w, i32_w]; rw [c9b0]) | skip)
        have H' := Aside0.mk H
        clear H
        go_wp2
        go_meet
        case rel => exact ⟨_, (true), (by first | rfl | (simp; done) | (simp [*]; done)), H', ⟨by first | omega | exact Nat.le_refl _⟩, ⟨by repeat (first | (with_reducible first | exact HB.out | apply below_alloc | apply pw_below_drewN | apply below_drew1) | exact HB.out)⟩⟩
      · rw [if_neg c9] at H
        have c9b0 : decide (a3 < 1) = false := decide_eq_false c9
        clear c9
        (first | rw [c9b0] | (simp only [i64_w, i32_w]; rw [c9b0]) | skip)
        by_cases c10 : a3 > 20
        · rw [if_pos c10] at H
          have c10b0 : decide (20 < a3) = true := decide_eq_true c10
          clear c10
          have H' := Aside0.mk H
          clear H
          go_wp2
          go_meet
          case rel => exact ⟨_, (true), (by first | rfl | (simp; done) | (simp [*]; done)), H', ⟨by first | omega | exact Nat.le_refl _⟩, ⟨by repeat (first | (with_reducible first | exact HB.out | apply below_alloc | apply pw_below_drewN | apply below_drew1) | exact HB.out)⟩⟩
        · rw [if_neg c10] at H
          have c10b0 : decide (20 < a3) = false := decide_eq_false c10
          clear c10
          by_cases c11 : a2 < 0
          · rw [if_pos c11] at H
            have c11b0 : decide (a2 < 0) = true := decide_eq_true c11
            clear c11
            have H' := Aside0.mk H
            clear H
            go_wp2
            go_meet
            case rel => exact ⟨_, (true), (by first | rfl | (simp; done) | (simp [*]; done)), H', ⟨by first | omega | exact Nat.le_refl _⟩, ⟨by repeat (first | (with_reducible first | exact HB.out | apply below_alloc | apply pw_below_drewN | apply below_drew1) | exact HB.out)⟩⟩
          · rw [if_neg c11] at H
            have c11b0 : decide (a2 < 0) = false := decide_eq_false c11
            clear c11
            have H' := Aside0.mk H
            clear H
            go_wp2
            go_meet
            case rel => exact ⟨_, (decide (a2 ≥ a3)), (by first | rfl | (simp; done) | (simp [*]; done)), H', ⟨by first | omega | exact Nat.le_refl _⟩, ⟨by repeat (first | (with_reducible first | exact HB.out | apply below_alloc | apply pw_below_drewN | apply below_drew1) | exact HB.out)⟩⟩
    case rest =>
      clear HC7
      try clear c1
      try clear p2
      try clear c4
      try clear c6
      try clear c7
      try clear c9
      try clear c9b0
      try clear c10
      try clear c10b0
      try clear c11
      try clear c11b0
      obtain ⟨kq, x32_6, rfl, HA, HJ6, HB⟩ := hcut
      cases kq with
      | zero => exact absurd HA.out (by simp [conclavelaw09_CardTimes.j0])
      | succ kj6 =>
        have H := HA.out
        clear HA
        simp only [conclavelaw09_CardTimes.j0] at H
        by_cases c12 : x32_6 = true
        · subst c12
          have H1 : (some true) = some r := by rw [if_pos rfl] at H; exact H
          clear H
          have H := H1
          clear H1
          obtain rfl := Option.some.inj H
          try exact absurd hr Bool.false_ne_true
          all_goals
            go_wp2
            go_ret
            exact ⟨by first | rfl | (simp [errW_none, errW_some] <;> rfl) | (simp [*, errW_none, errW_some] <;> rfl), by repeat (first | (with_reducible first | exact HB.out | apply below_alloc | apply pw_below_drewN | apply below_drew1) | exact HB.out)⟩
        · replace c12 := Bool.eq_false_iff.mpr c12
          subst c12
          have H1 : ((conclavelaw09_stores.f 9).bind fun t247 => (conclavelaw09_CardTimes.l0 kj6 a0 a1 a2 a3 ([] : List Int) 0 t247)) = some r := by rw [if_neg (show ¬ (false = true) by decide)] at H; exact H
          clear H
          have H := H1
          clear H1
          replace H := Option.bind_eq_some_iff.mp H
          obtain ⟨t247, A130, H⟩ := H
          replace H : (conclavelaw09_CardTimes.l0 kj6 a0 a1 a2 a3 ([] : List Int) 0 t247) = some r := H
          have A13 := Aside0.mk A130
          clear A130
          have H' := Aside0.mk H
          clear H
          go_wp2_with (first | ((with_reducible refine gate_callee (f := 8) rfl ?_); refine goesL_ (some 34) rfl rfl Tryd.func8 (by kernel_rfl) rfl #[.int .i64 9] rfl (by (try simp only [List.map_toArray, List.map_cons, List.map_nil]); first | done | rfl | (simp only [List.length_drop, List.length_take]; rfl)) ?_; (with_reducible refine (conclavelaw09_stores.calls 9 t247 w _ ?side1 A13.out).mono ?_); (case side1 => repeat (first | (with_reducible first | exact HB.out | apply below_alloc | apply pw_below_drewN | apply below_drew1) | exact HB.out)); rintro e w14 ⟨g248, rfl, hi, hb, hb2⟩; refine ⟨_, rfl, ?_⟩; have n0_ := Aside0.mk (hb); have n1_ := Aside0.mk (hi); clear HB; have HB := n0_; have HI248 := n1_; clear n0_ n1_; (try clear hb); (try clear hb2); (try clear hk); (try clear hi)))
          go_loopg [11, 12] kj6 (fun kq v11 v12 w' => ∃ (x11_2 : List Int) (x12_2 : Int) (x249000_2 : TS), v12 = .int .i64 x12_2 ∧ Aside0 (conclavelaw09_CardTimes.l0 kq a0 a1 a2 a3 x11_2 x12_2 x249000_2 = some r) ∧ Aside0 (kq ≤ kj6) ∧ Aside0 (Kd.R (Kd.int .i64) 3 w' w.heap.size (fun _ => True) v11 x11_2) ∧ Aside0 (IsS60 w w' g248 x249000_2) ∧ Aside0 (Below w.heap.size w w'))
          case atStart => exact ⟨(([] : List Int)), (0), (t247), (by first | rfl | (simp; done) | (simp [*]; done)), H', ⟨Nat.le_refl _⟩, ⟨by first | exact Kd.R_nil _ _ _ _ _ | exact Kd.N_nil _ _ _ _ _ | exact Kd.V_nil _ _ _ _ _ | exact Kd.Q_nil _ _ _ _ _ | exact Kd.S_nil _ _ _ _ _⟩, ⟨by repeat (first | (with_reducible first | exact HI248.out | apply IsS60.alloc | apply IsS60.drewN | apply IsS60.drew | apply IsS60.set_0) | exact HI248.out)⟩, ⟨by repeat (first | (with_reducible first | exact HB.out | apply below_alloc | apply pw_below_drewN | apply below_drew1 | refine below_set ?_ (IsS60.ge HI248.out)) | exact HB.out)⟩⟩
          case round =>
            clear H'
            try clear c1
            try clear p2
            try clear c4
            try clear c6
            try clear c7
            try clear c8
            try clear c9
            try clear c9b0
            try clear c10
            try clear c10b0
            try clear c11
            try clear c11b0
            try clear c12
            try clear p2
            obtain ⟨x11_2, x12_2, x249000_2, rfl, HA, HK2, HO_11, HI248, HB⟩ := hrel
            cases gk with
            | zero => exact absurd HA.out (by simp [conclavelaw09_CardTimes.l0])
            | succ k2 =>
              have H := HA.out
              clear HA
              simp only [conclavelaw09_CardTimes.l0] at H
              by_cases c15 : x12_2 < a3
              · rw [if_pos c15] at H
                have c15b0 : decide (x12_2 < a3) = true := decide_eq_true c15
                clear c15
                replace H := Option.bind_eq_some_iff.mp H
                obtain ⟨⟨t249, t250⟩, A160, H⟩ := H
                replace H : (if x11_2.length < 17592186044416 then (conclavelaw09_CardTimes.l0 k2 a0 a1 a2 a3 (x11_2 ++ [t249]) (wrap64 (x12_2 + 1)) t250) else (none)) = some r := H
                have A16 := Aside0.mk A160
                clear A160
                by_cases c17 : x11_2.length < 17592186044416
                · rw [if_pos c17] at H
                  have LMc17 := Aside0.mk c17
                  clear c17
                  obtain ⟨y251, hy251⟩ : ∃ y_ : List Int, y_ = (x11_2 ++ [t249]) := ⟨_, rfl⟩
                  replace H : (conclavelaw09_CardTimes.l0 k2 a0 a1 a2 a3 y251 (wrap64 (x12_2 + 1)) t250) = some r := by first | (rw [hy251]; with_reducible exact H) | (have H2_ := (Option.bind_some _ _).symm.trans H; rw [hy251]; with_reducible exact H2_) | (have H2_ := (Option.bind_some _ _).symm.trans H; with_reducible exact H2_) | with_reducible exact H | (rw [hy251]; exact H) | exact H
                  have Ny251 := Aside0.mk hy251
                  clear hy251
                  have H' := Aside0.mk H
                  clear H
                  go_wp2_with (first | ((with_reducible refine gate_callee (f := 9) rfl ?_); refine goesL_ (some 46) rfl rfl Tryd.func9 (by kernel_rfl) rfl #[.pointer (some ⟨g248, 0, none⟩), .int .i64 2] rfl (by (try simp only [List.map_toArray, List.map_cons, List.map_nil]); first | done | rfl | (simp only [List.length_drop, List.length_take]; rfl)) ?_; (with_reducible refine (term_Store_Pub.calls g248 x249000_2 2 t249 t250 w _ ?side1 ?side2 A16.out).mono ?_); (case side1 => repeat (first | (with_reducible first | exact HI248.out | apply IsS60.alloc | apply IsS60.drewN | apply IsS60.drew | apply IsS60.set_0) | exact HI248.out)); (case side2 => repeat (first | (with_reducible first | exact HB.out | apply below_alloc | apply pw_below_drewN | apply below_drew1 | refine below_set ?_ (IsS60.ge HI248.out)) | exact HB.out)); rintro e w18 ⟨rfl, hi, hb, hk⟩; refine ⟨_, rfl, ?_⟩; have n0_ := Aside0.mk (Kd.R_mono (Kd.R_keepSt (IsS60.apart (show IsS60 w _ g248 x249000_2 from by repeat (first | (with_reducible first | exact HI248.out | apply IsS60.alloc | apply IsS60.drewN | apply IsS60.drew | apply IsS60.set_0) | exact HI248.out)) (by (with_reducible repeat (first | apply Kd.R_alloc | apply Kd.R_drewN | apply Kd.R_drew)); exact HO_11.out) (by decide)) hk (fun _ h => h.2)) (fun _ h => h.1)); have n1_ := Aside0.mk (hb); have n2_ := Aside0.mk (hi); clear HO_11; clear HB; clear HI248; have HO_11 := n0_; have HB := n1_; have HI248 := n2_; clear n0_ n1_ n2_; (try clear hb); (try clear hb2); (try clear hk); (try clear hi)) | ((with_reducible refine gate_builtin (b := .append) (xs := #[.tmp 44, .tmp 47]) rfl ?_); at_builtin; refine Kd.R_append (Kd.int .i64) (w0 := w) w.heap.size rfl (.tmp 44) (.tmp 47) 28 3 (.int .i64 0) 8 rfl Tryd.underlying28 info3 rfl (by decide) (by omega) u11 x11_2 t249 [.int .i64 t249] (fun _ => True) (fun _ => False) rfl rfl ?aP (fun _ hk => hk.elim) ?aF ?aO ?aB ?aS ?aL ?_; (case aP => exact rfl); (case aB => exact (by repeat (first | (with_reducible first | exact HB.out | apply below_alloc | apply pw_below_drewN | apply below_drew1 | refine below_set ?_ (IsS60.ge HI248.out)) | exact HB.out))); (case aF => exact (fun _ _ => trivial)); (case aO => exact (by (with_reducible repeat (first | apply Kd.R_alloc | apply Kd.R_drewN | apply Kd.R_drew)); exact HO_11.out)); (case aS => exact (below_size (by repeat (first | (with_reducible first | exact HB.out | apply below_alloc | apply pw_below_drewN | apply below_drew1 | refine below_set ?_ (IsS60.ge HI248.out)) | exact HB.out)))); (case aL => have := LMc17.out; omega); intro v252 w19 ho hb hg hat; rw [← Ny251.out] at ho; have n0_ := Aside0.mk (IsS60.grown (by repeat (first | (with_reducible first | exact HI248.out | apply IsS60.alloc | apply IsS60.drewN | apply IsS60.drew | apply IsS60.set_0) | exact HI248.out)) hg (IsS60.own_ne HI248.out HO_11.out (by decide))); have n1_ := Aside0.mk (hb); have n2_ := Aside0.mk (ho); clear HI248; clear HB; clear HO_11; have HI248 := n0_; have HB := n1_; have HO253 := n2_; clear n0_ n1_ n2_; clear ho hb hg hat))
                  go_roundg k2
                  case measure => have := HJ6.out; have := HK2.out; omega
                  case rel => exact ⟨(y251), (wrap64 (x12_2 + 1)), (t250), (by first | rfl | (simp; done) | (simp [*]; done)), H', ⟨by have := HJ6.out; have := HK2.out; omega⟩, ⟨by (with_reducible repeat (first | apply Kd.R_alloc | apply Kd.R_drewN | apply Kd.R_drew)); exact HO253.out⟩, ⟨by repeat (first | (with_reducible first | exact HI248.out | apply IsS60.alloc | apply IsS60.drewN | apply IsS60.drew | apply IsS60.set_0) | exact HI248.out)⟩, ⟨by repeat (first | (with_reducible first | exact HB.out | apply below_alloc | apply pw_below_drewN | apply below_drew1 | refine below_set ?_ (IsS60.ge HI248.out)) | exact HB.out)⟩⟩
                · rw [if_neg c17] at H
                  exact absurd H (by simp)
              · rw [if_neg c15] at H
                have c15b0 : decide (x12_2 < a3) = false := decide_eq_false c15
                clear c15
                replace H := Option.bind_eq_some_iff.mp H
                obtain ⟨⟨t254, t255⟩, A200, H⟩ := H
                replace H : (if 0 ≤ a2 then (if a2 < (x11_2.length : Int) then ((some (x11_2.set (a2 : Int).toNat t254 : List Int)).bind fun y256 => ((card_Make.f k2 t255 a2 1 3 4 a0).bind fun bt257 => ((card_Check.f k2 bt257.2.2.2.2.2.2 bt257.1 bt257.2.1 bt257.2.2.1 bt257.2.2.2.1 bt257.2.2.2.2.1 bt257.2.2.2.2.2.1 a1 y256).bind fun bt264 => ((card_Make.f k2 bt264.2 a2 5 3 4 a0).bind fun bt266 => ((card_Check.f k2 bt266.2.2.2.2.2.2 bt266.1 bt266.2.1 bt266.2.2.1 bt266.2.2.2.1 bt266.2.2.2.2.1 bt266.2.2.2.2.2.1 a1 y256).bind fun bt273 => ((card_Make.f k2 bt273.2 a3 1 3 4 a0).bind fun bt275 => ((card_Check.f k2 bt275.2.2.2.2.2.2 bt275.1 bt275.2.1 bt275.2.2.1 bt275.2.2.2.1 bt275.2.2.2.2.1 bt275.2.2.2.2.2.1 a1 y256).bind fun bt282 => (if bt273.1 = 90 then (if bt282.1 = 90 then (if ((bt264.1 == 0) == (decide (a1 ≤ a0))) = true then (some ((bt264.1 == 91) == (decide (a1 > a0)))) else (some false)) else (some false)) else (some false))))))))) else (none)) else (none)) = some r := H
                have A20 := Aside0.mk A200
                clear A200
                by_cases c21 : 0 ≤ a2
                · rw [if_pos c21] at H
                  have c21b0 : decide (0 ≤ a2) = true := decide_eq_true c21
                  clear c21
                  by_cases c22 : a2 < (x11_2.length : Int)
                  · rw [if_pos c22] at H
                    have c22b0 : decide (a2 < (x11_2.length : Int)) = true := decide_eq_true c22
                    clear c22
                    obtain ⟨y256, hy256⟩ : ∃ y_ : List Int, y_ = (x11_2.set (a2 : Int).toNat t254) := ⟨_, rfl⟩
                    replace H : ((card_Make.f k2 t255 a2 1 3 4 a0).bind fun bt257 => ((card_Check.f k2 bt257.2.2.2.2.2.2 bt257.1 bt257.2.1 bt257.2.2.1 bt257.2.2.2.1 bt257.2.2.2.2.1 bt257.2.2.2.2.2.1 a1 y256).bind fun bt264 => ((card_Make.f k2 bt264.2 a2 5 3 4 a0).bind fun bt266 => ((card_Check.f k2 bt266.2.2.2.2.2.2 bt266.1 bt266.2.1 bt266.2.2.1 bt266.2.2.2.1 bt266.2.2.2.2.1 bt266.2.2.2.2.2.1 a1 y256).bind fun bt273 => ((card_Make.f k2 bt273.2 a3 1 3 4 a0).bind fun bt275 => ((card_Check.f k2 bt275.2.2.2.2.2.2 bt275.1 bt275.2.1 bt275.2.2.1 bt275.2.2.2.1 bt275.2.2.2.2.1 bt275.2.2.2.2.2.1 a1 y256).bind fun bt282 => (if bt273.1 = 90 then (if bt282.1 = 90 then (if ((bt264.1 == 0) == (decide (a1 ≤ a0))) = true then (some ((bt264.1 == 91) == (decide (a1 > a0)))) else (some false)) else (some false)) else (some false)))))))) = some r := by first | (rw [hy256]; with_reducible exact H) | (have H2_ := (Option.bind_some _ _).symm.trans H; rw [hy256]; with_reducible exact H2_) | (have H2_ := (Option.bind_some _ _).symm.trans H; with_reducible exact H2_) | with_reducible exact H | (rw [hy256]; exact H) | exact H
                    have Ny256 := Aside0.mk hy256
                    clear hy256
                    replace H := Option.bind_eq_some_iff.mp H
                    obtain ⟨⟨t257, t258, t259, t260, t261, t262, t263⟩, A240, H⟩ := H
                    replace H : ((card_Check.f k2 t263 t257 t258 t259 t260 t261 t262 a1 y256).bind fun bt264 => ((card_Make.f k2 bt264.2 a2 5 3 4 a0).bind fun bt266 => ((card_Check.f k2 bt266.2.2.2.2.2.2 bt266.1 bt266.2.1 bt266.2.2.1 bt266.2.2.2.1 bt266.2.2.2.2.1 bt266.2.2.2.2.2.1 a1 y256).bind fun bt273 => ((card_Make.f k2 bt273.2 a3 1 3 4 a0).bind fun bt275 => ((card_Check.f k2 bt275.2.2.2.2.2.2 bt275.1 bt275.2.1 bt275.2.2.1 bt275.2.2.2.1 bt275.2.2.2.2.1 bt275.2.2.2.2.2.1 a1 y256).bind fun bt282 => (if bt273.1 = 90 then (if bt282.1 = 90 then (if ((bt264.1 == 0) == (decide (a1 ≤ a0))) = true then (some ((bt264.1 == 91) == (decide (a1 > a0)))) else (some false)) else (some false)) else (some false))))))) = some r := H
                    have A24 := Aside0.mk A240
                    clear A240
                    replace H := Option.bind_eq_some_iff.mp H
                    obtain ⟨⟨t264, t265⟩, A250, H⟩ := H
                    replace H : ((card_Make.f k2 t265 a2 5 3 4 a0).bind fun bt266 => ((card_Check.f k2 bt266.2.2.2.2.2.2 bt266.1 bt266.2.1 bt266.2.2.1 bt266.2.2.2.1 bt266.2.2.2.2.1 bt266.2.2.2.2.2.1 a1 y256).bind fun bt273 => ((card_Make.f k2 bt273.2 a3 1 3 4 a0).bind fun bt275 => ((card_Check.f k2 bt275.2.2.2.2.2.2 bt275.1 bt275.2.1 bt275.2.2.1 bt275.2.2.2.1 bt275.2.2.2.2.1 bt275.2.2.2.2.2.1 a1 y256).bind fun bt282 => (if bt273.1 = 90 then (if bt282.1 = 90 then (if ((t264 == 0) == (decide (a1 ≤ a0))) = true then (some ((t264 == 91) == (decide (a1 > a0)))) else (some false)) else (some false)) else (some false)))))) = some r := H
                    have A25 := Aside0.mk A250
                    clear A250
                    replace H := Option.bind_eq_some_iff.mp H
                    obtain ⟨⟨t266, t267, t268, t269, t270, t271, t272⟩, A260, H⟩ := H
                    replace H : ((card_Check.f k2 t272 t266 t267 t268 t269 t270 t271 a1 y256).bind fun bt273 => ((card_Make.f k2 bt273.2 a3 1 3 4 a0).bind fun bt275 => ((card_Check.f k2 bt275.2.2.2.2.2.2 bt275.1 bt275.2.1 bt275.2.2.1 bt275.2.2.2.1 bt275.2.2.2.2.1 bt275.2.2.2.2.2.1 a1 y256).bind fun bt282 => (if bt273.1 = 90 then (if bt282.1 = 90 then (if ((t264 == 0) == (decide (a1 ≤ a0))) = true then (some ((t264 == 91) == (decide (a1 > a0)))) else (some false)) else (some false)) else (some false))))) = some r := H
                    have A26 := Aside0.mk A260
                    clear A260
                    replace H := Option.bind_eq_some_iff.mp H
                    obtain ⟨⟨t273, t274⟩, A270, H⟩ := H
                    replace H : ((card_Make.f k2 t274 a3 1 3 4 a0).bind fun bt275 => ((card_Check.f k2 bt275.2.2.2.2.2.2 bt275.1 bt275.2.1 bt275.2.2.1 bt275.2.2.2.1 bt275.2.2.2.2.1 bt275.2.2.2.2.2.1 a1 y256).bind fun bt282 => (if t273 = 90 then (if bt282.1 = 90 then (if ((t264 == 0) == (decide (a1 ≤ a0))) = true then (some ((t264 == 91) == (decide (a1 > a0)))) else (some false)) else (some false)) else (some false)))) = some r := H
                    have A27 := Aside0.mk A270
                    clear A270
                    replace H := Option.bind_eq_some_iff.mp H
                    obtain ⟨⟨t275, t276, t277, t278, t279, t280, t281⟩, A280, H⟩ := H
                    replace H : ((card_Check.f k2 t281 t275 t276 t277 t278 t279 t280 a1 y256).bind fun bt282 => (if t273 = 90 then (if bt282.1 = 90 then (if ((t264 == 0) == (decide (a1 ≤ a0))) = true then (some ((t264 == 91) == (decide (a1 > a0)))) else (some false)) else (some false)) else (some false))) = some r := H
                    have A28 := Aside0.mk A280
                    clear A280
                    replace H := Option.bind_eq_some_iff.mp H
                    obtain ⟨⟨t282, t283⟩, A290, H⟩ := H
                    replace H : (if t273 = 90 then (if t282 = 90 then (if ((t264 == 0) == (decide (a1 ≤ a0))) = true then (some ((t264 == 91) == (decide (a1 > a0)))) else (some false)) else (some false)) else (some false)) = some r := H
                    have A29 := Aside0.mk A290
                    clear A290
                    by_cases c30 : t273 = 90
                    · rw [if_pos c30] at H
                      have c30b0 : (t273 == 90) = true := beq_iff_eq.mpr c30
                      have c30b1 : (t273 != 90) = false := bne_eq_false_iff_eq.mpr c30
                      clear c30
                      by_cases c31 : t282 = 90
                      · rw [if_pos c31] at H
                        have c31b0 : (t282 == 90) = true := beq_iff_eq.mpr c31
                        have c31b1 : (t282 != 90) = false := bne_eq_false_iff_eq.mpr c31
                        clear c31
                        by_cases c32 : ((t264 == 0) == (decide (a1 ≤ a0))) = true
                        · rw [if_pos c32] at H
                          have c32b0 : ((t264 == 0) == (decide (a1 ≤ a0))) = true := c32
                          (try (have c32b1 : decide ((t264 == 0) = (decide (a1 ≤ a0))) = true := by simpa using c32))
                          (try (have c32b2 : ((t264 == 0) == (decide (a1 ≤ a0))) = true := by simpa using c32))
                          clear c32
                          obtain rfl := Option.some.inj H
                          try exact absurd hr Bool.false_ne_true
                          all_goals
                            go_wp2_with (first | ((with_reducible refine gate_callee (f := 9) rfl ?_); refine goesL_ (some 52) rfl rfl Tryd.func9 (by kernel_rfl) rfl #[.pointer (some ⟨g248, 0, none⟩), .int .i64 1] rfl (by (try simp only [List.map_toArray, List.map_cons, List.map_nil]); first | done | rfl | (simp only [List.length_drop, List.length_take]; rfl)) ?_; (with_reducible refine (term_Store_Pub.calls g248 x249000_2 1 t254 t255 w _ ?side1 ?side2 A20.out).mono ?_); (case side1 => repeat (first | (with_reducible first | exact HI248.out | apply IsS60.alloc | apply IsS60.drewN | apply IsS60.drew | apply IsS60.set_0) | exact HI248.out)); (case side2 => repeat (first | (with_reducible first | exact HB.out | apply below_alloc | apply pw_below_drewN | apply below_drew1 | refine below_set ?_ (IsS60.ge HI248.out)) | exact HB.out)); rintro e w33 ⟨rfl, hi, hb, hk⟩; refine ⟨_, rfl, ?_⟩; have n0_ := Aside0.mk (Kd.R_mono (Kd.R_keepSt (IsS60.apart (show IsS60 w _ g248 x249000_2 from by repeat (first | (with_reducible first | exact HI248.out | apply IsS60.alloc | apply IsS60.drewN | apply IsS60.drew | apply IsS60.set_0) | exact HI248.out)) (by (with_reducible repeat (first | apply Kd.R_alloc | apply Kd.R_drewN | apply Kd.R_drew)); exact HO_11.out) (by decide)) hk (fun _ h => h.2)) (fun _ h => h.1)); have n1_ := Aside0.mk (hb); have n2_ := Aside0.mk (hi); clear HO_11; clear HB; clear HI248; have HO_11 := n0_; have HB := n1_; have HI248 := n2_; clear n0_ n1_ n2_; (try clear hb); (try clear hb2); (try clear hk); (try clear hi); have p23 : 0 ≤ (a2 : Int) := of_decide_eq_true (by first | (with_reducible assumption) | assumption); have q23 : (a2 : Int) < ((x11_2.length : Int) : Int) := of_decide_eq_true (by first | (with_reducible assumption) | assumption); obtain ⟨go23, co23, eo23, gb23, gl23, cl23, HG23⟩ := Kd.R_form HO_11.out (by omega); (first | cases eo23 | (injection eo23 with ea_ en_ ec_; (first | subst ea_ | (injection ea_ with ea_; subst ea_)); subst ec_; clear en_)); have GB23 := Aside0.mk gb23; have GG23 := Aside0.mk HG23; clear gb23 gl23 HG23; obtain ⟨hx23_0, hf23_0⟩ := Kd.R_celln 0 HO_11.out (a2 : Int) p23 q23; replace p23 := eq_true p23; replace q23 := eq_true q23; obtain ⟨hy34_, hz34_⟩ := Kd.R_celln 0 HO_11.out (a2 : Int) (of_decide_eq_true (by first | (with_reducible assumption) | assumption)) (of_decide_eq_true (by first | (with_reducible assumption) | assumption)); have HP34 := Kd.R_putg HO_11.out (a2 : Int) t254) | ((with_reducible refine gate_store (t := 3) (p := 53) rfl ?_); refine store_event (t := 3) (p := 53) (v := ?vo_w35) (w1 := (w33.setCell ⟨go23, (a2 : Int).toNat, none⟩ (.int .i64 t254))) ?hg ?ho ?hn ?hr ?_; (case ho => rfl); (case hg => rfl); (case hn => rfl); (case hr => first | (go_simp; done) | (go_simp; rfl)); intro w35 hw; have hg : w33.grownBy w35 (some go23) := (by rw [hw]; exact HP34.2); have hp_ : Kd.R (Kd.int .i64) 3 w35 w.heap.size (fun _ => True) (.slice (some ⟨go23, 0, none⟩) x11_2.length co23) y256 := (by rw [hw, Ny256.out]; exact HP34.1); clear HP34; have n0_ := Aside0.mk (hp_); have n1_ := Aside0.mk (IsS60.grown (by repeat (first | (with_reducible first | exact HI248.out | apply IsS60.alloc | apply IsS60.drewN | apply IsS60.drew | apply IsS60.set_0) | exact HI248.out)) hg (IsS60.own_ne HI248.out HO_11.out (by decide))); have n2_ := Aside0.mk ((by rw [hw]; exact below_set (HB.out) GB23.out : Below w.heap.size w w35)); clear HO_11; clear HI248; clear HB; have HO_11 := n0_; have HI248 := n1_; have HB := n2_; clear n0_ n1_ n2_; clear hg hw hp_) | ((with_reducible refine gate_callee (f := 10) rfl ?_); refine goesL_ (some 58) rfl rfl Tryd.func10 (by kernel_rfl) rfl #[.pointer (some ⟨g248, 0, none⟩), .int .i64 a2, .int .i64 1, .int .i64 3, .int .i64 4, .int .i64 a0] rfl (by (try simp only [List.map_toArray, List.map_cons, List.map_nil]); first | done | rfl | (simp only [List.length_drop, List.length_take]; rfl)) ?_; (with_reducible refine (card_Make.calls (hrG := ?sideG) k2 g248 t255 a2 1 3 4 a0 t257 t258 t259 t260 t261 t262 t263 w _ ?side1 ?side2 A24.out).mono ?_); (case sideG => (first | (with_reducible exact HRG.out) | exact TabG.below HRG.out (by repeat (first | (with_reducible first | exact HB.out | apply below_alloc | apply pw_below_drewN | apply below_drew1 | refine below_set ?_ (IsS60.ge HI248.out)) | (with_reducible exact Below.refl _ _))))); (case side1 => repeat (first | (with_reducible first | exact HI248.out | apply IsS60.alloc | apply IsS60.drewN | apply IsS60.drew | apply IsS60.set_0) | exact HI248.out)); (case side2 => repeat (first | (with_reducible first | exact HB.out | apply below_alloc | apply pw_below_drewN | apply below_drew1 | refine below_set ?_ (IsS60.ge HI248.out)) | exact HB.out)); rintro e w36 ⟨rfl, hi, hb, hk⟩; refine ⟨_, rfl, ?_⟩; have n0_ := Aside0.mk (Kd.R_mono (Kd.R_keepSt (IsS60.apart (show IsS60 w _ g248 t255 from by repeat (first | (with_reducible first | exact HI248.out | apply IsS60.alloc | apply IsS60.drewN | apply IsS60.drew | apply IsS60.set_0) | exact HI248.out)) (by (with_reducible repeat (first | apply Kd.R_alloc | apply Kd.R_drewN | apply Kd.R_drew)); exact HO_11.out) (by decide)) hk (fun _ h => h.2)) (fun _ h => h.1)); have n1_ := Aside0.mk (hb); have n2_ := Aside0.mk (hi); clear HO_11; clear HB; clear HI248; have HO_11 := n0_; have HB := n1_; have HI248 := n2_; clear n0_ n1_ n2_; (try clear hb); (try clear hb2); (try clear hk); (try clear hi)) | ((with_reducible refine gate_callee (f := 11) rfl ?_); refine goesL_ (some 61) rfl rfl Tryd.func11 (by kernel_rfl) rfl #[.pointer (some ⟨g248, 0, none⟩), .agg #[.int .i64 t257, .int .i64 t258, .int .i64 t259, .int .i64 t260, .int .i64 t261, .int .i64 t262], .int .i64 a1, .slice (some ⟨go23, 0, none⟩) y256.length co23] rfl (by (try simp only [List.map_toArray, List.map_cons, List.map_nil]); first | done | (rw [show y256.length = x11_2.length from (Kd.R_reads' HO_11.out).1.symm] <;> rfl) | rfl | (simp only [List.length_drop, List.length_take]; rfl)) ?_; (with_reducible refine (card_Check.calls (hrG := ?sideG) k2 g248 t263 t257 t258 t259 t260 t261 t262 a1 _ _ y256 t264 t265 w _ ?side1 ?side2 ?side3 ?side4 ?side5 A25.out).mono ?_); (case sideG => (first | (with_reducible exact HRG.out) | exact TabG.below HRG.out (by repeat (first | (with_reducible first | exact HB.out | apply below_alloc | apply pw_below_drewN | apply below_drew1 | refine below_set ?_ (IsS60.ge HI248.out)) | (with_reducible exact Below.refl _ _))))); (case side1 => repeat (first | (with_reducible first | exact HI248.out | apply IsS60.alloc | apply IsS60.drewN | apply IsS60.drew | apply IsS60.set_0) | exact HI248.out)); (case side2 => repeat (first | (with_reducible first | exact HB.out | apply below_alloc | apply pw_below_drewN | apply below_drew1 | refine below_set ?_ (IsS60.ge HI248.out)) | exact HB.out)); (case side3 => repeat (first | exact (Kd.R_reads' HO_11.out).2.2 | (with_reducible refine Kd.C_alloc ?_ _) | (with_reducible refine Kd.C_drewN ?_ _) | (with_reducible refine Kd.C_drew ?_))); (case side4 => rw [show y256.length = x11_2.length from (Kd.R_reads' HO_11.out).1.symm]; exact (Kd.R_reads' HO_11.out).2.1); (case side5 => rw [← (Kd.R_reads' HO_11.out).1]; exact Kd.far_R (by (with_reducible repeat (first | apply Kd.R_alloc | apply Kd.R_drewN | apply Kd.R_drew)); exact HO_11.out) (by decide)); rintro e w37 ⟨rfl, hi, hb, hk⟩; refine ⟨_, rfl, ?_⟩; have n0_ := Aside0.mk (Kd.R_mono (Kd.R_keepSt (IsS60.apart (show IsS60 w _ g248 t263 from by repeat (first | (with_reducible first | exact HI248.out | apply IsS60.alloc | apply IsS60.drewN | apply IsS60.drew | apply IsS60.set_0) | exact HI248.out)) (by (with_reducible repeat (first | apply Kd.R_alloc | apply Kd.R_drewN | apply Kd.R_drew)); exact HO_11.out) (by decide)) hk (fun _ h => h.2)) (fun _ h => h.1)); have n1_ := Aside0.mk (hb); have n2_ := Aside0.mk (hi); clear HO_11; clear HB; clear HI248; have HO_11 := n0_; have HB := n1_; have HI248 := n2_; clear n0_ n1_ n2_; (try clear hb); (try clear hb2); (try clear hk); (try clear hi)) | ((with_reducible refine gate_callee (f := 10) rfl ?_); refine goesL_ (some 66) rfl rfl Tryd.func10 (by kernel_rfl) rfl #[.pointer (some ⟨g248, 0, none⟩), .int .i64 a2, .int .i64 5, .int .i64 3, .int .i64 4, .int .i64 a0] rfl (by (try simp only [List.map_toArray, List.map_cons, List.map_nil]); first | done | rfl | (simp only [List.length_drop, List.length_take]; rfl)) ?_; (with_reducible refine (card_Make.calls (hrG := ?sideG) k2 g248 t265 a2 5 3 4 a0 t266 t267 t268 t269 t270 t271 t272 w _ ?side1 ?side2 A26.out).mono ?_); (case sideG => (first | (with_reducible exact HRG.out) | exact TabG.below HRG.out (by repeat (first | (with_reducible first | exact HB.out | apply below_alloc | apply pw_below_drewN | apply below_drew1 | refine below_set ?_ (IsS60.ge HI248.out)) | (with_reducible exact Below.refl _ _))))); (case side1 => repeat (first | (with_reducible first | exact HI248.out | apply IsS60.alloc | apply IsS60.drewN | apply IsS60.drew | apply IsS60.set_0) | exact HI248.out)); (case side2 => repeat (first | (with_reducible first | exact HB.out | apply below_alloc | apply pw_below_drewN | apply below_drew1 | refine below_set ?_ (IsS60.ge HI248.out)) | exact HB.out)); rintro e w38 ⟨rfl, hi, hb, hk⟩; refine ⟨_, rfl, ?_⟩; have n0_ := Aside0.mk (Kd.R_mono (Kd.R_keepSt (IsS60.apart (show IsS60 w _ g248 t265 from by repeat (first | (with_reducible first | exact HI248.out | apply IsS60.alloc | apply IsS60.drewN | apply IsS60.drew | apply IsS60.set_0) | exact HI248.out)) (by (with_reducible repeat (first | apply Kd.R_alloc | apply Kd.R_drewN | apply Kd.R_drew)); exact HO_11.out) (by decide)) hk (fun _ h => h.2)) (fun _ h => h.1)); have n1_ := Aside0.mk (hb); have n2_ := Aside0.mk (hi); clear HO_11; clear HB; clear HI248; have HO_11 := n0_; have HB := n1_; have HI248 := n2_; clear n0_ n1_ n2_; (try clear hb); (try clear hb2); (try clear hk); (try clear hi)) | ((with_reducible refine gate_callee (f := 11) rfl ?_); refine goesL_ (some 69) rfl rfl Tryd.func11 (by kernel_rfl) rfl #[.pointer (some ⟨g248, 0, none⟩), .agg #[.int .i64 t266, .int .i64 t267, .int .i64 t268, .int .i64 t269, .int .i64 t270, .int .i64 t271], .int .i64 a1, .slice (some ⟨go23, 0, none⟩) y256.length co23] rfl (by (try simp only [List.map_toArray, List.map_cons, List.map_nil]); first | done | (rw [show y256.length = x11_2.length from (Kd.R_reads' HO_11.out).1.symm] <;> rfl) | rfl | (simp only [List.length_drop, List.length_take]; rfl)) ?_; (with_reducible refine (card_Check.calls (hrG := ?sideG) k2 g248 t272 t266 t267 t268 t269 t270 t271 a1 _ _ y256 t273 t274 w _ ?side1 ?side2 ?side3 ?side4 ?side5 A27.out).mono ?_); (case sideG => (first | (with_reducible exact HRG.out) | exact TabG.below HRG.out (by repeat (first | (with_reducible first | exact HB.out | apply below_alloc | apply pw_below_drewN | apply below_drew1 | refine below_set ?_ (IsS60.ge HI248.out)) | (with_reducible exact Below.refl _ _))))); (case side1 => repeat (first | (with_reducible first | exact HI248.out | apply IsS60.alloc | apply IsS60.drewN | apply IsS60.drew | apply IsS60.set_0) | exact HI248.out)); (case side2 => repeat (first | (with_reducible first | exact HB.out | apply below_alloc | apply pw_below_drewN | apply below_drew1 | refine below_set ?_ (IsS60.ge HI248.out)) | exact HB.out)); (case side3 => repeat (first | exact (Kd.R_reads' HO_11.out).2.2 | (with_reducible refine Kd.C_alloc ?_ _) | (with_reducible refine Kd.C_drewN ?_ _) | (with_reducible refine Kd.C_drew ?_))); (case side4 => rw [show y256.length = x11_2.length from (Kd.R_reads' HO_11.out).1.symm]; exact (Kd.R_reads' HO_11.out).2.1); (case side5 => rw [← (Kd.R_reads' HO_11.out).1]; exact Kd.far_R (by (with_reducible repeat (first | apply Kd.R_alloc | apply Kd.R_drewN | apply Kd.R_drew)); exact HO_11.out) (by decide)); rintro e w39 ⟨rfl, hi, hb, hk⟩; refine ⟨_, rfl, ?_⟩; have n0_ := Aside0.mk (Kd.R_mono (Kd.R_keepSt (IsS60.apart (show IsS60 w _ g248 t272 from by repeat (first | (with_reducible first | exact HI248.out | apply IsS60.alloc | apply IsS60.drewN | apply IsS60.drew | apply IsS60.set_0) | exact HI248.out)) (by (with_reducible repeat (first | apply Kd.R_alloc | apply Kd.R_drewN | apply Kd.R_drew)); exact HO_11.out) (by decide)) hk (fun _ h => h.2)) (fun _ h => h.1)); have n1_ := Aside0.mk (hb); have n2_ := Aside0.mk (hi); clear HO_11; clear HB; clear HI248; have HO_11 := n0_; have HB := n1_; have HI248 := n2_; clear n0_ n1_ n2_; (try clear hb); (try clear hb2); (try clear hk); (try clear hi)) | ((with_reducible refine gate_callee (f := 10) rfl ?_); refine goesL_ (some 74) rfl rfl Tryd.func10 (by kernel_rfl) rfl #[.pointer (some ⟨g248, 0, none⟩), .int .i64 a3, .int .i64 1, .int .i64 3, .int .i64 4, .int .i64 a0] rfl (by (try simp only [List.map_toArray, List.map_cons, List.map_nil]); first | done | rfl | (simp only [List.length_drop, List.length_take]; rfl)) ?_; (with_reducible refine (card_Make.calls (hrG := ?sideG) k2 g248 t274 a3 1 3 4 a0 t275 t276 t277 t278 t279 t280 t281 w _ ?side1 ?side2 A28.out).mono ?_); (case sideG => (first | (with_reducible exact HRG.out) | exact TabG.below HRG.out (by repeat (first | (with_reducible first | exact HB.out | apply below_alloc | apply pw_below_drewN | apply below_drew1 | refine below_set ?_ (IsS60.ge HI248.out)) | (with_reducible exact Below.refl _ _))))); (case side1 => repeat (first | (with_reducible first | exact HI248.out | apply IsS60.alloc | apply IsS60.drewN | apply IsS60.drew | apply IsS60.set_0) | exact HI248.out)); (case side2 => repeat (first | (with_reducible first | exact HB.out | apply below_alloc | apply pw_below_drewN | apply below_drew1 | refine below_set ?_ (IsS60.ge HI248.out)) | exact HB.out)); rintro e w40 ⟨rfl, hi, hb, hk⟩; refine ⟨_, rfl, ?_⟩; have n0_ := Aside0.mk (Kd.R_mono (Kd.R_keepSt (IsS60.apart (show IsS60 w _ g248 t274 from by repeat (first | (with_reducible first | exact HI248.out | apply IsS60.alloc | apply IsS60.drewN | apply IsS60.drew | apply IsS60.set_0) | exact HI248.out)) (by (with_reducible repeat (first | apply Kd.R_alloc | apply Kd.R_drewN | apply Kd.R_drew)); exact HO_11.out) (by decide)) hk (fun _ h => h.2)) (fun _ h => h.1)); have n1_ := Aside0.mk (hb); have n2_ := Aside0.mk (hi); clear HO_11; clear HB; clear HI248; have HO_11 := n0_; have HB := n1_; have HI248 := n2_; clear n0_ n1_ n2_; (try clear hb); (try clear hb2); (try clear hk); (try clear hi)) | ((with_reducible refine gate_callee (f := 11) rfl ?_); refine goesL_ (some 77) rfl rfl Tryd.func11 (by kernel_rfl) rfl #[.pointer (some ⟨g248, 0, none⟩), .agg #[.int .i64 t275, .int .i64 t276, .int .i64 t277, .int .i64 t278, .int .i64 t279, .int .i64 t280], .int .i64 a1, .slice (some ⟨go23, 0, none⟩) y256.length co23] rfl (by (try simp only [List.map_toArray, List.map_cons, List.map_nil]); first | done | (rw [show y256.length = x11_2.length from (Kd.R_reads' HO_11.out).1.symm] <;> rfl) | rfl | (simp only [List.length_drop, List.length_take]; rfl)) ?_; (with_reducible refine (card_Check.calls (hrG := ?sideG) k2 g248 t281 t275 t276 t277 t278 t279 t280 a1 _ _ y256 t282 t283 w _ ?side1 ?side2 ?side3 ?side4 ?side5 A29.out).mono ?_); (case sideG => (first | (with_reducible exact HRG.out) | exact TabG.below HRG.out (by repeat (first | (with_reducible first | exact HB.out | apply below_alloc | apply pw_below_drewN | apply below_drew1 | refine below_set ?_ (IsS60.ge HI248.out)) | (with_reducible exact Below.refl _ _))))); (case side1 => repeat (first | (with_reducible first | exact HI248.out | apply IsS60.alloc | apply IsS60.drewN | apply IsS60.drew | apply IsS60.set_0) | exact HI248.out)); (case side2 => repeat (first | (with_reducible first | exact HB.out | apply below_alloc | apply pw_below_drewN | apply below_drew1 | refine below_set ?_ (IsS60.ge HI248.out)) | exact HB.out)); (case side3 => repeat (first | exact (Kd.R_reads' HO_11.out).2.2 | (with_reducible refine Kd.C_alloc ?_ _) | (with_reducible refine Kd.C_drewN ?_ _) | (with_reducible refine Kd.C_drew ?_))); (case side4 => rw [show y256.length = x11_2.length from (Kd.R_reads' HO_11.out).1.symm]; exact (Kd.R_reads' HO_11.out).2.1); (case side5 => rw [← (Kd.R_reads' HO_11.out).1]; exact Kd.far_R (by (with_reducible repeat (first | apply Kd.R_alloc | apply Kd.R_drewN | apply Kd.R_drew)); exact HO_11.out) (by decide)); rintro e w41 ⟨rfl, hi, hb, hk⟩; refine ⟨_, rfl, ?_⟩; have n0_ := Aside0.mk (Kd.R_mono (Kd.R_keepSt (IsS60.apart (show IsS60 w _ g248 t281 from by repeat (first | (with_reducible first | exact HI248.out | apply IsS60.alloc | apply IsS60.drewN | apply IsS60.drew | apply IsS60.set_0) | exact HI248.out)) (by (with_reducible repeat (first | apply Kd.R_alloc | apply Kd.R_drewN | apply Kd.R_drew)); exact HO_11.out) (by decide)) hk (fun _ h => h.2)) (fun _ h => h.1)); have n1_ := Aside0.mk (hb); have n2_ := Aside0.mk (hi); clear HO_11; clear HB; clear HI248; have HO_11 := n0_; have HB := n1_; have HI248 := n2_; clear n0_ n1_ n2_; (try clear hb); (try clear hb2); (try clear hk); (try clear hi)))
                            go_ret
                            exact ⟨by first | rfl | (simp [errW_none, errW_some] <;> rfl) | (simp [*, errW_none, errW_some] <;> rfl), by repeat (first | (with_reducible first | exact HB.out | apply below_alloc | apply pw_below_drewN | apply below_drew1 | refine below_set ?_ (IsS60.ge HI248.out)) | exact HB.out)⟩
                        · rw [if_neg c32] at H
                          exact absurd ((Option.some.inj H).trans hr) Bool.false_ne_true
                      · rw [if_neg c31] at H
                        exact absurd ((Option.some.inj H).trans hr) Bool.false_ne_true
                    · rw [if_neg c30] at H
                      exact absurd ((Option.some.inj H).trans hr) Bool.false_ne_true
                  · rw [if_neg c22] at H
                    exact absurd H (by simp)
                · rw [if_neg c21] at H
                  exact absurd H (by simp)
  · replace c6 := Bool.eq_false_iff.mpr c6
    subst c6
    have H1 : (some false) = some r := by rw [if_neg (show ¬ (false = true) by decide)] at H; exact H
    clear H
    have H := H1
    clear H1
    obtain rfl := Option.some.inj H
    try exact absurd hr Bool.false_ne_true
    all_goals
      go_enter Tryd.func4, Tryd.ntmps4
      go_wp2_with (first | ((with_reducible refine gate_callee (f := 7) rfl ?_); refine goesL_ (some 16) rfl rfl Tryd.func7 (by kernel_rfl) rfl #[] rfl (by (try simp only [List.map_toArray, List.map_cons, List.map_nil]); first | done | rfl | (simp only [List.length_drop, List.length_take]; rfl)) ?_; (with_reducible refine (conclavelaw09_anchor.calls (hrG := ?sideG) k  false _ A5.out).mono ?_); (case sideG => (first | (with_reducible exact HRG.out) | exact TabG.below HRG.out (by repeat (first | (with_reducible first | exact HB.out | apply below_alloc | apply pw_below_drewN | apply below_drew1 | refine below_set ?_ (IsS60.ge HI248.out)) | (with_reducible exact Below.refl _ _))))); rintro e w69 ⟨rfl, hb⟩; refine ⟨_, rfl, ?_⟩; have n0_ := Aside0.mk (below_step (by repeat (first | (with_reducible first | exact HB.out | apply below_alloc | apply pw_below_drewN | apply below_drew1) | exact HB.out)) hb); clear HB; have HB := n0_; clear n0_; (try clear hb); (try clear hb2); (try clear hk); (try clear hi)))
      go_ret
      exact ⟨by first | rfl | (simp [errW_none, errW_some] <;> rfl) | (simp [*, errW_none, errW_some] <;> rfl), by repeat (first | (with_reducible first | exact HB.out | apply below_alloc | apply pw_below_drewN | apply below_drew1) | exact HB.out)⟩

/-- THE ONE PURE STATEMENT of conclavelaw09_CardTimes: yours. -/
def conclavelaw09_CardTimes.Pure : Prop := ∀ (a0 : Int) (a1 : Int) (a2 : Int) (a3 : Int), (Lit.int .i64 a0).wf = true → (Lit.int .i64 a1).wf = true → (Lit.int .i64 a2).wf = true → (Lit.int .i64 a3).wf = true → ∃ k, conclavelaw09_CardTimes.f k a0 a1 a2 a3 = some true
theorem conclavelaw09_CardTimes.walk (P : conclavelaw09_CardTimes.Pure) (a0 : Int) (a1 : Int) (a2 : Int) (a3 : Int) (w : World) (hrG : TabG w) (w0 : (Lit.int .i64 a0).wf = true) (w1 : (Lit.int .i64 a1).wf = true) (w2 : (Lit.int .i64 a2).wf = true) (w3 : (Lit.int .i64 a3).wf = true) :
    Calls Tryd.prog 4 #[.int .i64 a0, .int .i64 a1, .int .i64 a2, .int .i64 a3] w fun e w' => e = .returned (.bool true) ∧ Below w.heap.size w w' := by
  obtain ⟨k, h⟩ := P a0 a1 a2 a3 w0 w1 w2 w3
  refine (conclavelaw09_CardTimes.calls (hrG := hrG) k a0 a1 a2 a3 true w h rfl).mono ?_
  rintro e w' ⟨rfl, hd⟩
  exact ⟨rfl, hd⟩

end Go.Proofs.YteljmaebhjhedaaDoor.PCa
