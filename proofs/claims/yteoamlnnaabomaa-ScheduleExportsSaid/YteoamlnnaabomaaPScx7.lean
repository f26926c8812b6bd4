-- Written by a program of this session over the translation.
import Derived.Test.YteoamlnnaabomaaPScx0
import Derived.Test.YteoamlnnaabomaaPScx1
import Derived.Test.YteoamlnnaabomaaPScx2
import Derived.Test.YteoamlnnaabomaaPScx3
import Derived.Test.YteoamlnnaabomaaPScx4
import Derived.Test.YteoamlnnaabomaaPScx6
namespace Go.Proofs.Yteoamlnnaabomaa.PSc
open Go.RowKit Go.Proofs.YteoamlnnaabomaaW.PrintWords Go.Proofs.YteoamlnnaabomaaW.PrintLast Go.Proofs.YteoamlnnaabomaaW.PrintMore
attribute [local go_sem] max2_int min2_int max_two min_two max_three min_three max_four min_four   -- for this text's walks alone
set_option linter.unusedVariables false
set_option linter.unusedSimpArgs false

/-! ### conclavelaw07_ScheduleExports: function 5 -/
mutual
def conclavelaw07_ScheduleExports.j0 : Nat → ByteArray → ByteArray → ByteArray → ByteArray → Bool → Option (Bool)
  | 0, _, _, _, _, _ => none
  | k + 1, x0, x1, x2, x3, x35 => if x35 = true then (some true) else ((conclavelaw07_stores.f 4).bind fun t273 => ((term_Store_Text.f t273 (⟨#[]⟩ : ByteArray)).bind fun bt275 => ((schedule_Next.f bt275.2 1 2 bt275.1 3).bind fun bt277 => ((schedule_Export.f bt277.2.2.2.2.2.2.2.2.2.2.2.2.2 bt277.1 bt277.2.1 bt277.2.2.1 bt277.2.2.2.1 bt277.2.2.2.2.1 bt277.2.2.2.2.2.1 bt277.2.2.2.2.2.2.1 bt277.2.2.2.2.2.2.2.1 bt277.2.2.2.2.2.2.2.2.1 bt277.2.2.2.2.2.2.2.2.2.1 bt277.2.2.2.2.2.2.2.2.2.2.1 bt277.2.2.2.2.2.2.2.2.2.2.2.1 bt277.2.2.2.2.2.2.2.2.2.2.2.2.1 x0 x1).bind fun bt292 => ((schedule_Export.f bt292.2 bt277.1 bt277.2.1 bt277.2.2.1 bt277.2.2.2.1 bt277.2.2.2.2.1 bt277.2.2.2.2.2.1 bt277.2.2.2.2.2.2.1 bt277.2.2.2.2.2.2.2.1 bt277.2.2.2.2.2.2.2.2.1 bt277.2.2.2.2.2.2.2.2.2.1 bt277.2.2.2.2.2.2.2.2.2.2.1 bt277.2.2.2.2.2.2.2.2.2.2.2.1 bt277.2.2.2.2.2.2.2.2.2.2.2.2.1 x2 x3).bind fun bt294 => (if bt292.1 = 0 then (conclavelaw07_ScheduleExports.j1 k bt292.1 bt294.1 true bt277.1 bt277.2.1 bt277.2.2.1 bt277.2.2.2.1 bt277.2.2.2.2.1 bt277.2.2.2.2.2.1 bt277.2.2.2.2.2.2.1 bt277.2.2.2.2.2.2.2.1 bt277.2.2.2.2.2.2.2.2.1 bt277.2.2.2.2.2.2.2.2.2.1 bt277.2.2.2.2.2.2.2.2.2.2.1 bt277.2.2.2.2.2.2.2.2.2.2.2.1 bt277.2.2.2.2.2.2.2.2.2.2.2.2.1) else (if bt294.1 = 0 then (conclavelaw07_ScheduleExports.j1 k bt292.1 bt294.1 true bt277.1 bt277.2.1 bt277.2.2.1 bt277.2.2.2.1 bt277.2.2.2.2.1 bt277.2.2.2.2.2.1 bt277.2.2.2.2.2.2.1 bt277.2.2.2.2.2.2.2.1 bt277.2.2.2.2.2.2.2.2.1 bt277.2.2.2.2.2.2.2.2.2.1 bt277.2.2.2.2.2.2.2.2.2.2.1 bt277.2.2.2.2.2.2.2.2.2.2.2.1 bt277.2.2.2.2.2.2.2.2.2.2.2.2.1) else (if x0.toList = x2.toList then (conclavelaw07_ScheduleExports.j1 k bt292.1 bt294.1 ((bt292.1 == bt294.1) != (x1.toList == x3.toList)) bt277.1 bt277.2.1 bt277.2.2.1 bt277.2.2.2.1 bt277.2.2.2.2.1 bt277.2.2.2.2.2.1 bt277.2.2.2.2.2.2.1 bt277.2.2.2.2.2.2.2.1 bt277.2.2.2.2.2.2.2.2.1 bt277.2.2.2.2.2.2.2.2.2.1 bt277.2.2.2.2.2.2.2.2.2.2.1 bt277.2.2.2.2.2.2.2.2.2.2.2.1 bt277.2.2.2.2.2.2.2.2.2.2.2.2.1) else (conclavelaw07_ScheduleExports.j1 k bt292.1 bt294.1 ((bt292.1 == bt294.1) != false) bt277.1 bt277.2.1 bt277.2.2.1 bt277.2.2.2.1 bt277.2.2.2.2.1 bt277.2.2.2.2.2.1 bt277.2.2.2.2.2.2.1 bt277.2.2.2.2.2.2.2.1 bt277.2.2.2.2.2.2.2.2.1 bt277.2.2.2.2.2.2.2.2.2.1 bt277.2.2.2.2.2.2.2.2.2.2.1 bt277.2.2.2.2.2.2.2.2.2.2.2.1 bt277.2.2.2.2.2.2.2.2.2.2.2.2.1)))))))))
def conclavelaw07_ScheduleExports.j1 : Nat → Int → Int → Bool → Int → Int → Int → Int → Int → Int → Int → Int → Int → Int → Int → Int → Int → Option (Bool)
  | 0, _, _, _, _, _, _, _, _, _, _, _, _, _, _, _, _ => none
  | k + 1, x12, x13, x75, x292000, x292001, x292002, x292003, x292004, x292005, x292006, x292007, x292008, x292009, x292010, x292011, x292012 => if x75 = true then (some false) else ((conclavelaw07_all.f x292000 x292001 x292002 x292003 x292004 x292005 x292006 x292007 x292008 x292009 x292010 x292011 x292012).bind fun t296 => (conclavelaw07_ScheduleExports.l0 k x12 x13 t296 (t296.length : Int) 0))
def conclavelaw07_ScheduleExports.l0 : Nat → Int → Int → List Int → Int → Int → Option (Bool)
  | 0, _, _, _, _, _ => none
  | k + 1, x12, x13, x77, x78, x79 => if x79 < x78 then (if 0 ≤ x79 then (if x79 < (x77.length : Int) then (if (rd x77 x79) = x12 then (some false) else (if (rd x77 x79) = x13 then (some false) else (conclavelaw07_ScheduleExports.l0 k x12 x13 x77 x78 (wrap64 (x79 + 1))))) else (none)) else (none)) else (some true)
end
def conclavelaw07_ScheduleExports.f (k : Nat) (a0 : ByteArray) (a1 : ByteArray) (a2 : ByteArray) (a3 : ByteArray) : Option (Bool) := (conclavelaw07_anchor.f k).bind fun t272 => (if t272 = true then (if (a0.size : Int) > 1024 then (conclavelaw07_ScheduleExports.j0 k a0 a1 a2 a3 true) else (if (a1.size : Int) > 1024 then (conclavelaw07_ScheduleExports.j0 k a0 a1 a2 a3 true) else (if (a2.size : Int) > 1024 then (conclavelaw07_ScheduleExports.j0 k a0 a1 a2 a3 true) else (conclavelaw07_ScheduleExports.j0 k a0 a1 a2 a3 (decide ((a3.size : Int) > 1024)))))) else (some false))
theorem conclavelaw07_ScheduleExports.mono_l : ∀ k, (∀ y0 y1 y2 y3 y4, LeO (conclavelaw07_ScheduleExports.j0 k y0 y1 y2 y3 y4) (conclavelaw07_ScheduleExports.j0 (k + 1) y0 y1 y2 y3 y4)) ∧ (∀ y0 y1 y2 y3 y4 y5 y6 y7 y8 y9 y10 y11 y12 y13 y14 y15, LeO (conclavelaw07_ScheduleExports.j1 k y0 y1 y2 y3 y4 y5 y6 y7 y8 y9 y10 y11 y12 y13 y14 y15) (conclavelaw07_ScheduleExports.j1 (k + 1) y0 y1 y2 y3 y4 y5 y6 y7 y8 y9 y10 y11 y12 y13 y14 y15)) ∧ (∀ y0 y1 y2 y3 y4, LeO (conclavelaw07_ScheduleExports.l0 k y0 y1 y2 y3 y4) (conclavelaw07_ScheduleExports.l0 (k + 1) y0 y1 y2 y3 y4))
  | 0 => ⟨fun _ _ _ _ _ r h => by simp [conclavelaw07_ScheduleExports.j0] at h, fun _ _ _ _ _ _ _ _ _ _ _ _ _ _ _ _ r h => by simp [conclavelaw07_ScheduleExports.j1] at h, fun _ _ _ _ _ r h => by simp [conclavelaw07_ScheduleExports.l0] at h⟩
  | k + 1 => by
    obtain ⟨ih0, ih1, ih2⟩ := conclavelaw07_ScheduleExports.mono_l k
    refine ⟨?_, ?_, ?_⟩
    · intro y0 y1 y2 y3 y4
      unfold conclavelaw07_ScheduleExports.j0
      repeat' first
      | (with_reducible exact ih0 _ _ _ _ _)
      | (with_reducible exact ih1 _ _ _ _ _ _ _ _ _ _ _ _ _ _ _ _)
      | (with_reducible exact ih2 _ _ _ _ _)
      | (with_reducible exact conclavelaw07_anchor.mono _)
      | (with_reducible exact LeO.refl _)
      | (with_reducible exact LeO.none _)
      | (with_reducible refine LeO.ite ?_ ?_)
      | (with_reducible refine LeO.bind ?_ (fun _ => ?_))
      | exact ih0 _ _ _ _ _
      | exact ih1 _ _ _ _ _ _ _ _ _ _ _ _ _ _ _ _
      | exact ih2 _ _ _ _ _
      | exact conclavelaw07_anchor.mono _
      | exact LeO.none _
      | refine LeO.ite ?_ ?_
      | refine LeO.bind ?_ (fun _ => ?_)
    · intro y0 y1 y2 y3 y4 y5 y6 y7 y8 y9 y10 y11 y12 y13 y14 y15
      unfold conclavelaw07_ScheduleExports.j1
      repeat' first
      | (with_reducible exact ih0 _ _ _ _ _)
      | (with_reducible exact ih1 _ _ _ _ _ _ _ _ _ _ _ _ _ _ _ _)
      | (with_reducible exact ih2 _ _ _ _ _)
      | (with_reducible exact conclavelaw07_anchor.mono _)
      | (with_reducible exact LeO.refl _)
      | (with_reducible exact LeO.none _)
      | (with_reducible refine LeO.ite ?_ ?_)
      | (with_reducible refine LeO.bind ?_ (fun _ => ?_))
      | exact ih0 _ _ _ _ _
      | exact ih1 _ _ _ _ _ _ _ _ _ _ _ _ _ _ _ _
      | exact ih2 _ _ _ _ _
      | exact conclavelaw07_anchor.mono _
      | exact LeO.none _
      | refine LeO.ite ?_ ?_
      | refine LeO.bind ?_ (fun _ => ?_)
    · intro y0 y1 y2 y3 y4
      unfold conclavelaw07_ScheduleExports.l0
      repeat' first
      | (with_reducible exact ih0 _ _ _ _ _)
      | (with_reducible exact ih1 _ _ _ _ _ _ _ _ _ _ _ _ _ _ _ _)
      | (with_reducible exact ih2 _ _ _ _ _)
      | (with_reducible exact conclavelaw07_anchor.mono _)
      | (with_reducible exact LeO.refl _)
      | (with_reducible exact LeO.none _)
      | (with_reducible refine LeO.ite ?_ ?_)
      | (with_reducible refine LeO.bind ?_ (fun _ => ?_))
      | exact ih0 _ _ _ _ _
      | exact ih1 _ _ _ _ _ _ _ _ _ _ _ _ _ _ _ _
      | exact ih2 _ _ _ _ _
      | exact conclavelaw07_anchor.mono _
      | exact LeO.none _
      | refine LeO.ite ?_ ?_
      | refine LeO.bind ?_ (fun _ => ?_)
theorem conclavelaw07_ScheduleExports.mono : ∀ a0 a1 a2 a3 k, LeO (conclavelaw07_ScheduleExports.f k a0 a1 a2 a3) (conclavelaw07_ScheduleExports.f (k + 1) a0 a1 a2 a3) := by
  intro a0 a1 a2 a3 k
  obtain ⟨ih0, ih1, ih2⟩ := conclavelaw07_ScheduleExports.mono_l k
  unfold conclavelaw07_ScheduleExports.f
  repeat' first
      | (with_reducible exact ih0 _ _ _ _ _)
      | (with_reducible exact ih1 _ _ _ _ _ _ _ _ _ _ _ _ _ _ _ _)
      | (with_reducible exact ih2 _ _ _ _ _)
      | (with_reducible exact conclavelaw07_anchor.mono _)
      | (with_reducible exact LeO.refl _)
      | (with_reducible exact LeO.none _)
      | (with_reducible refine LeO.ite ?_ ?_)
      | (with_reducible refine LeO.bind ?_ (fun _ => ?_))
      | exact ih0 _ _ _ _ _
      | exact ih1 _ _ _ _ _ _ _ _ _ _ _ _ _ _ _ _
      | exact ih2 _ _ _ _ _
      | exact conclavelaw07_anchor.mono _
      | exact LeO.none _
      | refine LeO.ite ?_ ?_
      | refine LeO.bind ?_ (fun _ => ?_)
def conclavelaw07_ScheduleExports.T9 : Bool × List (List Nat × List Nat) := (true, [([], []), ([], []), ([], []), ([], []), ([0, 1, 2, 3], [0, 1, 2, 3]), ([], []), ([], []), ([], []), ([], []), ([5, 6, 7, 8, 4], [5, 6, 7, 8]), ([4, 9, 0, 1, 2, 3, 4], [4]), ([9, 10, 0, 1, 2, 3, 4, 5, 6, 7, 8, 9, 10], [9])])
def conclavelaw07_ScheduleExports.B9 : List Nat := [0, 0, 0, 0, 15, 0, 0, 0, 0, 511, 1023, 2047]
theorem conclavelaw07_ScheduleExports.tab9 : rtab .any (opsOf Try.f5 9) = conclavelaw07_ScheduleExports.T9 := by kernel_rfl
theorem conclavelaw07_ScheduleExports.bits9 : waitsOk conclavelaw07_ScheduleExports.T9.2 conclavelaw07_ScheduleExports.B9 = true := by kernel_rfl
set_option maxHeartbeats 8000000 in
set_option maxRecDepth 100000 in
theorem conclavelaw07_ScheduleExports.calls (k : Nat) (a0 : ByteArray) (a1 : ByteArray) (a2 : ByteArray) (a3 : ByteArray) (r : Bool) (w : World) (h : conclavelaw07_ScheduleExports.f k a0 a1 a2 a3 = some r) :
    Calls Try.prog 5 #[.string a0, .string a1, .string a2, .string a3] w fun e w' => e = .returned (.bool r) ∧ Below w.heap.size w w' := by
  have hu31 := Try.underlying31
  have HB := Aside0.mk (Below.refl w.heap.size w)
  have H : ((conclavelaw07_anchor.f k).bind fun t272 => (if t272 = true then (if (a0.size : Int) > 1024 then (conclavelaw07_ScheduleExports.j0 k a0 a1 a2 a3 true) else (if (a1.size : Int) > 1024 then (conclavelaw07_ScheduleExports.j0 k a0 a1 a2 a3 true) else (if (a2.size : Int) > 1024 then (conclavelaw07_ScheduleExports.j0 k a0 a1 a2 a3 true) else (conclavelaw07_ScheduleExports.j0 k a0 a1 a2 a3 (decide ((a3.size : Int) > 1024)))))) else (some false))) = some r := h
  clear h
  replace H := Option.bind_eq_some_iff.mp H
  obtain ⟨t272, A50, H⟩ := H
  replace H : (if t272 = true then (if (a0.size : Int) > 1024 then (conclavelaw07_ScheduleExports.j0 k a0 a1 a2 a3 true) else (if (a1.size : Int) > 1024 then (conclavelaw07_ScheduleExports.j0 k a0 a1 a2 a3 true) else (if (a2.size : Int) > 1024 then (conclavelaw07_ScheduleExports.j0 k a0 a1 a2 a3 true) else (conclavelaw07_ScheduleExports.j0 k a0 a1 a2 a3 (decide ((a3.size : Int) > 1024)))))) else (some false)) = some r := H
  have A5 := Aside0.mk A50
  clear A50
  by_cases c6 : t272 = true
  · subst c6
    have H1 : (if (a0.size : Int) > 1024 then (conclavelaw07_ScheduleExports.j0 k a0 a1 a2 a3 true) else (if (a1.size : Int) > 1024 then (conclavelaw07_ScheduleExports.j0 k a0 a1 a2 a3 true) else (if (a2.size : Int) > 1024 then (conclavelaw07_ScheduleExports.j0 k a0 a1 a2 a3 true) else (conclavelaw07_ScheduleExports.j0 k a0 a1 a2 a3 (decide ((a3.size : Int) > 1024)))))) = some r := by rw [if_pos rfl] at H; exact H
    clear H
    have H := H1
    clear H1
    have HC7 := Aside0.mk H
    clear H
    go_enter Try.func5, Try.ntmps5
    go_upto_region 3 with (first | ((with_reducible refine gate_callee (f := 6) rfl ?_); refine goesL_ (some 16) rfl rfl Try.func6 (by kernel_rfl) rfl #[] rfl (by (try simp only [List.map_toArray, List.map_cons, List.map_nil]); first | done | rfl | (simp only [List.length_drop, List.length_take]; rfl)) ?_; (with_reducible refine (conclavelaw07_anchor.calls k  true _ A5.out).mono ?_); rintro e w8 ⟨rfl, hb⟩; refine ⟨_, rfl, ?_⟩; have n0_ := Aside0.mk (below_step (by repeat (first | (with_reducible first | exact HB.out | apply below_alloc | apply pw_below_drewN | apply below_drew1) | exact HB.out)) hb); clear HB; have HB := n0_; clear n0_; (try clear hb); (try clear hb2); (try clear hk); (try clear hi)))
    (try simp only [Act.put, List.setIfInBounds_toArray, List.set_cons_zero, List.set_cons_succ])
    go_cut [35] (fun v35 wc => ∃ (kq : Nat) (x35_6 : Bool), v35 = .bool x35_6 ∧ Aside0 (conclavelaw07_ScheduleExports.j0 kq a0 a1 a2 a3 x35_6 = some r) ∧ Aside0 (kq ≤ k) ∧ Aside0 (Below w.heap.size w wc))
    case first =>
      have H := HC7.out
      clear HC7
      by_cases c9 : (a0.size : Int) > 1024
      · rw [if_pos c9] at H
        have c9b0 : decide (1024 < (a0.size : Int)) = true := decide_eq_true c9
        have c9b1 : decide (1024 < a0.size) = true := decide_eq_true (by omega)
        clear c9
        (first | rw [c9b0] | (simp only [i64_w, i32_w]; rw [c9b0]) | skip)
        have H' := Aside0.mk H
        clear H
        go_wp2
        go_meet
        case rel => exact ⟨_, (true), (by first | rfl | (simp; done) | (simp [*]; done)), H', ⟨by first | omega | exact Nat.le_refl _⟩, ⟨by repeat (first | (with_reducible first | exact HB.out | apply below_alloc | apply pw_below_drewN | apply below_drew1) | exact HB.out)⟩⟩
      · rw [if_neg c9] at H
        have c9b0 : decide (1024 < (a0.size : Int)) = false := decide_eq_false c9
        have c9b1 : decide (1024 < a0.size) = false := decide_eq_false (by omega)
        clear c9
        (first | rw [c9b0] | (simp only [i64_w, i32_w]; rw [c9b0]) | skip)
        by_cases c10 : (a1.size : Int) > 1024
        · rw [if_pos c10] at H
          have c10b0 : decide (1024 < (a1.size : Int)) = true := decide_eq_true c10
          have c10b1 : decide (1024 < a1.size) = true := decide_eq_true (by omega)
          clear c10
          have H' := Aside0.mk H
          clear H
          go_wp2
          go_meet
          case rel => exact ⟨_, (true), (by first | rfl | (simp; done) | (simp [*]; done)), H', ⟨by first | omega | exact Nat.le_refl _⟩, ⟨by repeat (first | (with_reducible first | exact HB.out | apply below_alloc | apply pw_below_drewN | apply below_drew1) | exact HB.out)⟩⟩
        · rw [if_neg c10] at H
          have c10b0 : decide (1024 < (a1.size : Int)) = false := decide_eq_false c10
          have c10b1 : decide (1024 < a1.size) = false := decide_eq_false (by omega)
          clear c10
          by_cases c11 : (a2.size : Int) > 1024
          · rw [if_pos c11] at H
            have c11b0 : decide (1024 < (a2.size : Int)) = true := decide_eq_true c11
            have c11b1 : decide (1024 < a2.size) = true := decide_eq_true (by omega)
            clear c11
            have H' := Aside0.mk H
            clear H
            go_wp2
            go_meet
            case rel => exact ⟨_, (true), (by first | rfl | (simp; done) | (simp [*]; done)), H', ⟨by first | omega | exact Nat.le_refl _⟩, ⟨by repeat (first | (with_reducible first | exact HB.out | apply below_alloc | apply pw_below_drewN | apply below_drew1) | exact HB.out)⟩⟩
          · rw [if_neg c11] at H
            have c11b0 : decide (1024 < (a2.size : Int)) = false := decide_eq_false c11
            have c11b1 : decide (1024 < a2.size) = false := decide_eq_false (by omega)
            clear c11
            have H' := Aside0.mk H
            clear H
            go_wp2
            go_meet
            case rel => exact ⟨_, (decide ((a3.size : Int) > 1024)), (by first | rfl | (simp; done) | (simp [*]; done)), H', ⟨by first | omega | exact Nat.le_refl _⟩, ⟨by repeat (first | (with_reducible first | exact HB.out | apply below_alloc | apply pw_below_drewN | apply below_drew1) | exact HB.out)⟩⟩
    case rest =>
      clear HC7
      try clear c1
      try clear p2
      try clear c5
      try clear c6
      try clear c9
      try clear c9b0
      try clear c9b1
      try clear c10
      try clear c10b0
      try clear c10b1
      try clear c11
      try clear c11b0
      try clear c11b1
      obtain ⟨kq, x35_6, rfl, HA, HJ6, HB⟩ := hcut
      cases kq with
      | zero => exact absurd HA.out (by simp [conclavelaw07_ScheduleExports.j0])
      | succ kj6 =>
        have H := HA.out
        clear HA
        simp only [conclavelaw07_ScheduleExports.j0] at H
        by_cases c12 : x35_6 = true
        · subst c12
          have H1 : (some true) = some r := by rw [if_pos rfl] at H; exact H
          clear H
          have H := H1
          clear H1
          obtain rfl := Option.some.inj H
          go_wp2
          go_ret
          exact ⟨by first | rfl | (simp [errW_none, errW_some] <;> rfl) | (simp [*, errW_none, errW_some] <;> rfl), by repeat (first | (with_reducible first | exact HB.out | apply below_alloc | apply pw_below_drewN | apply below_drew1) | exact HB.out)⟩
        · replace c12 := Bool.eq_false_iff.mpr c12
          subst c12
          have H1 : ((conclavelaw07_stores.f 4).bind fun t273 => ((term_Store_Text.f t273 (⟨#[]⟩ : ByteArray)).bind fun bt275 => ((schedule_Next.f bt275.2 1 2 bt275.1 3).bind fun bt277 => ((schedule_Export.f bt277.2.2.2.2.2.2.2.2.2.2.2.2.2 bt277.1 bt277.2.1 bt277.2.2.1 bt277.2.2.2.1 bt277.2.2.2.2.1 bt277.2.2.2.2.2.1 bt277.2.2.2.2.2.2.1 bt277.2.2.2.2.2.2.2.1 bt277.2.2.2.2.2.2.2.2.1 bt277.2.2.2.2.2.2.2.2.2.1 bt277.2.2.2.2.2.2.2.2.2.2.1 bt277.2.2.2.2.2.2.2.2.2.2.2.1 bt277.2.2.2.2.2.2.2.2.2.2.2.2.1 a0 a1).bind fun bt292 => ((schedule_Export.f bt292.2 bt277.1 bt277.2.1 bt277.2.2.1 bt277.2.2.2.1 bt277.2.2.2.2.1 bt277.2.2.2.2.2.1 bt277.2.2.2.2.2.2.1 bt277.2.2.2.2.2.2.2.1 bt277.2.2.2.2.2.2.2.2.1 bt277.2.2.2.2.2.2.2.2.2.1 bt277.2.2.2.2.2.2.2.2.2.2.1 bt277.2.2.2.2.2.2.2.2.2.2.2.1 bt277.2.2.2.2.2.2.2.2.2.2.2.2.1 a2 a3).bind fun bt294 => (if bt292.1 = 0 then (conclavelaw07_ScheduleExports.j1 kj6 bt292.1 bt294.1 true bt277.1 bt277.2.1 bt277.2.2.1 bt277.2.2.2.1 bt277.2.2.2.2.1 bt277.2.2.2.2.2.1 bt277.2.2.2.2.2.2.1 bt277.2.2.2.2.2.2.2.1 bt277.2.2.2.2.2.2.2.2.1 bt277.2.2.2.2.2.2.2.2.2.1 bt277.2.2.2.2.2.2.2.2.2.2.1 bt277.2.2.2.2.2.2.2.2.2.2.2.1 bt277.2.2.2.2.2.2.2.2.2.2.2.2.1) else (if bt294.1 = 0 then (conclavelaw07_ScheduleExports.j1 kj6 bt292.1 bt294.1 true bt277.1 bt277.2.1 bt277.2.2.1 bt277.2.2.2.1 bt277.2.2.2.2.1 bt277.2.2.2.2.2.1 bt277.2.2.2.2.2.2.1 bt277.2.2.2.2.2.2.2.1 bt277.2.2.2.2.2.2.2.2.1 bt277.2.2.2.2.2.2.2.2.2.1 bt277.2.2.2.2.2.2.2.2.2.2.1 bt277.2.2.2.2.2.2.2.2.2.2.2.1 bt277.2.2.2.2.2.2.2.2.2.2.2.2.1) else (if a0.toList = a2.toList then (conclavelaw07_ScheduleExports.j1 kj6 bt292.1 bt294.1 ((bt292.1 == bt294.1) != (a1.toList == a3.toList)) bt277.1 bt277.2.1 bt277.2.2.1 bt277.2.2.2.1 bt277.2.2.2.2.1 bt277.2.2.2.2.2.1 bt277.2.2.2.2.2.2.1 bt277.2.2.2.2.2.2.2.1 bt277.2.2.2.2.2.2.2.2.1 bt277.2.2.2.2.2.2.2.2.2.1 bt277.2.2.2.2.2.2.2.2.2.2.1 bt277.2.2.2.2.2.2.2.2.2.2.2.1 bt277.2.2.2.2.2.2.2.2.2.2.2.2.1) else (conclavelaw07_ScheduleExports.j1 kj6 bt292.1 bt294.1 ((bt292.1 == bt294.1) != false) bt277.1 bt277.2.1 bt277.2.2.1 bt277.2.2.2.1 bt277.2.2.2.2.1 bt277.2.2.2.2.2.1 bt277.2.2.2.2.2.2.1 bt277.2.2.2.2.2.2.2.1 bt277.2.2.2.2.2.2.2.2.1 bt277.2.2.2.2.2.2.2.2.2.1 bt277.2.2.2.2.2.2.2.2.2.2.1 bt277.2.2.2.2.2.2.2.2.2.2.2.1 bt277.2.2.2.2.2.2.2.2.2.2.2.2.1))))))))) = some r := by rw [if_neg (show ¬ (false = true) by decide)] at H; exact H
          clear H
          have H := H1
          clear H1
          replace H := Option.bind_eq_some_iff.mp H
          obtain ⟨t273, A130, H⟩ := H
          replace H : ((term_Store_Text.f t273 (⟨#[]⟩ : ByteArray)).bind fun bt275 => ((schedule_Next.f bt275.2 1 2 bt275.1 3).bind fun bt277 => ((schedule_Export.f bt277.2.2.2.2.2.2.2.2.2.2.2.2.2 bt277.1 bt277.2.1 bt277.2.2.1 bt277.2.2.2.1 bt277.2.2.2.2.1 bt277.2.2.2.2.2.1 bt277.2.2.2.2.2.2.1 bt277.2.2.2.2.2.2.2.1 bt277.2.2.2.2.2.2.2.2.1 bt277.2.2.2.2.2.2.2.2.2.1 bt277.2.2.2.2.2.2.2.2.2.2.1 bt277.2.2.2.2.2.2.2.2.2.2.2.1 bt277.2.2.2.2.2.2.2.2.2.2.2.2.1 a0 a1).bind fun bt292 => ((schedule_Export.f bt292.2 bt277.1 bt277.2.1 bt277.2.2.1 bt277.2.2.2.1 bt277.2.2.2.2.1 bt277.2.2.2.2.2.1 bt277.2.2.2.2.2.2.1 bt277.2.2.2.2.2.2.2.1 bt277.2.2.2.2.2.2.2.2.1 bt277.2.2.2.2.2.2.2.2.2.1 bt277.2.2.2.2.2.2.2.2.2.2.1 bt277.2.2.2.2.2.2.2.2.2.2.2.1 bt277.2.2.2.2.2.2.2.2.2.2.2.2.1 a2 a3).bind fun bt294 => (if bt292.1 = 0 then (conclavelaw07_ScheduleExports.j1 kj6 bt292.1 bt294.1 true bt277.1 bt277.2.1 bt277.2.2.1 bt277.2.2.2.1 bt277.2.2.2.2.1 bt277.2.2.2.2.2.1 bt277.2.2.2.2.2.2.1 bt277.2.2.2.2.2.2.2.1 bt277.2.2.2.2.2.2.2.2.1 bt277.2.2.2.2.2.2.2.2.2.1 bt277.2.2.2.2.2.2.2.2.2.2.1 bt277.2.2.2.2.2.2.2.2.2.2.2.1 bt277.2.2.2.2.2.2.2.2.2.2.2.2.1) else (if bt294.1 = 0 then (conclavelaw07_ScheduleExports.j1 kj6 bt292.1 bt294.1 true bt277.1 bt277.2.1 bt277.2.2.1 bt277.2.2.2.1 bt277.2.2.2.2.1 bt277.2.2.2.2.2.1 bt277.2.2.2.2.2.2.1 bt277.2.2.2.2.2.2.2.1 bt277.2.2.2.2.2.2.2.2.1 bt277.2.2.2.2.2.2.2.2.2.1 bt277.2.2.2.2.2.2.2.2.2.2.1 bt277.2.2.2.2.2.2.2.2.2.2.2.1 bt277.2.2.2.2.2.2.2.2.2.2.2.2.1) else (if a0.toList = a2.toList then (conclavelaw07_ScheduleExports.j1 kj6 bt292.1 bt294.1 ((bt292.1 == bt294.1) != (a1.toList == a3.toList)) bt277.1 bt277.2.1 bt277.2.2.1 bt277.2.2.2.1 bt277.2.2.2.2.1 bt277.2.2.2.2.2.1 bt277.2.2.2.2.2.2.1 bt277.2.2.2.2.2.2.2.1 bt277.2.2.2.2.2.2.2.2.1 bt277.2.2.2.2.2.2.2.2.2.1 bt277.2.2.2.2.2.2.2.2.2.2.1 bt277.2.2.2.2.2.2.2.2.2.2.2.1 bt277.2.2.2.2.2.2.2.2.2.2.2.2.1) else (conclavelaw07_ScheduleExports.j1 kj6 bt292.1 bt294.1 ((bt292.1 == bt294.1) != false) bt277.1 bt277.2.1 bt277.2.2.1 bt277.2.2.2.1 bt277.2.2.2.2.1 bt277.2.2.2.2.2.1 bt277.2.2.2.2.2.2.1 bt277.2.2.2.2.2.2.2.1 bt277.2.2.2.2.2.2.2.2.1 bt277.2.2.2.2.2.2.2.2.2.1 bt277.2.2.2.2.2.2.2.2.2.2.1 bt277.2.2.2.2.2.2.2.2.2.2.2.1 bt277.2.2.2.2.2.2.2.2.2.2.2.2.1)))))))) = some r := H
          have A13 := Aside0.mk A130
          clear A130
          replace H := Option.bind_eq_some_iff.mp H
          obtain ⟨⟨t275, t276⟩, A140, H⟩ := H
          replace H : ((schedule_Next.f t276 1 2 t275 3).bind fun bt277 => ((schedule_Export.f bt277.2.2.2.2.2.2.2.2.2.2.2.2.2 bt277.1 bt277.2.1 bt277.2.2.1 bt277.2.2.2.1 bt277.2.2.2.2.1 bt277.2.2.2.2.2.1 bt277.2.2.2.2.2.2.1 bt277.2.2.2.2.2.2.2.1 bt277.2.2.2.2.2.2.2.2.1 bt277.2.2.2.2.2.2.2.2.2.1 bt277.2.2.2.2.2.2.2.2.2.2.1 bt277.2.2.2.2.2.2.2.2.2.2.2.1 bt277.2.2.2.2.2.2.2.2.2.2.2.2.1 a0 a1).bind fun bt292 => ((schedule_Export.f bt292.2 bt277.1 bt277.2.1 bt277.2.2.1 bt277.2.2.2.1 bt277.2.2.2.2.1 bt277.2.2.2.2.2.1 bt277.2.2.2.2.2.2.1 bt277.2.2.2.2.2.2.2.1 bt277.2.2.2.2.2.2.2.2.1 bt277.2.2.2.2.2.2.2.2.2.1 bt277.2.2.2.2.2.2.2.2.2.2.1 bt277.2.2.2.2.2.2.2.2.2.2.2.1 bt277.2.2.2.2.2.2.2.2.2.2.2.2.1 a2 a3).bind fun bt294 => (if bt292.1 = 0 then (conclavelaw07_ScheduleExports.j1 kj6 bt292.1 bt294.1 true bt277.1 bt277.2.1 bt277.2.2.1 bt277.2.2.2.1 bt277.2.2.2.2.1 bt277.2.2.2.2.2.1 bt277.2.2.2.2.2.2.1 bt277.2.2.2.2.2.2.2.1 bt277.2.2.2.2.2.2.2.2.1 bt277.2.2.2.2.2.2.2.2.2.1 bt277.2.2.2.2.2.2.2.2.2.2.1 bt277.2.2.2.2.2.2.2.2.2.2.2.1 bt277.2.2.2.2.2.2.2.2.2.2.2.2.1) else (if bt294.1 = 0 then (conclavelaw07_ScheduleExports.j1 kj6 bt292.1 bt294.1 true bt277.1 bt277.2.1 bt277.2.2.1 bt277.2.2.2.1 bt277.2.2.2.2.1 bt277.2.2.2.2.2.1 bt277.2.2.2.2.2.2.1 bt277.2.2.2.2.2.2.2.1 bt277.2.2.2.2.2.2.2.2.1 bt277.2.2.2.2.2.2.2.2.2.1 bt277.2.2.2.2.2.2.2.2.2.2.1 bt277.2.2.2.2.2.2.2.2.2.2.2.1 bt277.2.2.2.2.2.2.2.2.2.2.2.2.1) else (if a0.toList = a2.toList then (conclavelaw07_ScheduleExports.j1 kj6 bt292.1 bt294.1 ((bt292.1 == bt294.1) != (a1.toList == a3.toList)) bt277.1 bt277.2.1 bt277.2.2.1 bt277.2.2.2.1 bt277.2.2.2.2.1 bt277.2.2.2.2.2.1 bt277.2.2.2.2.2.2.1 bt277.2.2.2.2.2.2.2.1 bt277.2.2.2.2.2.2.2.2.1 bt277.2.2.2.2.2.2.2.2.2.1 bt277.2.2.2.2.2.2.2.2.2.2.1 bt277.2.2.2.2.2.2.2.2.2.2.2.1 bt277.2.2.2.2.2.2.2.2.2.2.2.2.1) else (conclavelaw07_ScheduleExports.j1 kj6 bt292.1 bt294.1 ((bt292.1 == bt294.1) != false) bt277.1 bt277.2.1 bt277.2.2.1 bt277.2.2.2.1 bt277.2.2.2.2.1 bt277.2.2.2.2.2.1 bt277.2.2.2.2.2.2.1 bt277.2.2.2.2.2.2.2.1 bt277.2.2.2.2.2.2.2.2.1 bt277.2.2.2.2.2.2.2.2.2.1 bt277.2.2.2.2.2.2.2.2.2.2.1 bt277.2.2.2.2.2.2.2.2.2.2.2.1 bt277.2.2.2.2.2.2.2.2.2.2.2.2.1))))))) = some r := H
          have A14 := Aside0.mk A140
          clear A140
          replace H := Option.bind_eq_some_iff.mp H
          obtain ⟨⟨t277, t278, t279, t280, t281, t282, t283, t284, t285, t286, t287, t288, t289, t290⟩, A150, H⟩ := H
          replace H : ((schedule_Export.f t290 t277 t278 t279 t280 t281 t282 t283 t284 t285 t286 t287 t288 t289 a0 a1).bind fun bt292 => ((schedule_Export.f bt292.2 t277 t278 t279 t280 t281 t282 t283 t284 t285 t286 t287 t288 t289 a2 a3).bind fun bt294 => (if bt292.1 = 0 then (conclavelaw07_ScheduleExports.j1 kj6 bt292.1 bt294.1 true t277 t278 t279 t280 t281 t282 t283 t284 t285 t286 t287 t288 t289) else (if bt294.1 = 0 then (conclavelaw07_ScheduleExports.j1 kj6 bt292.1 bt294.1 true t277 t278 t279 t280 t281 t282 t283 t284 t285 t286 t287 t288 t289) else (if a0.toList = a2.toList then (conclavelaw07_ScheduleExports.j1 kj6 bt292.1 bt294.1 ((bt292.1 == bt294.1) != (a1.toList == a3.toList)) t277 t278 t279 t280 t281 t282 t283 t284 t285 t286 t287 t288 t289) else (conclavelaw07_ScheduleExports.j1 kj6 bt292.1 bt294.1 ((bt292.1 == bt294.1) != false) t277 t278 t279 t280 t281 t282 t283 t284 t285 t286 t287 t288 t289)))))) = some r := H
          have A15 := Aside0.mk A150
          clear A150
          replace H := Option.bind_eq_some_iff.mp H
          obtain ⟨⟨t292, t293⟩, A160, H⟩ := H
          replace H : ((schedule_Export.f t293 t277 t278 t279 t280 t281 t282 t283 t284 t285 t286 t287 t288 t289 a2 a3).bind fun bt294 => (if t292 = 0 then (conclavelaw07_ScheduleExports.j1 kj6 t292 bt294.1 true t277 t278 t279 t280 t281 t282 t283 t284 t285 t286 t287 t288 t289) else (if bt294.1 = 0 then (conclavelaw07_ScheduleExports.j1 kj6 t292 bt294.1 true t277 t278 t279 t280 t281 t282 t283 t284 t285 t286 t287 t288 t289) else (if a0.toList = a2.toList then (conclavelaw07_ScheduleExports.j1 kj6 t292 bt294.1 ((t292 == bt294.1) != (a1.toList == a3.toList)) t277 t278 t279 t280 t281 t282 t283 t284 t285 t286 t287 t288 t289) else (conclavelaw07_ScheduleExports.j1 kj6 t292 bt294.1 ((t292 == bt294.1) != false) t277 t278 t279 t280 t281 t282 t283 t284 t285 t286 t287 t288 t289))))) = some r := H
          have A16 := Aside0.mk A160
          clear A160
          replace H := Option.bind_eq_some_iff.mp H
          obtain ⟨⟨t294, t295⟩, A170, H⟩ := H
          replace H : (if t292 = 0 then (conclavelaw07_ScheduleExports.j1 kj6 t292 t294 true t277 t278 t279 t280 t281 t282 t283 t284 t285 t286 t287 t288 t289) else (if t294 = 0 then (conclavelaw07_ScheduleExports.j1 kj6 t292 t294 true t277 t278 t279 t280 t281 t282 t283 t284 t285 t286 t287 t288 t289) else (if a0.toList = a2.toList then (conclavelaw07_ScheduleExports.j1 kj6 t292 t294 ((t292 == t294) != (a1.toList == a3.toList)) t277 t278 t279 t280 t281 t282 t283 t284 t285 t286 t287 t288 t289) else (conclavelaw07_ScheduleExports.j1 kj6 t292 t294 ((t292 == t294) != false) t277 t278 t279 t280 t281 t282 t283 t284 t285 t286 t287 t288 t289)))) = some r := H
          have A17 := Aside0.mk A170
          clear A170
          have HC18 := Aside0.mk H
          clear H
          try go_wp2_with (first | ((with_reducible refine gate_callee (f := 8) rfl ?_); refine goesL_ (some 37) rfl rfl Try.func8 (by kernel_rfl) rfl #[.int .i64 4] rfl (by (try simp only [List.map_toArray, List.map_cons, List.map_nil]); first | done | rfl | (simp only [List.length_drop, List.length_take]; rfl)) ?_; (with_reducible refine (conclavelaw07_stores.calls 4 t273 w _ ?side1 A13.out).mono ?_); (case side1 => repeat (first | (with_reducible first | exact HB.out | apply below_alloc | apply pw_below_drewN | apply below_drew1) | exact HB.out)); rintro e w19 ⟨g274, rfl, hi, hb, hb2⟩; refine ⟨_, rfl, ?_⟩; have n0_ := Aside0.mk (hb); have n1_ := Aside0.mk (hi); clear HB; have HB := n0_; have HI274 := n1_; clear n0_ n1_; (try clear hb); (try clear hb2); (try clear hk); (try clear hi)) | ((with_reducible refine gate_callee (f := 13) rfl ?_); refine goesL_ (some 44) rfl rfl Try.func13 (by kernel_rfl) rfl #[.pointer (some ⟨g274, 0, none⟩), .string (⟨#[]⟩ : ByteArray)] rfl (by (try simp only [List.map_toArray, List.map_cons, List.map_nil]); first | done | rfl | (simp only [List.length_drop, List.length_take]; rfl)) ?_; (with_reducible refine (term_Store_Text.calls g274 t273 (⟨#[]⟩ : ByteArray) t275 t276 w _ ?side1 ?side2 A14.out).mono ?_); (case side1 => repeat (first | (with_reducible first | exact HI274.out | apply IsS53.alloc | apply IsS53.drewN | apply IsS53.drew | apply IsS53.set_0) | exact HI274.out)); (case side2 => repeat (first | (with_reducible first | exact HB.out | apply below_alloc | apply pw_below_drewN | apply below_drew1 | refine below_set ?_ (IsS53.ge HI274.out)) | exact HB.out)); rintro e w20 ⟨rfl, hi, hb, hk⟩; refine ⟨_, rfl, ?_⟩; have n0_ := Aside0.mk (hb); have n1_ := Aside0.mk (hi); clear HB; clear HI274; have HB := n0_; have HI274 := n1_; clear n0_ n1_; (try clear hb); (try clear hb2); (try clear hk); (try clear hi)) | ((with_reducible refine gate_callee (f := 10) rfl ?_); refine goesL_ (some 45) rfl rfl Try.func10 (by kernel_rfl) rfl #[.pointer (some ⟨g274, 0, none⟩), .int .i64 1, .int .i64 2, .int .i64 t275, .int .i64 3] rfl (by (try simp only [List.map_toArray, List.map_cons, List.map_nil]); first | done | rfl | (simp only [List.length_drop, List.length_take]; rfl)) ?_; (with_reducible refine (schedule_Next.calls g274 t276 1 2 t275 3 t277 t278 t279 t280 t281 t282 t283 t284 t285 t286 t287 t288 t289 t290 w _ ?side1 ?side2 A15.out).mono ?_); (case side1 => repeat (first | (with_reducible first | exact HI274.out | apply IsS53.alloc | apply IsS53.drewN | apply IsS53.drew | apply IsS53.set_0) | exact HI274.out)); (case side2 => repeat (first | (with_reducible first | exact HB.out | apply below_alloc | apply pw_below_drewN | apply below_drew1 | refine below_set ?_ (IsS53.ge HI274.out)) | exact HB.out)); rintro e w21 ⟨rfl, hi, hb, hk⟩; refine ⟨_, rfl, ?_⟩; have n0_ := Aside0.mk (hb); have n1_ := Aside0.mk (hi); clear HB; clear HI274; have HB := n0_; have HI274 := n1_; clear n0_ n1_; (try clear hb); (try clear hb2); (try clear hk); (try clear hi)) | ((with_reducible refine gate_dst (N := 11) rfl ?_); (try (refine gate_guard (by rfl) ?_; dsimp only)); refine box_event ?hg (N := 11) ?hd (cs := #[.int .i64 0, .int .i64 0, .int .i64 0, .int .i64 0, .int .i64 0, .int .i64 0, .int .i64 0, .int .i64 0, .int .i64 0, .int .i64 0, .int .i64 0, .int .i64 0, .int .i64 0]) (t := 31) ?hr ?_; (case hd => rfl); (case hg => rfl); (case hr => first | (go_simp; done) | (go_simp; rfl)); intro gb291 hg w22 hbox hb; have n0_ := Aside0.mk (IsS53.below (by repeat (first | (with_reducible first | exact HI274.out | apply IsS53.alloc | apply IsS53.drewN | apply IsS53.drew | apply IsS53.set_0) | exact HI274.out)) hb); have n1_ := Aside0.mk (below_step (by repeat (first | (with_reducible first | exact HB.out | apply below_alloc | apply pw_below_drewN | apply below_drew1 | refine below_set ?_ (IsS53.ge HI274.out)) | exact HB.out)) hb); have n2_ := Aside0.mk (hbox); have n3_ := Aside0.mk ((by rw [hg]; exact (below_size (by repeat (first | (with_reducible first | exact HB.out | apply below_alloc | apply pw_below_drewN | apply below_drew1 | refine below_set ?_ (IsS53.ge HI274.out)) | exact HB.out))) : w.heap.size ≤ gb291)); have n4_ := Aside0.mk ((by rw [hg]; exact (below_size (by repeat (first | (with_reducible first | exact HB.out | apply below_alloc | apply pw_below_drewN | apply below_drew1 | refine below_set ?_ (IsS53.ge HI274.out)) | exact HB.out))) : w.heap.size ≤ gb291)); have n5_ := Aside0.mk ((by rw [hg]; exact Nat.ne_of_lt (IsS53.lt (show IsS53 w _ g274 t290 from by repeat (first | (with_reducible first | exact HI274.out | apply IsS53.alloc | apply IsS53.drewN | apply IsS53.drew | apply IsS53.set_0) | exact HI274.out))) : g274 ≠ gb291)); have n6_ := Aside0.mk ((by rw [hg]; exact Nat.ne_of_gt (IsS53.lt (show IsS53 w _ g274 t290 from by repeat (first | (with_reducible first | exact HI274.out | apply IsS53.alloc | apply IsS53.drewN | apply IsS53.drew | apply IsS53.set_0) | exact HI274.out))) : gb291 ≠ g274)); clear HI274; clear HB; have HI274 := n0_; have HB := n1_; have BK291 := n2_; have GW291 := n3_; have GE291 := n4_; have NB274_291 := n5_; have NB291_274 := n6_; clear n0_ n1_ n2_ n3_ n4_ n5_ n6_; clear hb hbox hg; have hnb23 := NB291_274.out; have hnc23 := NB274_291.out; have hcz24_0 : w22.cell? ⟨gb291, 0, none⟩ = some (.int .i64 0) := (blk_cell BK291.out 0).trans rfl; have hcz24_1 : w22.cell? ⟨gb291, 1, none⟩ = some (.int .i64 0) := (blk_cell BK291.out 1).trans rfl; have hcz24_2 : w22.cell? ⟨gb291, 2, none⟩ = some (.int .i64 0) := (blk_cell BK291.out 2).trans rfl; have hcz24_3 : w22.cell? ⟨gb291, 3, none⟩ = some (.int .i64 0) := (blk_cell BK291.out 3).trans rfl; have hcz24_4 : w22.cell? ⟨gb291, 4, none⟩ = some (.int .i64 0) := (blk_cell BK291.out 4).trans rfl; have hcz24_5 : w22.cell? ⟨gb291, 5, none⟩ = some (.int .i64 0) := (blk_cell BK291.out 5).trans rfl; have hcz24_6 : w22.cell? ⟨gb291, 6, none⟩ = some (.int .i64 0) := (blk_cell BK291.out 6).trans rfl; have hcz24_7 : w22.cell? ⟨gb291, 7, none⟩ = some (.int .i64 0) := (blk_cell BK291.out 7).trans rfl; have hcz24_8 : w22.cell? ⟨gb291, 8, none⟩ = some (.int .i64 0) := (blk_cell BK291.out 8).trans rfl; have hcz24_9 : w22.cell? ⟨gb291, 9, none⟩ = some (.int .i64 0) := (blk_cell BK291.out 9).trans rfl; have hcz24_10 : w22.cell? ⟨gb291, 10, none⟩ = some (.int .i64 0) := (blk_cell BK291.out 10).trans rfl; have hcz24_11 : w22.cell? ⟨gb291, 11, none⟩ = some (.int .i64 0) := (blk_cell BK291.out 11).trans rfl; have hcz24_12 : w22.cell? ⟨gb291, 12, none⟩ = some (.int .i64 0) := (blk_cell BK291.out 12).trans rfl; have hfz24_0 := blk_frozen BK291.out 0; have hfz24_1 := blk_frozen BK291.out 1; have hfz24_2 := blk_frozen BK291.out 2; have hfz24_3 := blk_frozen BK291.out 3; have hfz24_4 := blk_frozen BK291.out 4; have hfz24_5 := blk_frozen BK291.out 5; have hfz24_6 := blk_frozen BK291.out 6; have hfz24_7 := blk_frozen BK291.out 7; have hfz24_8 := blk_frozen BK291.out 8; have hfz24_9 := blk_frozen BK291.out 9; have hfz24_10 := blk_frozen BK291.out 10; have hfz24_11 := blk_frozen BK291.out 11; have hfz24_12 := blk_frozen BK291.out 12))
          have n0_ : Aside0 ((((((((((((((w22.setCell ⟨gb291, 0, none⟩ (.int .i64 t277)).setCell ⟨gb291, 1, none⟩ (.int .i64 t278)).setCell ⟨gb291, 2, none⟩ (.int .i64 t279)).setCell ⟨gb291, 3, none⟩ (.int .i64 t280)).setCell ⟨gb291, 4, none⟩ (.int .i64 t281)).setCell ⟨gb291, 5, none⟩ (.int .i64 t282)).setCell ⟨gb291, 6, none⟩ (.int .i64 t283)).setCell ⟨gb291, 7, none⟩ (.int .i64 t284)).setCell ⟨gb291, 8, none⟩ (.int .i64 t285)).setCell ⟨gb291, 9, none⟩ (.int .i64 t286)).setCell ⟨gb291, 10, none⟩ (.int .i64 t287)).setCell ⟨gb291, 11, none⟩ (.int .i64 t288)).setCell ⟨gb291, 12, none⟩ (.int .i64 t289)).heap[gb291]? = some (.cells #[.int .i64 t277, .int .i64 t278, .int .i64 t279, .int .i64 t280, .int .i64 t281, .int .i64 t282, .int .i64 t283, .int .i64 t284, .int .i64 t285, .int .i64 t286, .int .i64 t287, .int .i64 t288, .int .i64 t289] 31 (0, 0))) := ⟨by (with_reducible repeat (first | refine blk_drewN ?_ _ | refine blk_drew ?_ | refine blk_alloc ?_ _)); refine blk_put (cs := #[.int .i64 t277, .int .i64 t278, .int .i64 t279, .int .i64 t280, .int .i64 t281, .int .i64 t282, .int .i64 t283, .int .i64 t284, .int .i64 t285, .int .i64 t286, .int .i64 t287, .int .i64 t288, .int .i64 0]) ?_ 12 _ rfl; (with_reducible repeat (first | refine blk_drewN ?_ _ | refine blk_drew ?_ | refine blk_alloc ?_ _)); refine blk_put (cs := #[.int .i64 t277, .int .i64 t278, .int .i64 t279, .int .i64 t280, .int .i64 t281, .int .i64 t282, .int .i64 t283, .int .i64 t284, .int .i64 t285, .int .i64 t286, .int .i64 t287, .int .i64 0, .int .i64 0]) ?_ 11 _ rfl; (with_reducible repeat (first | refine blk_drewN ?_ _ | refine blk_drew ?_ | refine blk_alloc ?_ _)); refine blk_put (cs := #[.int .i64 t277, .int .i64 t278, .int .i64 t279, .int .i64 t280, .int .i64 t281, .int .i64 t282, .int .i64 t283, .int .i64 t284, .int .i64 t285, .int .i64 t286, .int .i64 0, .int .i64 0, .int .i64 0]) ?_ 10 _ rfl; (with_reducible repeat (first | refine blk_drewN ?_ _ | refine blk_drew ?_ | refine blk_alloc ?_ _)); refine blk_put (cs := #[.int .i64 t277, .int .i64 t278, .int .i64 t279, .int .i64 t280, .int .i64 t281, .int .i64 t282, .int .i64 t283, .int .i64 t284, .int .i64 t285, .int .i64 0, .int .i64 0, .int .i64 0, .int .i64 0]) ?_ 9 _ rfl; (with_reducible repeat (first | refine blk_drewN ?_ _ | refine blk_drew ?_ | refine blk_alloc ?_ _)); refine blk_put (cs := #[.int .i64 t277, .int .i64 t278, .int .i64 t279, .int .i64 t280, .int .i64 t281, .int .i64 t282, .int .i64 t283, .int .i64 t284, .int .i64 0, .int .i64 0, .int .i64 0, .int .i64 0, .int .i64 0]) ?_ 8 _ rfl; (with_reducible repeat (first | refine blk_drewN ?_ _ | refine blk_drew ?_ | refine blk_alloc ?_ _)); refine blk_put (cs := #[.int .i64 t277, .int .i64 t278, .int .i64 t279, .int .i64 t280, .int .i64 t281, .int .i64 t282, .int .i64 t283, .int .i64 0, .int .i64 0, .int .i64 0, .int .i64 0, .int .i64 0, .int .i64 0]) ?_ 7 _ rfl; (with_reducible repeat (first | refine blk_drewN ?_ _ | refine blk_drew ?_ | refine blk_alloc ?_ _)); refine blk_put (cs := #[.int .i64 t277, .int .i64 t278, .int .i64 t279, .int .i64 t280, .int .i64 t281, .int .i64 t282, .int .i64 0, .int .i64 0, .int .i64 0, .int .i64 0, .int .i64 0, .int .i64 0, .int .i64 0]) ?_ 6 _ rfl; (with_reducible repeat (first | refine blk_drewN ?_ _ | refine blk_drew ?_ | refine blk_alloc ?_ _)); refine blk_put (cs := #[.int .i64 t277, .int .i64 t278, .int .i64 t279, .int .i64 t280, .int .i64 t281, .int .i64 0, .int .i64 0, .int .i64 0, .int .i64 0, .int .i64 0, .int .i64 0, .int .i64 0, .int .i64 0]) ?_ 5 _ rfl; (with_reducible repeat (first | refine blk_drewN ?_ _ | refine blk_drew ?_ | refine blk_alloc ?_ _)); refine blk_put (cs := #[.int .i64 t277, .int .i64 t278, .int .i64 t279, .int .i64 t280, .int .i64 0, .int .i64 0, .int .i64 0, .int .i64 0, .int .i64 0, .int .i64 0, .int .i64 0, .int .i64 0, .int .i64 0]) ?_ 4 _ rfl; (with_reducible repeat (first | refine blk_drewN ?_ _ | refine blk_drew ?_ | refine blk_alloc ?_ _)); refine blk_put (cs := #[.int .i64 t277, .int .i64 t278, .int .i64 t279, .int .i64 0, .int .i64 0, .int .i64 0, .int .i64 0, .int .i64 0, .int .i64 0, .int .i64 0, .int .i64 0, .int .i64 0, .int .i64 0]) ?_ 3 _ rfl; (with_reducible repeat (first | refine blk_drewN ?_ _ | refine blk_drew ?_ | refine blk_alloc ?_ _)); refine blk_put (cs := #[.int .i64 t277, .int .i64 t278, .int .i64 0, .int .i64 0, .int .i64 0, .int .i64 0, .int .i64 0, .int .i64 0, .int .i64 0, .int .i64 0, .int .i64 0, .int .i64 0, .int .i64 0]) ?_ 2 _ rfl; (with_reducible repeat (first | refine blk_drewN ?_ _ | refine blk_drew ?_ | refine blk_alloc ?_ _)); refine blk_put (cs := #[.int .i64 t277, .int .i64 0, .int .i64 0, .int .i64 0, .int .i64 0, .int .i64 0, .int .i64 0, .int .i64 0, .int .i64 0, .int .i64 0, .int .i64 0, .int .i64 0, .int .i64 0]) ?_ 1 _ rfl; (with_reducible repeat (first | refine blk_drewN ?_ _ | refine blk_drew ?_ | refine blk_alloc ?_ _)); refine blk_put (cs := #[.int .i64 0, .int .i64 0, .int .i64 0, .int .i64 0, .int .i64 0, .int .i64 0, .int .i64 0, .int .i64 0, .int .i64 0, .int .i64 0, .int .i64 0, .int .i64 0, .int .i64 0]) ?_ 0 _ rfl; (with_reducible repeat (first | refine blk_drewN ?_ _ | refine blk_drew ?_ | refine blk_alloc ?_ _)); exact BK291.out⟩
          have n1_ : Aside0 (IsS53 w (((((((((((((w22.setCell ⟨gb291, 0, none⟩ (.int .i64 t277)).setCell ⟨gb291, 1, none⟩ (.int .i64 t278)).setCell ⟨gb291, 2, none⟩ (.int .i64 t279)).setCell ⟨gb291, 3, none⟩ (.int .i64 t280)).setCell ⟨gb291, 4, none⟩ (.int .i64 t281)).setCell ⟨gb291, 5, none⟩ (.int .i64 t282)).setCell ⟨gb291, 6, none⟩ (.int .i64 t283)).setCell ⟨gb291, 7, none⟩ (.int .i64 t284)).setCell ⟨gb291, 8, none⟩ (.int .i64 t285)).setCell ⟨gb291, 9, none⟩ (.int .i64 t286)).setCell ⟨gb291, 10, none⟩ (.int .i64 t287)).setCell ⟨gb291, 11, none⟩ (.int .i64 t288)).setCell ⟨gb291, 12, none⟩ (.int .i64 t289)) g274 t290) := ⟨by repeat (first | (with_reducible first | exact HI274.out | apply IsS53.alloc | apply IsS53.drewN | apply IsS53.drew | apply IsS53.set_0 | refine IsS53.far ?_ (by repeat (first | (with_reducible first | exact Nsty.of BK291.out rfl | apply Nsty.set | apply Nsty.drewN | apply Nsty.drew | apply Nsty.alloc) | exact Nsty.of BK291.out rfl)) _) | exact HI274.out)⟩
          have n2_ : Aside0 (Below w.heap.size w (((((((((((((w22.setCell ⟨gb291, 0, none⟩ (.int .i64 t277)).setCell ⟨gb291, 1, none⟩ (.int .i64 t278)).setCell ⟨gb291, 2, none⟩ (.int .i64 t279)).setCell ⟨gb291, 3, none⟩ (.int .i64 t280)).setCell ⟨gb291, 4, none⟩ (.int .i64 t281)).setCell ⟨gb291, 5, none⟩ (.int .i64 t282)).setCell ⟨gb291, 6, none⟩ (.int .i64 t283)).setCell ⟨gb291, 7, none⟩ (.int .i64 t284)).setCell ⟨gb291, 8, none⟩ (.int .i64 t285)).setCell ⟨gb291, 9, none⟩ (.int .i64 t286)).setCell ⟨gb291, 10, none⟩ (.int .i64 t287)).setCell ⟨gb291, 11, none⟩ (.int .i64 t288)).setCell ⟨gb291, 12, none⟩ (.int .i64 t289))) := ⟨by repeat (first | (with_reducible first | exact HB.out | apply below_alloc | apply pw_below_drewN | apply below_drew1 | refine below_set ?_ (IsS53.ge HI274.out) | refine below_set ?_ GE291.out) | exact HB.out)⟩
          (try clear BK291)
          (try clear HI274)
          (try clear HB)
          generalize (((((((((((((w22.setCell ⟨gb291, 0, none⟩ (.int .i64 t277)).setCell ⟨gb291, 1, none⟩ (.int .i64 t278)).setCell ⟨gb291, 2, none⟩ (.int .i64 t279)).setCell ⟨gb291, 3, none⟩ (.int .i64 t280)).setCell ⟨gb291, 4, none⟩ (.int .i64 t281)).setCell ⟨gb291, 5, none⟩ (.int .i64 t282)).setCell ⟨gb291, 6, none⟩ (.int .i64 t283)).setCell ⟨gb291, 7, none⟩ (.int .i64 t284)).setCell ⟨gb291, 8, none⟩ (.int .i64 t285)).setCell ⟨gb291, 9, none⟩ (.int .i64 t286)).setCell ⟨gb291, 10, none⟩ (.int .i64 t287)).setCell ⟨gb291, 11, none⟩ (.int .i64 t288)).setCell ⟨gb291, 12, none⟩ (.int .i64 t289)) = w25 at n0_ n1_ n2_ ⊢
          have BK291 := n0_
          have HI274 := n1_
          have HB := n2_
          clear n0_ n1_ n2_
          have n0_ := Aside0.mk (blk_drew BK291.out)
          have n1_ := Aside0.mk (IsS53.drew HI274.out)
          have n2_ := Aside0.mk (below_drew1 HB.out)
          clear BK291
          clear HI274
          clear HB
          have BK291 := n0_
          have HI274 := n1_
          have HB := n2_
          clear n0_ n1_ n2_
          refine start_ (n := 12) (S := fun w' => w'.cell? ⟨gb291, 0, none⟩ = some (.int .i64 t277) ∧ w'.cell? ⟨gb291, 1, none⟩ = some (.int .i64 t278) ∧ w'.cell? ⟨gb291, 2, none⟩ = some (.int .i64 t279) ∧ w'.cell? ⟨gb291, 3, none⟩ = some (.int .i64 t280) ∧ w'.cell? ⟨gb291, 4, none⟩ = some (.int .i64 t281) ∧ w'.cell? ⟨gb291, 5, none⟩ = some (.int .i64 t282) ∧ w'.cell? ⟨gb291, 6, none⟩ = some (.int .i64 t283) ∧ w'.cell? ⟨gb291, 7, none⟩ = some (.int .i64 t284) ∧ w'.cell? ⟨gb291, 8, none⟩ = some (.int .i64 t285) ∧ w'.cell? ⟨gb291, 9, none⟩ = some (.int .i64 t286) ∧ w'.cell? ⟨gb291, 10, none⟩ = some (.int .i64 t287) ∧ w'.cell? ⟨gb291, 11, none⟩ = some (.int .i64 t288) ∧ w'.cell? ⟨gb291, 12, none⟩ = some (.int .i64 t289)) (ds := []) #[false, false, false, false, false, false, false, false, false, false, false, false] (by kernel_rfl) rfl rfl ⟨(blk_cell BK291.out 0).trans rfl, (blk_cell BK291.out 1).trans rfl, (blk_cell BK291.out 2).trans rfl, (blk_cell BK291.out 3).trans rfl, (blk_cell BK291.out 4).trans rfl, (blk_cell BK291.out 5).trans rfl, (blk_cell BK291.out 6).trans rfl, (blk_cell BK291.out 7).trans rfl, (blk_cell BK291.out 8).trans rfl, (blk_cell BK291.out 9).trans rfl, (blk_cell BK291.out 10).trans rfl, (blk_cell BK291.out 11).trans rfl, (blk_cell BK291.out 12).trans rfl⟩ (fun hHeld => ?_); refine with_tabW conclavelaw07_ScheduleExports.tab9 conclavelaw07_ScheduleExports.bits9 (fun HT_ HW_ => ?_)
          generalize w25.drew = w26 at BK291 HI274 HB hHeld ⊢
          refine pure_ (i := 0) (N := some 46) (v := ?_) (a' := ?_) #[true, false, false, false, false, false, false, false, false, false, false, false] rfl rfl (any_of HT_.out (by kernel_rfl)) (fun _ _ _ h => h) (Or.inl ⟨by rfl, ?_⟩) ?_ ?_
          rotate_left
          · intro w'
            go_simp
            with_reducible rfl
          rotate_left
          · simp only [Act.put, List.setIfInBounds_toArray, List.set_cons_zero, List.set_cons_succ, i64_w, i32_w]
            rfl
          refine pure_ (i := 2) (N := some 48) (v := ?_) (a' := ?_) #[true, false, true, false, false, false, false, false, false, false, false, false] rfl rfl (any_of HT_.out (by kernel_rfl)) (fun _ _ _ h => h) (Or.inl ⟨by rfl, ?_⟩) ?_ ?_
          rotate_left
          · intro w'
            go_simp
            with_reducible rfl
          rotate_left
          · simp only [Act.put, List.setIfInBounds_toArray, List.set_cons_zero, List.set_cons_succ, i64_w, i32_w]
            rfl
          refine pure_ (i := 3) (N := some 49) (v := ?_) (a' := ?_) #[true, false, true, true, false, false, false, false, false, false, false, false] rfl rfl (any_of HT_.out (by kernel_rfl)) (fun _ _ _ h => h) (Or.inl ⟨by rfl, ?_⟩) ?_ ?_
          rotate_left
          · intro w'
            go_simp
            with_reducible rfl
          rotate_left
          · simp only [Act.put, List.setIfInBounds_toArray, List.set_cons_zero, List.set_cons_succ, i64_w, i32_w]
            rfl
          refine pure_ (i := 5) (N := some 51) (v := ?_) (a' := ?_) #[true, false, true, true, false, true, false, false, false, false, false, false] rfl rfl (any_of HT_.out (by kernel_rfl)) (fun _ _ _ h => h) (Or.inl ⟨by rfl, ?_⟩) ?_ ?_
          rotate_left
          · intro w'
            go_simp
            with_reducible rfl
          rotate_left
          · simp only [Act.put, List.setIfInBounds_toArray, List.set_cons_zero, List.set_cons_succ, i64_w, i32_w]
            rfl
          refine pure_ (i := 7) (N := some 53) (v := ?_) (a' := ?_) #[true, false, true, true, false, true, false, true, false, false, false, false] rfl rfl (any_of HT_.out (by kernel_rfl)) (fun _ _ _ h => h) (Or.inl ⟨by rfl, ?_⟩) ?_ ?_
          rotate_left
          · intro w'
            go_simp
            with_reducible rfl
          rotate_left
          · simp only [Act.put, List.setIfInBounds_toArray, List.set_cons_zero, List.set_cons_succ, i64_w, i32_w]
            rfl
          refine pure_ (i := 8) (N := some 54) (v := ?_) (a' := ?_) #[true, false, true, true, false, true, false, true, true, false, false, false] rfl rfl (any_of HT_.out (by kernel_rfl)) (fun _ _ _ h => h) (Or.inl ⟨by rfl, ?_⟩) ?_ ?_
          rotate_left
          · intro w'
            go_simp
            with_reducible rfl
          rotate_left
          · simp only [Act.put, List.setIfInBounds_toArray, List.set_cons_zero, List.set_cons_succ, i64_w, i32_w]
            rfl
          refine take_ (i := 1) (N := some 47) (v := ?_) (a' := ?_) #[true, true, true, true, false, true, false, true, true, false, false, false] rfl rfl (take_ofW HT_.out HW_.out (by kernel_rfl)) (fun _ _ _ h => h) (Or.inl ⟨by rfl, ?_⟩) hHeld ?_ ?_
          rotate_left
          · rintro w' ⟨s0, s1, s2, s3, s4, s5, s6, s7, s8, s9, s10, s11, s12⟩
            go_simp
            with_reducible rfl
          rotate_left
          · simp only [Act.put, List.setIfInBounds_toArray, List.set_cons_zero, List.set_cons_succ, i64_w, i32_w]
            rfl
          refine take_ (i := 6) (N := some 52) (v := ?_) (a' := ?_) #[true, true, true, true, false, true, true, true, true, false, false, false] rfl rfl (take_ofW HT_.out HW_.out (by kernel_rfl)) (fun _ _ _ h => h) (Or.inl ⟨by rfl, ?_⟩) hHeld ?_ ?_
          rotate_left
          · rintro w' ⟨s0, s1, s2, s3, s4, s5, s6, s7, s8, s9, s10, s11, s12⟩
            go_simp
            with_reducible rfl
          rotate_left
          · simp only [Act.put, List.setIfInBounds_toArray, List.set_cons_zero, List.set_cons_succ, i64_w, i32_w]
            rfl
          refine one_ (i := 4) (N := some 50) #[true, true, true, true, true, true, true, true, true, false, false, false] rfl rfl (one_of HT_.out (by kernel_rfl)) (by decide) (fun K hK => ?_)
          refine goes_ Try.func14 (by kernel_rfl) rfl #[.pointer (some ⟨g274, 0, none⟩), .agg #[.int .i64 t277, .int .i64 t278, .int .i64 t279, .int .i64 t280, .int .i64 t281, .int .i64 t282, .int .i64 t283, .int .i64 t284, .int .i64 t285, .int .i64 t286, .int .i64 t287, .int .i64 t288, .int .i64 t289], .string a0, .string a1] (by rfl) rfl rfl (by (try simp only [List.map_toArray, List.map_cons, List.map_nil]); first | done | rfl | (simp only [List.length_drop, List.length_take]; rfl)) ?_
          with_reducible refine (schedule_Export.calls g274 t290 t277 t278 t279 t280 t281 t282 t283 t284 t285 t286 t287 t288 t289 a0 a1 t292 t293 w _ ?side1 ?side2 A16.out).mono ?_
          (case side1 => repeat (first | (with_reducible first | exact HI274.out | apply IsS53.alloc | apply IsS53.drewN | apply IsS53.drew | apply IsS53.set_0 | refine IsS53.far ?_ (by repeat (first | (with_reducible first | exact Nsty.of BK291.out rfl | apply Nsty.set | apply Nsty.drewN | apply Nsty.drew | apply Nsty.alloc) | exact Nsty.of BK291.out rfl)) _) | exact HI274.out))
          (case side2 => repeat (first | (with_reducible first | exact HB.out | apply below_alloc | apply pw_below_drewN | apply below_drew1 | refine below_set ?_ (IsS53.ge HI274.out) | refine below_set ?_ GE291.out) | exact HB.out))
          rintro e w27 ⟨rfl, hi, hb, hk⟩
          refine ⟨_, rfl, ?_⟩
          have n0_ := Aside0.mk (KeepSt.blk hk (g' := gb291) (o := .cells #[.int .i64 t277, .int .i64 t278, .int .i64 t279, .int .i64 t280, .int .i64 t281, .int .i64 t282, .int .i64 t283, .int .i64 t284, .int .i64 t285, .int .i64 t286, .int .i64 t287, .int .i64 t288, .int .i64 t289] 31 (0, 0)) (by (with_reducible repeat (first | refine blk_drewN ?_ _ | refine blk_drew ?_ | refine blk_alloc ?_ _)); exact BK291.out) NB291_274.out rfl)
          have n1_ := Aside0.mk (hb)
          have n2_ := Aside0.mk (hi)
          clear BK291
          clear HB
          clear HI274
          have BK291 := n0_
          have HB := n1_
          have HI274 := n2_
          clear n0_ n1_ n2_
          (try clear hb)
          (try clear hb2)
          (try clear hk)
          (try clear hi)
          refine hK.out _ _ ⟨(blk_cell BK291.out 0).trans rfl, (blk_cell BK291.out 1).trans rfl, (blk_cell BK291.out 2).trans rfl, (blk_cell BK291.out 3).trans rfl, (blk_cell BK291.out 4).trans rfl, (blk_cell BK291.out 5).trans rfl, (blk_cell BK291.out 6).trans rfl, (blk_cell BK291.out 7).trans rfl, (blk_cell BK291.out 8).trans rfl, (blk_cell BK291.out 9).trans rfl, (blk_cell BK291.out 10).trans rfl, (blk_cell BK291.out 11).trans rfl, (blk_cell BK291.out 12).trans rfl⟩ (fun hHeld => ?_)
          clear hK K
          refine norm_ (a' := ?_) ?_ ?_
          rotate_left
          · show Act.put _ (some 50) _ = _
            simp only [Act.put, List.setIfInBounds_toArray, List.set_cons_zero, List.set_cons_succ, i64_w, i32_w]
            rfl
          refine one_ (i := 9) (N := some 55) #[true, true, true, true, true, true, true, true, true, true, false, false] rfl rfl (one_of HT_.out (by kernel_rfl)) (by decide) (fun K hK => ?_)
          refine goes_ Try.func14 (by kernel_rfl) rfl #[.pointer (some ⟨g274, 0, none⟩), .agg #[.int .i64 t277, .int .i64 t278, .int .i64 t279, .int .i64 t280, .int .i64 t281, .int .i64 t282, .int .i64 t283, .int .i64 t284, .int .i64 t285, .int .i64 t286, .int .i64 t287, .int .i64 t288, .int .i64 t289], .string a2, .string a3] (by rfl) rfl rfl (by (try simp only [List.map_toArray, List.map_cons, List.map_nil]); first | done | rfl | (simp only [List.length_drop, List.length_take]; rfl)) ?_
          with_reducible refine (schedule_Export.calls g274 t293 t277 t278 t279 t280 t281 t282 t283 t284 t285 t286 t287 t288 t289 a2 a3 t294 t295 w _ ?side1 ?side2 A17.out).mono ?_
          (case side1 => repeat (first | (with_reducible first | exact HI274.out | apply IsS53.alloc | apply IsS53.drewN | apply IsS53.drew | apply IsS53.set_0 | refine IsS53.far ?_ (by repeat (first | (with_reducible first | exact Nsty.of BK291.out rfl | apply Nsty.set | apply Nsty.drewN | apply Nsty.drew | apply Nsty.alloc) | exact Nsty.of BK291.out rfl)) _) | exact HI274.out))
          (case side2 => repeat (first | (with_reducible first | exact HB.out | apply below_alloc | apply pw_below_drewN | apply below_drew1 | refine below_set ?_ (IsS53.ge HI274.out) | refine below_set ?_ GE291.out) | exact HB.out))
          rintro e w28 ⟨rfl, hi, hb, hk⟩
          refine ⟨_, rfl, ?_⟩
          have n0_ := Aside0.mk (KeepSt.blk hk (g' := gb291) (o := .cells #[.int .i64 t277, .int .i64 t278, .int .i64 t279, .int .i64 t280, .int .i64 t281, .int .i64 t282, .int .i64 t283, .int .i64 t284, .int .i64 t285, .int .i64 t286, .int .i64 t287, .int .i64 t288, .int .i64 t289] 31 (0, 0)) (by (with_reducible repeat (first | refine blk_drewN ?_ _ | refine blk_drew ?_ | refine blk_alloc ?_ _)); exact BK291.out) NB291_274.out rfl)
          have n1_ := Aside0.mk (hb)
          have n2_ := Aside0.mk (hi)
          clear BK291
          clear HB
          clear HI274
          have BK291 := n0_
          have HB := n1_
          have HI274 := n2_
          clear n0_ n1_ n2_
          (try clear hb)
          (try clear hb2)
          (try clear hk)
          (try clear hi)
          refine hK.out _ _ ⟨(blk_cell BK291.out 0).trans rfl, (blk_cell BK291.out 1).trans rfl, (blk_cell BK291.out 2).trans rfl, (blk_cell BK291.out 3).trans rfl, (blk_cell BK291.out 4).trans rfl, (blk_cell BK291.out 5).trans rfl, (blk_cell BK291.out 6).trans rfl, (blk_cell BK291.out 7).trans rfl, (blk_cell BK291.out 8).trans rfl, (blk_cell BK291.out 9).trans rfl, (blk_cell BK291.out 10).trans rfl, (blk_cell BK291.out 11).trans rfl, (blk_cell BK291.out 12).trans rfl⟩ (fun hHeld => ?_)
          clear hK K
          refine norm_ (a' := ?_) ?_ ?_
          rotate_left
          · show Act.put _ (some 55) _ = _
            simp only [Act.put, List.setIfInBounds_toArray, List.set_cons_zero, List.set_cons_succ, i64_w, i32_w]
            rfl
          refine pure_ (i := 10) (N := some 12) (v := ?_) (a' := ?_) #[true, true, true, true, true, true, true, true, true, true, true, false] rfl rfl (any_of HT_.out (by kernel_rfl)) (fun _ _ _ h => h) (Or.inl ⟨by rfl, ?_⟩) ?_ ?_
          rotate_left
          · intro w'
            go_simp
            with_reducible rfl
          rotate_left
          · simp only [Act.put, List.setIfInBounds_toArray, List.set_cons_zero, List.set_cons_succ, i64_w, i32_w]
            rfl
          refine pure_ (i := 11) (N := some 13) (v := ?_) (a' := ?_) #[true, true, true, true, true, true, true, true, true, true, true, true] rfl rfl (any_of HT_.out (by kernel_rfl)) (fun _ _ _ h => h) (Or.inl ⟨by rfl, ?_⟩) ?_ ?_
          rotate_left
          · intro w'
            go_simp
            with_reducible rfl
          rotate_left
          · simp only [Act.put, List.setIfInBounds_toArray, List.set_cons_zero, List.set_cons_succ, i64_w, i32_w]
            rfl
          refine done_ (done_of HT_.out (by kernel_rfl)) ?_
          go_upto_region 10 with (fail)
          go_cut [75] (fun v75 wc => ∃ (kq : Nat) (x75_17 : Bool), v75 = .bool x75_17 ∧ Aside0 (conclavelaw07_ScheduleExports.j1 kq t292 t294 x75_17 t277 t278 t279 t280 t281 t282 t283 t284 t285 t286 t287 t288 t289 = some r) ∧ Aside0 (kq ≤ kj6) ∧ Aside0 (wc.heap[gb291]? = some (.cells #[.int .i64 t277, .int .i64 t278, .int .i64 t279, .int .i64 t280, .int .i64 t281, .int .i64 t282, .int .i64 t283, .int .i64 t284, .int .i64 t285, .int .i64 t286, .int .i64 t287, .int .i64 t288, .int .i64 t289] 31 (0, 0))) ∧ Aside0 (Below w.heap.size w wc))
          case first =>
            have H := HC18.out
            clear HC18
            by_cases c29 : t292 = 0
            · rw [if_pos c29] at H
              have c29b0 : (t292 == 0) = true := beq_iff_eq.mpr c29
              have c29b1 : (t292 != 0) = false := bne_eq_false_iff_eq.mpr c29
              clear c29
              (first | rw [c29b0] | (simp only [i64_w, i32_w]; rw [c29b0]) | skip)
              have H' := Aside0.mk H
              clear H
              go_wp2
              go_meet
              case rel => exact ⟨_, (true), (by first | rfl | (simp; done) | (simp [*]; done)), H', ⟨by have := HJ6.out; first | omega | exact Nat.le_refl _⟩, ⟨by (with_reducible repeat (first | refine blk_drewN ?_ _ | refine blk_drew ?_ | refine blk_alloc ?_ _)); exact BK291.out⟩, ⟨by repeat (first | (with_reducible first | exact HB.out | apply below_alloc | apply pw_below_drewN | apply below_drew1 | refine below_set ?_ (IsS53.ge HI274.out) | refine below_set ?_ GE291.out) | exact HB.out)⟩⟩
            · rw [if_neg c29] at H
              have c29b0 : (t292 == 0) = false := beq_eq_false_iff_ne.mpr c29
              have c29b1 : (t292 != 0) = true := bne_iff_ne.mpr c29
              (first | rw [c29b0] | (simp only [i64_w, i32_w]; rw [c29b0]) | skip)
              by_cases c30 : t294 = 0
              · rw [if_pos c30] at H
                have c30b0 : (t294 == 0) = true := beq_iff_eq.mpr c30
                have c30b1 : (t294 != 0) = false := bne_eq_false_iff_eq.mpr c30
                clear c30
                have H' := Aside0.mk H
                clear H
                go_wp2
                go_meet
                case rel => exact ⟨_, (true), (by first | rfl | (simp; done) | (simp [*]; done)), H', ⟨by have := HJ6.out; first | omega | exact Nat.le_refl _⟩, ⟨by (with_reducible repeat (first | refine blk_drewN ?_ _ | refine blk_drew ?_ | refine blk_alloc ?_ _)); exact BK291.out⟩, ⟨by repeat (first | (with_reducible first | exact HB.out | apply below_alloc | apply pw_below_drewN | apply below_drew1 | refine below_set ?_ (IsS53.ge HI274.out) | refine below_set ?_ GE291.out) | exact HB.out)⟩⟩
              · rw [if_neg c30] at H
                have c30b0 : (t294 == 0) = false := beq_eq_false_iff_ne.mpr c30
                have c30b1 : (t294 != 0) = true := bne_iff_ne.mpr c30
                by_cases c31 : a0.toList = a2.toList
                · rw [if_pos c31] at H
                  have c31b0 : (a0.toList == a2.toList) = true := beq_iff_eq.mpr c31
                  have c31b1 : (a0.toList != a2.toList) = false := bne_eq_false_iff_eq.mpr c31
                  clear c31
                  have H' := Aside0.mk H
                  clear H
                  go_wp2
                  go_meet
                  case rel => exact ⟨_, (((t292 == t294) != (a1.toList == a3.toList))), (by first | rfl | (simp; done) | (simp [*]; done)), H', ⟨by have := HJ6.out; first | omega | exact Nat.le_refl _⟩, ⟨by (with_reducible repeat (first | refine blk_drewN ?_ _ | refine blk_drew ?_ | refine blk_alloc ?_ _)); exact BK291.out⟩, ⟨by repeat (first | (with_reducible first | exact HB.out | apply below_alloc | apply pw_below_drewN | apply below_drew1 | refine below_set ?_ (IsS53.ge HI274.out) | refine below_set ?_ GE291.out) | exact HB.out)⟩⟩
                · rw [if_neg c31] at H
                  have c31b0 : (a0.toList == a2.toList) = false := beq_eq_false_iff_ne.mpr c31
                  have c31b1 : (a0.toList != a2.toList) = true := bne_iff_ne.mpr c31
                  have H' := Aside0.mk H
                  clear H
                  go_wp2
                  go_meet
                  case rel => exact ⟨_, (((t292 == t294) != false)), (by first | rfl | (simp; done) | (simp [*]; done)), H', ⟨by have := HJ6.out; first | omega | exact Nat.le_refl _⟩, ⟨by (with_reducible repeat (first | refine blk_drewN ?_ _ | refine blk_drew ?_ | refine blk_alloc ?_ _)); exact BK291.out⟩, ⟨by repeat (first | (with_reducible first | exact HB.out | apply below_alloc | apply pw_below_drewN | apply below_drew1 | refine below_set ?_ (IsS53.ge HI274.out) | refine below_set ?_ GE291.out) | exact HB.out)⟩⟩
          case rest =>
            clear HC18
            try clear c1
            try clear c2
            try clear p2
            try clear c3
            try clear c5
            try clear c6
            try clear c8
            try clear c9
            try clear c9b0
            try clear c9b1
            try clear c10
            try clear c10b0
            try clear c10b1
            try clear c11
            try clear c11b0
            try clear c11b1
            try clear c12
            try clear c13
            try clear c14
            try clear c23
            try clear c29
            try clear c29b0
            try clear c29b1
            try clear c30
            try clear c30b0
            try clear c30b1
            try clear c31
            try clear c31b0
            try clear c31b1
            try clear hcz24_0
            try clear hcz24_1
            try clear hcz24_10
            try clear hcz24_11
            try clear hcz24_12
            try clear hcz24_2
            try clear hcz24_3
            try clear hcz24_4
            try clear hcz24_5
            try clear hcz24_6
            try clear hcz24_7
            try clear hcz24_8
            try clear hcz24_9
            try clear hfz24_0
            try clear hfz24_1
            try clear hfz24_10
            try clear hfz24_11
            try clear hfz24_12
            try clear hfz24_2
            try clear hfz24_3
            try clear hfz24_4
            try clear hfz24_5
            try clear hfz24_6
            try clear hfz24_7
            try clear hfz24_8
            try clear hfz24_9
            try clear p2
            obtain ⟨kq, x75_17, rfl, HA, HJ17, BK291, HB⟩ := hcut
            cases kq with
            | zero => exact absurd HA.out (by simp [conclavelaw07_ScheduleExports.j1])
            | succ kj17 =>
              have H := HA.out
              clear HA
              simp only [conclavelaw07_ScheduleExports.j1] at H
              by_cases c32 : x75_17 = true
              · subst c32
                have H1 : (some false) = some r := by rw [if_pos rfl] at H; exact H
                clear H
                have H := H1
                clear H1
                obtain rfl := Option.some.inj H
                go_wp2
                go_ret
                exact ⟨by first | rfl | (simp [errW_none, errW_some] <;> rfl) | (simp [*, errW_none, errW_some] <;> rfl), by repeat (first | (with_reducible first | exact HB.out | apply below_alloc | apply pw_below_drewN | apply below_drew1 | refine below_set ?_ GE291.out) | exact HB.out)⟩
              · replace c32 := Bool.eq_false_iff.mpr c32
                subst c32
                have H1 : ((conclavelaw07_all.f t277 t278 t279 t280 t281 t282 t283 t284 t285 t286 t287 t288 t289).bind fun t296 => (conclavelaw07_ScheduleExports.l0 kj17 t292 t294 t296 (t296.length : Int) 0)) = some r := by rw [if_neg (show ¬ (false = true) by decide)] at H; exact H
                clear H
                have H := H1
                clear H1
                replace H := Option.bind_eq_some_iff.mp H
                obtain ⟨t296, A330, H⟩ := H
                replace H : (conclavelaw07_ScheduleExports.l0 kj17 t292 t294 t296 (t296.length : Int) 0) = some r := H
                have A33 := Aside0.mk A330
                clear A330
                have H' := Aside0.mk H
                clear H
                have hcz34_0 : wc.cell? ⟨gb291, 0, none⟩ = some (.int .i64 t277) := (blk_cell BK291.out 0).trans rfl
                have hcz34_1 : wc.cell? ⟨gb291, 1, none⟩ = some (.int .i64 t278) := (blk_cell BK291.out 1).trans rfl
                have hcz34_2 : wc.cell? ⟨gb291, 2, none⟩ = some (.int .i64 t279) := (blk_cell BK291.out 2).trans rfl
                have hcz34_3 : wc.cell? ⟨gb291, 3, none⟩ = some (.int .i64 t280) := (blk_cell BK291.out 3).trans rfl
                have hcz34_4 : wc.cell? ⟨gb291, 4, none⟩ = some (.int .i64 t281) := (blk_cell BK291.out 4).trans rfl
                have hcz34_5 : wc.cell? ⟨gb291, 5, none⟩ = some (.int .i64 t282) := (blk_cell BK291.out 5).trans rfl
                have hcz34_6 : wc.cell? ⟨gb291, 6, none⟩ = some (.int .i64 t283) := (blk_cell BK291.out 6).trans rfl
                have hcz34_7 : wc.cell? ⟨gb291, 7, none⟩ = some (.int .i64 t284) := (blk_cell BK291.out 7).trans rfl
                have hcz34_8 : wc.cell? ⟨gb291, 8, none⟩ = some (.int .i64 t285) := (blk_cell BK291.out 8).trans rfl
                have hcz34_9 : wc.cell? ⟨gb291, 9, none⟩ = some (.int .i64 t286) := (blk_cell BK291.out 9).trans rfl
                have hcz34_10 : wc.cell? ⟨gb291, 10, none⟩ = some (.int .i64 t287) := (blk_cell BK291.out 10).trans rfl
                have hcz34_11 : wc.cell? ⟨gb291, 11, none⟩ = some (.int .i64 t288) := (blk_cell BK291.out 11).trans rfl
                have hcz34_12 : wc.cell? ⟨gb291, 12, none⟩ = some (.int .i64 t289) := (blk_cell BK291.out 12).trans rfl
                have hfz34_0 := blk_frozen BK291.out 0
                have hfz34_1 := blk_frozen BK291.out 1
                have hfz34_2 := blk_frozen BK291.out 2
                have hfz34_3 := blk_frozen BK291.out 3
                have hfz34_4 := blk_frozen BK291.out 4
                have hfz34_5 := blk_frozen BK291.out 5
                have hfz34_6 := blk_frozen BK291.out 6
                have hfz34_7 := blk_frozen BK291.out 7
                have hfz34_8 := blk_frozen BK291.out 8
                have hfz34_9 := blk_frozen BK291.out 9
                have hfz34_10 := blk_frozen BK291.out 10
                have hfz34_11 := blk_frozen BK291.out 11
                have hfz34_12 := blk_frozen BK291.out 12
                go_wp2_with (first | ((with_reducible refine gate_callee (f := 9) rfl ?_); refine goesL_ (some 77) rfl rfl Try.func9 (by kernel_rfl) rfl #[.agg #[.int .i64 t277, .int .i64 t278, .int .i64 t279, .int .i64 t280, .int .i64 t281, .int .i64 t282, .int .i64 t283, .int .i64 t284, .int .i64 t285, .int .i64 t286, .int .i64 t287, .int .i64 t288, .int .i64 t289]] rfl (by (try simp only [List.map_toArray, List.map_cons, List.map_nil]); first | done | rfl | (simp only [List.length_drop, List.length_take]; rfl)) ?_; (with_reducible refine (conclavelaw07_all.calls t277 t278 t279 t280 t281 t282 t283 t284 t285 t286 t287 t288 t289 t296 _ A33.out).mono ?_); rintro e w35 ⟨v297, rfl, ho0, hb⟩; refine ⟨_, rfl, ?_⟩; have n0_ := Aside0.mk (Kd.R_lower ho0 (below_size (by repeat (first | (with_reducible first | exact HB.out | apply below_alloc | apply pw_below_drewN | apply below_drew1 | refine below_set ?_ GE291.out) | exact HB.out)))); have n1_ := Aside0.mk (blk_below (g := gb291) (o := .cells #[.int .i64 t277, .int .i64 t278, .int .i64 t279, .int .i64 t280, .int .i64 t281, .int .i64 t282, .int .i64 t283, .int .i64 t284, .int .i64 t285, .int .i64 t286, .int .i64 t287, .int .i64 t288, .int .i64 t289] 31 (0, 0)) (by (with_reducible repeat (first | refine blk_drewN ?_ _ | refine blk_drew ?_ | refine blk_alloc ?_ _)); exact BK291.out) hb); have n2_ := Aside0.mk (below_step (by repeat (first | (with_reducible first | exact HB.out | apply below_alloc | apply pw_below_drewN | apply below_drew1 | refine below_set ?_ GE291.out) | exact HB.out)) hb); clear BK291; clear HB; have HO298 := n0_; have BK291 := n1_; have HB := n2_; clear n0_ n1_ n2_; (try clear hb); (try clear hb2); (try clear hk); (try clear hi); (try clear ho0); obtain ⟨Ao36, co36, eo36⟩ := Kd.R_slice HO298.out; subst eo36))
                go_loopg [79] kj17 (fun kq v79 w' => ∃ (x79_3 : Int), v79 = .int .i64 x79_3 ∧ Aside0 (conclavelaw07_ScheduleExports.l0 kq t292 t294 t296 (t296.length : Int) x79_3 = some r) ∧ Aside0 (kq ≤ kj17) ∧ Aside0 (Kd.R (Kd.int .i64) 3 w' w.heap.size (fun _ => True) (.slice Ao36 t296.length co36) t296) ∧ Aside0 (w'.heap[gb291]? = some (.cells #[.int .i64 t277, .int .i64 t278, .int .i64 t279, .int .i64 t280, .int .i64 t281, .int .i64 t282, .int .i64 t283, .int .i64 t284, .int .i64 t285, .int .i64 t286, .int .i64 t287, .int .i64 t288, .int .i64 t289] 31 (0, 0))) ∧ Aside0 (Below w.heap.size w w'))
                case atStart => exact ⟨(0), (by first | rfl | (simp; done) | (simp [*]; done)), H', ⟨Nat.le_refl _⟩, ⟨by (with_reducible repeat (first | apply Kd.R_alloc | apply Kd.R_drewN | apply Kd.R_drew)); exact HO298.out⟩, ⟨by (with_reducible repeat (first | refine blk_drewN ?_ _ | refine blk_drew ?_ | refine blk_alloc ?_ _)); exact BK291.out⟩, ⟨by repeat (first | (with_reducible first | exact HB.out | apply below_alloc | apply pw_below_drewN | apply below_drew1 | refine below_set ?_ GE291.out) | exact HB.out)⟩⟩
                case round =>
                  clear H'
                  try clear c1
                  try clear c2
                  try clear p2
                  try clear c3
                  try clear c5
                  try clear c6
                  try clear c8
                  try clear c9
                  try clear c9b0
                  try clear c9b1
                  try clear c10
                  try clear c10b0
                  try clear c10b1
                  try clear c11
                  try clear c11b0
                  try clear c11b1
                  try clear c12
                  try clear c13
                  try clear c14
                  try clear c23
                  try clear c29
                  try clear c29b0
                  try clear c29b1
                  try clear c30
                  try clear c30b0
                  try clear c30b1
                  try clear c31
                  try clear c31b0
                  try clear c31b1
                  try clear c32
                  try clear hcz24_0
                  try clear hcz24_1
                  try clear hcz24_10
                  try clear hcz24_11
                  try clear hcz24_12
                  try clear hcz24_2
                  try clear hcz24_3
                  try clear hcz24_4
                  try clear hcz24_5
                  try clear hcz24_6
                  try clear hcz24_7
                  try clear hcz24_8
                  try clear hcz24_9
                  try clear hcz34_0
                  try clear hcz34_1
                  try clear hcz34_10
                  try clear hcz34_11
                  try clear hcz34_12
                  try clear hcz34_2
                  try clear hcz34_3
                  try clear hcz34_4
                  try clear hcz34_5
                  try clear hcz34_6
                  try clear hcz34_7
                  try clear hcz34_8
                  try clear hcz34_9
                  try clear hfz24_0
                  try clear hfz24_1
                  try clear hfz24_10
                  try clear hfz24_11
                  try clear hfz24_12
                  try clear hfz24_2
                  try clear hfz24_3
                  try clear hfz24_4
                  try clear hfz24_5
                  try clear hfz24_6
                  try clear hfz24_7
                  try clear hfz24_8
                  try clear hfz24_9
                  try clear hfz34_0
                  try clear hfz34_1
                  try clear hfz34_10
                  try clear hfz34_11
                  try clear hfz34_12
                  try clear hfz34_2
                  try clear hfz34_3
                  try clear hfz34_4
                  try clear hfz34_5
                  try clear hfz34_6
                  try clear hfz34_7
                  try clear hfz34_8
                  try clear hfz34_9
                  try clear p2
                  obtain ⟨x79_3, rfl, HA, HK3, HO_77, BK291, HB⟩ := hrel
                  cases gk with
                  | zero => exact absurd HA.out (by simp [conclavelaw07_ScheduleExports.l0])
                  | succ k3 =>
                    have H := HA.out
                    clear HA
                    simp only [conclavelaw07_ScheduleExports.l0] at H
                    by_cases c37 : x79_3 < (t296.length : Int)
                    · rw [if_pos c37] at H
                      have c37b0 : decide (x79_3 < (t296.length : Int)) = true := decide_eq_true c37
                      clear c37
                      by_cases c38 : 0 ≤ x79_3
                      · rw [if_pos c38] at H
                        have c38b0 : decide (0 ≤ x79_3) = true := decide_eq_true c38
                        clear c38
                        by_cases c39 : x79_3 < (t296.length : Int)
                        · rw [if_pos c39] at H
                          have c39b0 : decide (x79_3 < (t296.length : Int)) = true := decide_eq_true c39
                          clear c39
                          by_cases c40 : (rd t296 x79_3) = t292
                          · rw [if_pos c40] at H
                            have c40b0 : ((rd t296 x79_3) == t292) = true := beq_iff_eq.mpr c40
                            have c40b1 : ((rd t296 x79_3) != t292) = false := bne_eq_false_iff_eq.mpr c40
                            clear c40
                            obtain rfl := Option.some.inj H
                            have p299 : 0 ≤ (x79_3 : Int) := of_decide_eq_true (by first | (with_reducible assumption) | assumption)
                            have q299 : x79_3 < (t296.length : Int) := of_decide_eq_true (by first | (with_reducible assumption) | assumption)
                            obtain ⟨ad299, e299, hx299_0⟩ := Kd.at_int (Kd.R_reads' HO_77.out).2.2 x79_3 p299 q299
                            cases e299
                            replace p299 := eq_true p299
                            replace q299 := eq_true q299
                            go_wp2
                            go_ret
                            exact ⟨by first | rfl | (simp [errW_none, errW_some] <;> rfl) | (simp [*, errW_none, errW_some] <;> rfl), by repeat (first | (with_reducible first | exact HB.out | apply below_alloc | apply pw_below_drewN | apply below_drew1 | refine below_set ?_ GE291.out) | exact HB.out)⟩
                          · rw [if_neg c40] at H
                            have c40b0 : ((rd t296 x79_3) == t292) = false := beq_eq_false_iff_ne.mpr c40
                            have c40b1 : ((rd t296 x79_3) != t292) = true := bne_iff_ne.mpr c40
                            by_cases c41 : (rd t296 x79_3) = t294
                            · rw [if_pos c41] at H
                              have c41b0 : ((rd t296 x79_3) == t294) = true := beq_iff_eq.mpr c41
                              have c41b1 : ((rd t296 x79_3) != t294) = false := bne_eq_false_iff_eq.mpr c41
                              clear c41
                              obtain rfl := Option.some.inj H
                              have p299 : 0 ≤ (x79_3 : Int) := of_decide_eq_true (by first | (with_reducible assumption) | assumption)
                              have q299 : x79_3 < (t296.length : Int) := of_decide_eq_true (by first | (with_reducible assumption) | assumption)
                              obtain ⟨ad299, e299, hx299_0⟩ := Kd.at_int (Kd.R_reads' HO_77.out).2.2 x79_3 p299 q299
                              cases e299
                              replace p299 := eq_true p299
                              replace q299 := eq_true q299
                              go_wp2
                              go_ret
                              exact ⟨by first | rfl | (simp [errW_none, errW_some] <;> rfl) | (simp [*, errW_none, errW_some] <;> rfl), by repeat (first | (with_reducible first | exact HB.out | apply below_alloc | apply pw_below_drewN | apply below_drew1 | refine below_set ?_ GE291.out) | exact HB.out)⟩
                            · rw [if_neg c41] at H
                              have c41b0 : ((rd t296 x79_3) == t294) = false := beq_eq_false_iff_ne.mpr c41
                              have c41b1 : ((rd t296 x79_3) != t294) = true := bne_iff_ne.mpr c41
                              have H' := Aside0.mk H
                              clear H
                              have p299 : 0 ≤ (x79_3 : Int) := of_decide_eq_true (by first | (with_reducible assumption) | assumption)
                              have q299 : x79_3 < (t296.length : Int) := of_decide_eq_true (by first | (with_reducible assumption) | assumption)
                              obtain ⟨ad299, e299, hx299_0⟩ := Kd.at_int (Kd.R_reads' HO_77.out).2.2 x79_3 p299 q299
                              cases e299
                              replace p299 := eq_true p299
                              replace q299 := eq_true q299
                              go_wp2
                              go_roundg k3
                              case measure => have := HJ6.out; have := HJ17.out; have := HK3.out; omega
                              case rel => exact ⟨(wrap64 (x79_3 + 1)), (by first | rfl | (simp; done) | (simp [*]; done)), H', ⟨by have := HJ6.out; have := HJ17.out; have := HK3.out; omega⟩, ⟨by (with_reducible repeat (first | apply Kd.R_alloc | apply Kd.R_drewN | apply Kd.R_drew)); exact HO_77.out⟩, ⟨by (with_reducible repeat (first | refine blk_drewN ?_ _ | refine blk_drew ?_ | refine blk_alloc ?_ _)); exact BK291.out⟩, ⟨by repeat (first | (with_reducible first | exact HB.out | apply below_alloc | apply pw_below_drewN | apply below_drew1 | refine below_set ?_ GE291.out) | exact HB.out)⟩⟩
                        · rw [if_neg c39] at H
                          exact absurd H (by simp)
                      · rw [if_neg c38] at H
                        exact absurd H (by simp)
                    · rw [if_neg c37] at H
                      have c37b0 : decide (x79_3 < (t296.length : Int)) = false := decide_eq_false c37
                      clear c37
                      obtain rfl := Option.some.inj H
                      go_wp2
                      go_ret
                      exact ⟨by first | rfl | (simp [errW_none, errW_some] <;> rfl) | (simp [*, errW_none, errW_some] <;> rfl), by repeat (first | (with_reducible first | exact HB.out | apply below_alloc | apply pw_below_drewN | apply below_drew1 | refine below_set ?_ GE291.out) | exact HB.out)⟩
  · replace c6 := Bool.eq_false_iff.mpr c6
    subst c6
    have H1 : (some false) = some r := by rw [if_neg (show ¬ (false = true) by decide)] at H; exact H
    clear H
    have H := H1
    clear H1
    obtain rfl := Option.some.inj H
    go_enter Try.func5, Try.ntmps5
    go_wp2_with (first | ((with_reducible refine gate_callee (f := 6) rfl ?_); refine goesL_ (some 16) rfl rfl Try.func6 (by kernel_rfl) rfl #[] rfl (by (try simp only [List.map_toArray, List.map_cons, List.map_nil]); first | done | rfl | (simp only [List.length_drop, List.length_take]; rfl)) ?_; (with_reducible refine (conclavelaw07_anchor.calls k  false _ A5.out).mono ?_); rintro e w42 ⟨rfl, hb⟩; refine ⟨_, rfl, ?_⟩; have n0_ := Aside0.mk (below_step (by repeat (first | (with_reducible first | exact HB.out | apply below_alloc | apply pw_below_drewN | apply below_drew1) | exact HB.out)) hb); clear HB; have HB := n0_; clear n0_; (try clear hb); (try clear hb2); (try clear hk); (try clear hi)))
    go_ret
    exact ⟨by first | rfl | (simp [errW_none, errW_some] <;> rfl) | (simp [*, errW_none, errW_some] <;> rfl), by repeat (first | (with_reducible first | exact HB.out | apply below_alloc | apply pw_below_drewN | apply below_drew1) | exact HB.out)⟩

/-- THE ONE PURE STATEMENT of conclavelaw07_ScheduleExports: yours. -/
def conclavelaw07_ScheduleExports.Pure : Prop := ∀ (a0 : ByteArray) (a1 : ByteArray) (a2 : ByteArray) (a3 : ByteArray), a0.size ≤ 140737488351232 → a1.size ≤ 140737488351232 → a2.size ≤ 140737488351232 → a3.size ≤ 140737488351232 → ∃ k, conclavelaw07_ScheduleExports.f k a0 a1 a2 a3 = some true
theorem conclavelaw07_ScheduleExports.walk (P : conclavelaw07_ScheduleExports.Pure) (a0 : ByteArray) (a1 : ByteArray) (a2 : ByteArray) (a3 : ByteArray) (w : World) (w0 : a0.size ≤ 140737488351232) (w1 : a1.size ≤ 140737488351232) (w2 : a2.size ≤ 140737488351232) (w3 : a3.size ≤ 140737488351232) :
    Calls Try.prog 5 #[.string a0, .string a1, .string a2, .string a3] w fun e w' => e = .returned (.bool true) ∧ Below w.heap.size w w' := by
  obtain ⟨k, h⟩ := P a0 a1 a2 a3 w0 w1 w2 w3
  refine (conclavelaw07_ScheduleExports.calls k a0 a1 a2 a3 true w h).mono ?_
  rintro e w' ⟨rfl, hd⟩
  exact ⟨rfl, hd⟩

end Go.Proofs.Yteoamlnnaabomaa.PSc
