-- Written by a program of this session over the translation.
import Derived.Test.YtmioejkhhcjfpaaDoorPHex0
import Derived.Test.YtmioejkhhcjfpaaDoorPHex1
import Derived.Test.YtmioejkhhcjfpaaDoorPHex2
import Derived.Test.YtmioejkhhcjfpaaDoorPHex3
namespace Go.Proofs.YtmioejkhhcjfpaaDoor.PHe
open Go.RowKit Go.Proofs.YtmioejkhhcjfpaaDoorW.PrintWords Go.Proofs.YtmioejkhhcjfpaaDoorW.PrintLast Go.Proofs.YtmioejkhhcjfpaaDoorW.PrintMore
attribute [local go_sem] max2_int min2_int max_two min_two max_three min_three max_four min_four   -- for this text's walks alone
set_option linter.unusedVariables false
set_option linter.unusedSimpArgs false

/-! ### heap_Children: function 20 -/
def heap_Children.f (a0 : Int) (a1 : Int) : Option (Int × Int × Int) := (heap_Level.f a0).bind fun t151 => ((heap_in.f a0 a1).bind fun t152 => (if t152 = true then (if t151 = 0 then (some (0, 0, 30)) else (if 0 ≤ (wrap64 (t151 - 1)) then (some (wrap64 (a0 - (shl .i64 1 (wrap64 (t151 - 1)))), wrap64 (a0 + (shl .i64 1 (wrap64 (t151 - 1)))), 0)) else (none))) else (some (0, 0, 30))))
set_option maxHeartbeats 8000000 in
set_option maxRecDepth 100000 in
theorem heap_Children.calls (a0 : Int) (a1 : Int) (r1 : Int) (r2 : Int) (r3 : Int) (w : World) (hrG : TabG w) (h : heap_Children.f a0 a1 = some (r1, r2, r3)) :
    Calls Tryd.prog 20 #[.int .i64 a0, .int .i64 a1] w fun e w' => e = .returned (.tuple #[.int .i64 r1, .int .i64 r2, .int .i64 r3]) ∧ Drawn0 w w' := by
  have HRG := Aside0.mk hrG
  clear hrG
  have H : ((heap_Level.f a0).bind fun t151 => ((heap_in.f a0 a1).bind fun t152 => (if t152 = true then (if t151 = 0 then (some (0, 0, 30)) else (if 0 ≤ (wrap64 (t151 - 1)) then (some (wrap64 (a0 - (shl .i64 1 (wrap64 (t151 - 1)))), wrap64 (a0 + (shl .i64 1 (wrap64 (t151 - 1)))), 0)) else (none))) else (some (0, 0, 30))))) = some (r1, r2, r3) := h
  clear h
  replace H := Option.bind_eq_some_iff.mp H
  obtain ⟨t151, A30, H⟩ := H
  replace H : ((heap_in.f a0 a1).bind fun t152 => (if t152 = true then (if t151 = 0 then (some (0, 0, 30)) else (if 0 ≤ (wrap64 (t151 - 1)) then (some (wrap64 (a0 - (shl .i64 1 (wrap64 (t151 - 1)))), wrap64 (a0 + (shl .i64 1 (wrap64 (t151 - 1)))), 0)) else (none))) else (some (0, 0, 30)))) = some (r1, r2, r3) := H
  have A3 := Aside0.mk A30
  clear A30
  replace H := Option.bind_eq_some_iff.mp H
  obtain ⟨t152, A40, H⟩ := H
  replace H : (if t152 = true then (if t151 = 0 then (some (0, 0, 30)) else (if 0 ≤ (wrap64 (t151 - 1)) then (some (wrap64 (a0 - (shl .i64 1 (wrap64 (t151 - 1)))), wrap64 (a0 + (shl .i64 1 (wrap64 (t151 - 1)))), 0)) else (none))) else (some (0, 0, 30))) = some (r1, r2, r3) := H
  have A4 := Aside0.mk A40
  clear A40
  by_cases c5 : t152 = true
  · subst c5
    have H1 : (if t151 = 0 then (some (0, 0, 30)) else (if 0 ≤ (wrap64 (t151 - 1)) then (some (wrap64 (a0 - (shl .i64 1 (wrap64 (t151 - 1)))), wrap64 (a0 + (shl .i64 1 (wrap64 (t151 - 1)))), 0)) else (none))) = some (r1, r2, r3) := by rw [if_pos rfl] at H; exact H
    clear H
    have H := H1
    clear H1
    by_cases c6 : t151 = 0
    · rw [if_pos c6] at H
      have c6b0 : (t151 == 0) = true := beq_iff_eq.mpr c6
      have c6b1 : (t151 != 0) = false := bne_eq_false_iff_eq.mpr c6
      clear c6
      simp only [Option.some.injEq, Prod.mk.injEq] at H
      obtain ⟨rfl, rfl, rfl⟩ := H
      go_enter Tryd.func20, Tryd.ntmps20
      go_wp2_with (first | (go_at_call 13; (with_reducible refine (heap_Level.calls (hrG := ?sideG) a0 t151 _ A3.out).mono ?_); (case sideG => (first | exact HRG.out | exact TabG.below HRG.out (by repeat (first | (with_reducible first | exact HB.out | apply below_alloc | apply pw_below_drewN | apply below_drew1) | exact HB.out | exact Below.refl _ _)))); rintro e w' ⟨rfl, ⟨nd, rfl⟩⟩; (try first | exact ⟨rfl, _, World.drewN_drewN _ _ _⟩ | exact ⟨rfl, _, Eq.trans (World.drewN_drewN _ _ _) (congrArg (World.drewN _) (Nat.add_assoc _ _ _))⟩)) | (go_at_call 30; (with_reducible refine (heap_in.calls a0 a1 true _ A4.out).mono ?_); rintro e w' ⟨rfl, ⟨nd, rfl⟩⟩; (try first | exact ⟨rfl, _, World.drewN_drewN _ _ _⟩ | exact ⟨rfl, _, Eq.trans (World.drewN_drewN _ _ _) (congrArg (World.drewN _) (Nat.add_assoc _ _ _))⟩)))
      repeat (go_quiet (first | (go_at_call 13; (with_reducible refine (heap_Level.calls (hrG := ?sideG) a0 t151 _ A3.out).mono ?_); (case sideG => (first | exact HRG.out | exact TabG.below HRG.out (by repeat (first | (with_reducible first | exact HB.out | apply below_alloc | apply pw_below_drewN | apply below_drew1) | exact HB.out | exact Below.refl _ _)))); rintro e w' ⟨rfl, ⟨nd, rfl⟩⟩; (try first | exact ⟨rfl, _, World.drewN_drewN _ _ _⟩ | exact ⟨rfl, _, Eq.trans (World.drewN_drewN _ _ _) (congrArg (World.drewN _) (Nat.add_assoc _ _ _))⟩)) | (go_at_call 30; (with_reducible refine (heap_in.calls a0 a1 true _ A4.out).mono ?_); rintro e w' ⟨rfl, ⟨nd, rfl⟩⟩; (try first | exact ⟨rfl, _, World.drewN_drewN _ _ _⟩ | exact ⟨rfl, _, Eq.trans (World.drewN_drewN _ _ _) (congrArg (World.drewN _) (Nat.add_assoc _ _ _))⟩))); try go_wp2_with (first | (go_at_call 13; (with_reducible refine (heap_Level.calls (hrG := ?sideG) a0 t151 _ A3.out).mono ?_); (case sideG => (first | exact HRG.out | exact TabG.below HRG.out (by repeat (first | (with_reducible first | exact HB.out | apply below_alloc | apply pw_below_drewN | apply below_drew1) | exact HB.out | exact Below.refl _ _)))); rintro e w' ⟨rfl, ⟨nd, rfl⟩⟩; (try first | exact ⟨rfl, _, World.drewN_drewN _ _ _⟩ | exact ⟨rfl, _, Eq.trans (World.drewN_drewN _ _ _) (congrArg (World.drewN _) (Nat.add_assoc _ _ _))⟩)) | (go_at_call 30; (with_reducible refine (heap_in.calls a0 a1 true _ A4.out).mono ?_); rintro e w' ⟨rfl, ⟨nd, rfl⟩⟩; (try first | exact ⟨rfl, _, World.drewN_drewN _ _ _⟩ | exact ⟨rfl, _, Eq.trans (World.drewN_drewN _ _ _) (congrArg (World.drewN _) (Nat.add_assoc _ _ _))⟩))))
      go_ret3
      exact ⟨by first | rfl | (simp; done) | (simp [*]; done), by repeat (first | exact Drawn0.refl _ | apply Drawn0.step)⟩
    · rw [if_neg c6] at H
      have c6b0 : (t151 == 0) = false := beq_eq_false_iff_ne.mpr c6
      have c6b1 : (t151 != 0) = true := bne_iff_ne.mpr c6
      obtain ⟨ji7, hji7⟩ : ∃ j_ : Int, (wrap64 (t151 - 1)) = j_ := ⟨_, rfl⟩
      replace H : (if 0 ≤ (ji7) then (some (wrap64 (a0 - (shl .i64 1 (ji7))), wrap64 (a0 + (shl .i64 1 (ji7))), 0)) else (none)) = some (r1, r2, r3) := by first | (rw [hji7] at H; exact H) | (simp only [hji7] at H ⊢; exact H)
      (try rw [hji7] at A3)
      (try rw [hji7] at A4)
      have hji7w : (IntKind.i64.wrap (t151 - 1)) = ji7 := (i64_w _).trans hji7
      by_cases c8 : 0 ≤ (ji7)
      · rw [if_pos c8] at H
        have c8b0 := eq_true c8
        have c8b1 : decide (0 ≤ (ji7)) = true := decide_eq_true c8
        clear c8
        obtain ⟨ji9, hji9⟩ : ∃ j_ : Int, (shl .i64 1 (ji7)) = j_ := ⟨_, rfl⟩
        replace H : (some (wrap64 (a0 - (ji9)), wrap64 (a0 + (ji9)), 0)) = some (r1, r2, r3) := by first | (rw [hji9] at H; exact H) | (simp only [hji9] at H ⊢; exact H)
        (try rw [hji9] at A3)
        (try rw [hji9] at A4)
        have hji9_ : (IntKind.i64.wrap (1 * 2 ^ min (ji7).toNat 64)) = ji9 := hji9
        have hji9z : (ji7) ≤ 64 → (IntKind.i64.wrap (1 * 2 ^ (ji7).toNat)) = ji9 := shl_small hji9
        have hji9u : (IntKind.i64.wrap (2 ^ min (ji7).toNat 64)) = ji9 := by have h_ := hji9_; rw [Int.one_mul] at h_; exact h_
        have hji9v : (ji7) ≤ 64 → (IntKind.i64.wrap (2 ^ (ji7).toNat)) = ji9 := fun hle_ => by have h_ := hji9z hle_; rw [Int.one_mul] at h_; exact h_
        have hji9y : (wrap64 (1 * 2 ^ min (ji7).toNat 64)) = ji9 := (i64_w _).symm.trans hji9_
        have hji9x : (ji7) ≤ 64 → (wrap64 (1 * 2 ^ (ji7).toNat)) = ji9 := fun h_ => (i64_w _).symm.trans (hji9z h_)
        have c10b0 := eq_true (of_decide_eq_true (by first | (with_reducible assumption) | assumption) : 0 ≤ (ji7))
        simp only [Option.some.injEq, Prod.mk.injEq] at H
        obtain ⟨rfl, rfl, rfl⟩ := H
        go_enter Tryd.func20, Tryd.ntmps20
        go_wp2_with (first | (go_at_call 13; (with_reducible refine (heap_Level.calls (hrG := ?sideG) a0 t151 _ A3.out).mono ?_); (case sideG => (first | exact HRG.out | exact TabG.below HRG.out (by repeat (first | (with_reducible first | exact HB.out | apply below_alloc | apply pw_below_drewN | apply below_drew1) | exact HB.out | exact Below.refl _ _)))); rintro e w' ⟨rfl, ⟨nd, rfl⟩⟩; (try first | exact ⟨rfl, _, World.drewN_drewN _ _ _⟩ | exact ⟨rfl, _, Eq.trans (World.drewN_drewN _ _ _) (congrArg (World.drewN _) (Nat.add_assoc _ _ _))⟩)) | (go_at_call 30; (with_reducible refine (heap_in.calls a0 a1 true _ A4.out).mono ?_); rintro e w' ⟨rfl, ⟨nd, rfl⟩⟩; (try first | exact ⟨rfl, _, World.drewN_drewN _ _ _⟩ | exact ⟨rfl, _, Eq.trans (World.drewN_drewN _ _ _) (congrArg (World.drewN _) (Nat.add_assoc _ _ _))⟩)))
        repeat (go_quiet (first | (go_at_call 13; (with_reducible refine (heap_Level.calls (hrG := ?sideG) a0 t151 _ A3.out).mono ?_); (case sideG => (first | exact HRG.out | exact TabG.below HRG.out (by repeat (first | (with_reducible first | exact HB.out | apply below_alloc | apply pw_below_drewN | apply below_drew1) | exact HB.out | exact Below.refl _ _)))); rintro e w' ⟨rfl, ⟨nd, rfl⟩⟩; (try first | exact ⟨rfl, _, World.drewN_drewN _ _ _⟩ | exact ⟨rfl, _, Eq.trans (World.drewN_drewN _ _ _) (congrArg (World.drewN _) (Nat.add_assoc _ _ _))⟩)) | (go_at_call 30; (with_reducible refine (heap_in.calls a0 a1 true _ A4.out).mono ?_); rintro e w' ⟨rfl, ⟨nd, rfl⟩⟩; (try first | exact ⟨rfl, _, World.drewN_drewN _ _ _⟩ | exact ⟨rfl, _, Eq.trans (World.drewN_drewN _ _ _) (congrArg (World.drewN _) (Nat.add_assoc _ _ _))⟩))); try go_wp2_with (first | (go_at_call 13; (with_reducible refine (heap_Level.calls (hrG := ?sideG) a0 t151 _ A3.out).mono ?_); (case sideG => (first | exact HRG.out | exact TabG.below HRG.out (by repeat (first | (with_reducible first | exact HB.out | apply below_alloc | apply pw_below_drewN | apply below_drew1) | exact HB.out | exact Below.refl _ _)))); rintro e w' ⟨rfl, ⟨nd, rfl⟩⟩; (try first | exact ⟨rfl, _, World.drewN_drewN _ _ _⟩ | exact ⟨rfl, _, Eq.trans (World.drewN_drewN _ _ _) (congrArg (World.drewN _) (Nat.add_assoc _ _ _))⟩)) | (go_at_call 30; (with_reducible refine (heap_in.calls a0 a1 true _ A4.out).mono ?_); rintro e w' ⟨rfl, ⟨nd, rfl⟩⟩; (try first | exact ⟨rfl, _, World.drewN_drewN _ _ _⟩ | exact ⟨rfl, _, Eq.trans (World.drewN_drewN _ _ _) (congrArg (World.drewN _) (Nat.add_assoc _ _ _))⟩))))
        go_ret3
        exact ⟨by first | rfl | (simp; done) | (simp only [← hji7, ← hji9] <;> (first | rfl | simp)) | (simp [*]; done), by repeat (first | exact Drawn0.refl _ | apply Drawn0.step)⟩
      · rw [if_neg c8] at H
        exact absurd H (by simp)
  · replace c5 := Bool.eq_false_iff.mpr c5
    subst c5
    have H1 : (some (0, 0, 30)) = some (r1, r2, r3) := by rw [if_neg (show ¬ (false = true) by decide)] at H; exact H
    clear H
    have H := H1
    clear H1
    simp only [Option.some.injEq, Prod.mk.injEq] at H
    obtain ⟨rfl, rfl, rfl⟩ := H
    go_enter Tryd.func20, Tryd.ntmps20
    go_wp2_with (first | (go_at_call 13; (with_reducible refine (heap_Level.calls (hrG := ?sideG) a0 t151 _ A3.out).mono ?_); (case sideG => (first | exact HRG.out | exact TabG.below HRG.out (by repeat (first | (with_reducible first | exact HB.out | apply below_alloc | apply pw_below_drewN | apply below_drew1) | exact HB.out | exact Below.refl _ _)))); rintro e w' ⟨rfl, ⟨nd, rfl⟩⟩; (try first | exact ⟨rfl, _, World.drewN_drewN _ _ _⟩ | exact ⟨rfl, _, Eq.trans (World.drewN_drewN _ _ _) (congrArg (World.drewN _) (Nat.add_assoc _ _ _))⟩)) | (go_at_call 30; (with_reducible refine (heap_in.calls a0 a1 false _ A4.out).mono ?_); rintro e w' ⟨rfl, ⟨nd, rfl⟩⟩; (try first | exact ⟨rfl, _, World.drewN_drewN _ _ _⟩ | exact ⟨rfl, _, Eq.trans (World.drewN_drewN _ _ _) (congrArg (World.drewN _) (Nat.add_assoc _ _ _))⟩)))
    repeat (go_quiet (first | (go_at_call 13; (with_reducible refine (heap_Level.calls (hrG := ?sideG) a0 t151 _ A3.out).mono ?_); (case sideG => (first | exact HRG.out | exact TabG.below HRG.out (by repeat (first | (with_reducible first | exact HB.out | apply below_alloc | apply pw_below_drewN | apply below_drew1) | exact HB.out | exact Below.refl _ _)))); rintro e w' ⟨rfl, ⟨nd, rfl⟩⟩; (try first | exact ⟨rfl, _, World.drewN_drewN _ _ _⟩ | exact ⟨rfl, _, Eq.trans (World.drewN_drewN _ _ _) (congrArg (World.drewN _) (Nat.add_assoc _ _ _))⟩)) | (go_at_call 30; (with_reducible refine (heap_in.calls a0 a1 false _ A4.out).mono ?_); rintro e w' ⟨rfl, ⟨nd, rfl⟩⟩; (try first | exact ⟨rfl, _, World.drewN_drewN _ _ _⟩ | exact ⟨rfl, _, Eq.trans (World.drewN_drewN _ _ _) (congrArg (World.drewN _) (Nat.add_assoc _ _ _))⟩))); try go_wp2_with (first | (go_at_call 13; (with_reducible refine (heap_Level.calls (hrG := ?sideG) a0 t151 _ A3.out).mono ?_); (case sideG => (first | exact HRG.out | exact TabG.below HRG.out (by repeat (first | (with_reducible first | exact HB.out | apply below_alloc | apply pw_below_drewN | apply below_drew1) | exact HB.out | exact Below.refl _ _)))); rintro e w' ⟨rfl, ⟨nd, rfl⟩⟩; (try first | exact ⟨rfl, _, World.drewN_drewN _ _ _⟩ | exact ⟨rfl, _, Eq.trans (World.drewN_drewN _ _ _) (congrArg (World.drewN _) (Nat.add_assoc _ _ _))⟩)) | (go_at_call 30; (with_reducible refine (heap_in.calls a0 a1 false _ A4.out).mono ?_); rintro e w' ⟨rfl, ⟨nd, rfl⟩⟩; (try first | exact ⟨rfl, _, World.drewN_drewN _ _ _⟩ | exact ⟨rfl, _, Eq.trans (World.drewN_drewN _ _ _) (congrArg (World.drewN _) (Nat.add_assoc _ _ _))⟩))))
    go_ret3
    exact ⟨by first | rfl | (simp; done) | (simp [*]; done), by repeat (first | exact Drawn0.refl _ | apply Drawn0.step)⟩

/-! ### conclaveref03_Width: function 33 -/
def conclaveref03_Width.l0 : Nat → Int → Int → Option (Int)
  | 0, _, _ => none
  | k + 1, x3, x4 => if x4 > 0 then (conclaveref03_Width.l0 k (wrap64 (2 * x3)) (wrap64 (x4 - 1))) else (some (wrap64 (x3 - 1)))
def conclaveref03_Width.f (k : Nat) (a0 : Int) : Option (Int) := (conclaveref03_Level.f k a0).bind fun t153 => (conclaveref03_Width.l0 k 1 t153)
theorem conclaveref03_Width.mono_l : ∀ k, (∀ y0 y1, LeO (conclaveref03_Width.l0 k y0 y1) (conclaveref03_Width.l0 (k + 1) y0 y1))
  | 0 => fun _ _ r h => by simp [conclaveref03_Width.l0] at h
  | k + 1 => by
    have ih0 := conclaveref03_Width.mono_l k
    · intro y0 y1
      unfold conclaveref03_Width.l0
      repeat' first
      | (with_reducible exact ih0 _ _)
      | (with_reducible exact conclaveref03_Level.mono _ _)
      | (with_reducible exact LeO.refl _)
      | (with_reducible exact LeO.none _)
      | (with_reducible refine LeO.ite ?_ ?_)
      | (with_reducible refine LeO.bind ?_ (fun _ => ?_))
      | exact ih0 _ _
      | exact conclaveref03_Level.mono _ _
      | exact LeO.none _
      | refine LeO.ite ?_ ?_
      | refine LeO.bind ?_ (fun _ => ?_)
theorem conclaveref03_Width.mono : ∀ a0 k, LeO (conclaveref03_Width.f k a0) (conclaveref03_Width.f (k + 1) a0) := by
  intro a0 k
  have ih0 := conclaveref03_Width.mono_l k
  unfold conclaveref03_Width.f
  repeat' first
      | (with_reducible exact ih0 _ _)
      | (with_reducible exact conclaveref03_Level.mono _ _)
      | (with_reducible exact LeO.refl _)
      | (with_reducible exact LeO.none _)
      | (with_reducible refine LeO.ite ?_ ?_)
      | (with_reducible refine LeO.bind ?_ (fun _ => ?_))
      | exact ih0 _ _
      | exact conclaveref03_Level.mono _ _
      | exact LeO.none _
      | refine LeO.ite ?_ ?_
      | refine LeO.bind ?_ (fun _ => ?_)
set_option maxHeartbeats 8000000 in
set_option maxRecDepth 100000 in
theorem conclaveref03_Width.calls (k : Nat) (a0 : Int) (r : Int) (w : World) (h : conclaveref03_Width.f k a0 = some r) :
    Calls Tryd.prog 33 #[.int .i64 a0] w fun e w' => e = .returned (.int .i64 r) ∧ Drawn0 w w' := by
  have H : ((conclaveref03_Level.f k a0).bind fun t153 => (conclaveref03_Width.l0 k 1 t153)) = some r := h
  clear h
  replace H := Option.bind_eq_some_iff.mp H
  obtain ⟨t153, A20, H⟩ := H
  replace H : (conclaveref03_Width.l0 k 1 t153) = some r := H
  have A2 := Aside0.mk A20
  clear A20
  have H' := Aside0.mk H
  clear H
  go_enter Tryd.func33, Tryd.ntmps33
  go_wp2_with (first | ((with_reducible refine gate_callee (f := 16) rfl ?_); refine goesL_ (some 6) rfl rfl Tryd.func16 (by kernel_rfl) rfl #[.int .i64 a0] rfl (by (try simp only [List.map_toArray, List.map_cons, List.map_nil]); first | done | rfl | (simp only [List.length_drop, List.length_take]; rfl)) ?_; (with_reducible refine (conclaveref03_Level.calls k a0 t153 _ A2.out).mono ?_); rintro e w' ⟨rfl, ⟨nd, rfl⟩⟩; refine ⟨_, rfl, ?_⟩))
  go_loopg [3, 4] k (fun kq v3 v4 w' => ∃ (x3_1 : Int) (x4_1 : Int), v3 = .int .i64 x3_1 ∧ v4 = .int .i64 x4_1 ∧ Aside0 (conclaveref03_Width.l0 kq x3_1 x4_1 = some r) ∧ Aside0 (kq ≤ k) ∧ Drawn0 w w')
  case atStart => exact ⟨(1), (t153), (by first | rfl | (simp; done) | (simp [*]; done)), (by first | rfl | (simp; done) | (simp [*]; done)), H', ⟨Nat.le_refl _⟩, by repeat (first | exact Drawn0.refl _ | apply Drawn0.step)⟩
  case round =>
    clear H'
    try clear c1
    try clear p2
    obtain ⟨x3_1, x4_1, rfl, rfl, HA, HK1, ⟨m1, rfl⟩⟩ := hrel
    cases gk with
    | zero => exact absurd HA.out (by simp [conclaveref03_Width.l0])
    | succ k1 =>
      have H := HA.out
      clear HA
      simp only [conclaveref03_Width.l0] at H
      by_cases c3 : x4_1 > 0
      · rw [if_pos c3] at H
        have c3b0 : decide (0 < x4_1) = true := decide_eq_true c3
        clear c3
        have H' := Aside0.mk H
        clear H
        go_wp2
        go_roundg k1
        case measure => have := HK1.out; omega
        case rel => exact ⟨(wrap64 (2 * x3_1)), (wrap64 (x4_1 - 1)), (by first | rfl | (simp; done) | (simp [*]; done)), (by first | rfl | (simp; done) | (simp [*]; done)), H', ⟨by have := HK1.out; omega⟩, by repeat (first | exact Drawn0.refl _ | apply Drawn0.step)⟩
      · rw [if_neg c3] at H
        have c3b0 : decide (0 < x4_1) = false := decide_eq_false c3
        clear c3
        obtain rfl := Option.some.inj H
        go_wp2
        go_ret
        exact ⟨by first | rfl | (simp; done) | (simp [*]; done), by repeat (first | exact Drawn0.refl _ | apply Drawn0.step)⟩

/-! ### conclaveref03_Under: function 24 -/
def conclaveref03_Under.f (k : Nat) (a0 : Int) (a1 : Int) (a2 : Int) : Option (Bool) := (conclaveref03_In.f a0 a2).bind fun t154 => (if t154 = true then ((conclaveref03_In.f a1 a2).bind fun t155 => (if t155 = true then ((conclaveref03_Width.f k a1).bind fun t156 => (if a0 ≥ (wrap64 (a1 - t156)) then (some (decide (a0 ≤ (wrap64 (a1 + t156))))) else (some false))) else (some false))) else (some false))
theorem conclaveref03_Under.mono : ∀ a0 a1 a2 k, LeO (conclaveref03_Under.f k a0 a1 a2) (conclaveref03_Under.f (k + 1) a0 a1 a2) := by
  intro a0 a1 a2 k
  unfold conclaveref03_Under.f
  repeat' first
      | (with_reducible exact conclaveref03_Width.mono _ _)
      | (with_reducible exact LeO.refl _)
      | (with_reducible exact LeO.none _)
      | (with_reducible refine LeO.ite ?_ ?_)
      | (with_reducible refine LeO.bind ?_ (fun _ => ?_))
      | exact conclaveref03_Width.mono _ _
      | exact LeO.none _
      | refine LeO.ite ?_ ?_
      | refine LeO.bind ?_ (fun _ => ?_)
set_option maxHeartbeats 8000000 in
set_option maxRecDepth 100000 in
theorem conclaveref03_Under.calls (k : Nat) (a0 : Int) (a1 : Int) (a2 : Int) (r : Bool) (w : World) (h : conclaveref03_Under.f k a0 a1 a2 = some r) :
    Calls Tryd.prog 24 #[.int .i64 a0, .int .i64 a1, .int .i64 a2] w fun e w' => e = .returned (.bool r) ∧ Drawn0 w w' := by
  have H : ((conclaveref03_In.f a0 a2).bind fun t154 => (if t154 = true then ((conclaveref03_In.f a1 a2).bind fun t155 => (if t155 = true then ((conclaveref03_Width.f k a1).bind fun t156 => (if a0 ≥ (wrap64 (a1 - t156)) then (some (decide (a0 ≤ (wrap64 (a1 + t156))))) else (some false))) else (some false))) else (some false))) = some r := h
  clear h
  replace H := Option.bind_eq_some_iff.mp H
  obtain ⟨t154, A40, H⟩ := H
  replace H : (if t154 = true then ((conclaveref03_In.f a1 a2).bind fun t155 => (if t155 = true then ((conclaveref03_Width.f k a1).bind fun t156 => (if a0 ≥ (wrap64 (a1 - t156)) then (some (decide (a0 ≤ (wrap64 (a1 + t156))))) else (some false))) else (some false))) else (some false)) = some r := H
  have A4 := Aside0.mk A40
  clear A40
  by_cases c5 : t154 = true
  · subst c5
    have H1 : ((conclaveref03_In.f a1 a2).bind fun t155 => (if t155 = true then ((conclaveref03_Width.f k a1).bind fun t156 => (if a0 ≥ (wrap64 (a1 - t156)) then (some (decide (a0 ≤ (wrap64 (a1 + t156))))) else (some false))) else (some false))) = some r := by rw [if_pos rfl] at H; exact H
    clear H
    have H := H1
    clear H1
    replace H := Option.bind_eq_some_iff.mp H
    obtain ⟨t155, A60, H⟩ := H
    replace H : (if t155 = true then ((conclaveref03_Width.f k a1).bind fun t156 => (if a0 ≥ (wrap64 (a1 - t156)) then (some (decide (a0 ≤ (wrap64 (a1 + t156))))) else (some false))) else (some false)) = some r := H
    have A6 := Aside0.mk A60
    clear A60
    by_cases c7 : t155 = true
    · subst c7
      have H1 : ((conclaveref03_Width.f k a1).bind fun t156 => (if a0 ≥ (wrap64 (a1 - t156)) then (some (decide (a0 ≤ (wrap64 (a1 + t156))))) else (some false))) = some r := by rw [if_pos rfl] at H; exact H
      clear H
      have H := H1
      clear H1
      replace H := Option.bind_eq_some_iff.mp H
      obtain ⟨t156, A80, H⟩ := H
      replace H : (if a0 ≥ (wrap64 (a1 - t156)) then (some (decide (a0 ≤ (wrap64 (a1 + t156))))) else (some false)) = some r := H
      have A8 := Aside0.mk A80
      clear A80
      by_cases c9 : a0 ≥ (wrap64 (a1 - t156))
      · rw [if_pos c9] at H
        have c9b0 : decide ((wrap64 (a1 - t156)) ≤ a0) = true := decide_eq_true c9
        clear c9
        obtain rfl := Option.some.inj H
        go_enter Tryd.func24, Tryd.ntmps24
        go_wp2_with (first | ((with_reducible refine gate_callee (f := 11) rfl ?_); refine goesL_ (some 10) rfl rfl Tryd.func11 (by kernel_rfl) rfl #[.int .i64 a0, .int .i64 a2] rfl (by (try simp only [List.map_toArray, List.map_cons, List.map_nil]); first | done | rfl | (simp only [List.length_drop, List.length_take]; rfl)) ?_; (with_reducible refine (conclaveref03_In.calls a0 a2 true _ A4.out).mono ?_); rintro e w' ⟨rfl, ⟨nd, rfl⟩⟩; refine ⟨_, rfl, ?_⟩) | (go_at_call 11; (with_reducible refine (conclaveref03_In.calls a1 a2 true _ A6.out).mono ?_); rintro e w' ⟨rfl, ⟨nd, rfl⟩⟩) | ((with_reducible refine gate_callee (f := 33) rfl ?_); refine goesL_ (some 19) rfl rfl Tryd.func33 (by kernel_rfl) rfl #[.int .i64 a1] rfl (by (try simp only [List.map_toArray, List.map_cons, List.map_nil]); first | done | rfl | (simp only [List.length_drop, List.length_take]; rfl)) ?_; (with_reducible refine (conclaveref03_Width.calls k a1 t156 _ A8.out).mono ?_); rintro e w' ⟨rfl, ⟨nd, rfl⟩⟩; refine ⟨_, rfl, ?_⟩))
        go_ret
        exact ⟨by first | rfl | (simp; done) | (simp [*]; done), by repeat (first | exact Drawn0.refl _ | apply Drawn0.step)⟩
      · rw [if_neg c9] at H
        have c9b0 : decide ((wrap64 (a1 - t156)) ≤ a0) = false := decide_eq_false c9
        clear c9
        obtain rfl := Option.some.inj H
        go_enter Tryd.func24, Tryd.ntmps24
        go_wp2_with (first | ((with_reducible refine gate_callee (f := 11) rfl ?_); refine goesL_ (some 10) rfl rfl Tryd.func11 (by kernel_rfl) rfl #[.int .i64 a0, .int .i64 a2] rfl (by (try simp only [List.map_toArray, List.map_cons, List.map_nil]); first | done | rfl | (simp only [List.length_drop, List.length_take]; rfl)) ?_; (with_reducible refine (conclaveref03_In.calls a0 a2 true _ A4.out).mono ?_); rintro e w' ⟨rfl, ⟨nd, rfl⟩⟩; refine ⟨_, rfl, ?_⟩) | (go_at_call 11; (with_reducible refine (conclaveref03_In.calls a1 a2 true _ A6.out).mono ?_); rintro e w' ⟨rfl, ⟨nd, rfl⟩⟩) | ((with_reducible refine gate_callee (f := 33) rfl ?_); refine goesL_ (some 19) rfl rfl Tryd.func33 (by kernel_rfl) rfl #[.int .i64 a1] rfl (by (try simp only [List.map_toArray, List.map_cons, List.map_nil]); first | done | rfl | (simp only [List.length_drop, List.length_take]; rfl)) ?_; (with_reducible refine (conclaveref03_Width.calls k a1 t156 _ A8.out).mono ?_); rintro e w' ⟨rfl, ⟨nd, rfl⟩⟩; refine ⟨_, rfl, ?_⟩))
        go_ret
        exact ⟨by first | rfl | (simp; done) | (simp [*]; done), by repeat (first | exact Drawn0.refl _ | apply Drawn0.step)⟩
    · replace c7 := Bool.eq_false_iff.mpr c7
      subst c7
      have H1 : (some false) = some r := by rw [if_neg (show ¬ (false = true) by decide)] at H; exact H
      clear H
      have H := H1
      clear H1
      obtain rfl := Option.some.inj H
      go_enter Tryd.func24, Tryd.ntmps24
      go_wp2_with (first | ((with_reducible refine gate_callee (f := 11) rfl ?_); refine goesL_ (some 10) rfl rfl Tryd.func11 (by kernel_rfl) rfl #[.int .i64 a0, .int .i64 a2] rfl (by (try simp only [List.map_toArray, List.map_cons, List.map_nil]); first | done | rfl | (simp only [List.length_drop, List.length_take]; rfl)) ?_; (with_reducible refine (conclaveref03_In.calls a0 a2 true _ A4.out).mono ?_); rintro e w' ⟨rfl, ⟨nd, rfl⟩⟩; refine ⟨_, rfl, ?_⟩) | (go_at_call 11; (with_reducible refine (conclaveref03_In.calls a1 a2 false _ A6.out).mono ?_); rintro e w' ⟨rfl, ⟨nd, rfl⟩⟩))
      go_ret
      exact ⟨by first | rfl | (simp; done) | (simp [*]; done), by repeat (first | exact Drawn0.refl _ | apply Drawn0.step)⟩
  · replace c5 := Bool.eq_false_iff.mpr c5
    subst c5
    have H1 : (some false) = some r := by rw [if_neg (show ¬ (false = true) by decide)] at H; exact H
    clear H
    have H := H1
    clear H1
    obtain rfl := Option.some.inj H
    go_enter Tryd.func24, Tryd.ntmps24
    go_wp2_with (first | ((with_reducible refine gate_callee (f := 11) rfl ?_); refine goesL_ (some 10) rfl rfl Tryd.func11 (by kernel_rfl) rfl #[.int .i64 a0, .int .i64 a2] rfl (by (try simp only [List.map_toArray, List.map_cons, List.map_nil]); first | done | rfl | (simp only [List.length_drop, List.length_take]; rfl)) ?_; (with_reducible refine (conclaveref03_In.calls a0 a2 false _ A4.out).mono ?_); rintro e w' ⟨rfl, ⟨nd, rfl⟩⟩; refine ⟨_, rfl, ?_⟩))
    go_ret
    exact ⟨by first | rfl | (simp; done) | (simp [*]; done), by repeat (first | exact Drawn0.refl _ | apply Drawn0.step)⟩

/-! ### conclaveref03_Parent: function 21 -/
def conclaveref03_Parent.l0 : Nat → Int → Int → Int → Int → Option (Int)
  | 0, _, _, _, _ => none
  | k + 1, x0, x1, x5, x6 => if x6 < (wrap64 ((wrap64 (2 * x1)) - 1)) then (if x6 = x0 then (conclaveref03_Parent.l0 k x0 x1 x5 (wrap64 (x6 + 1))) else ((conclaveref03_Under.f k x0 x6 x1).bind fun t157 => (if t157 = true then (if x5 < 0 then (conclaveref03_Parent.l0 k x0 x1 x6 (wrap64 (x6 + 1))) else ((conclaveref03_Level.f k x6).bind fun t158 => ((conclaveref03_Level.f k x5).bind fun t159 => (if t158 < t159 then (conclaveref03_Parent.l0 k x0 x1 x6 (wrap64 (x6 + 1))) else (conclaveref03_Parent.l0 k x0 x1 x5 (wrap64 (x6 + 1))))))) else (conclaveref03_Parent.l0 k x0 x1 x5 (wrap64 (x6 + 1)))))) else (some x5)
def conclaveref03_Parent.f (k : Nat) (a0 : Int) (a1 : Int) : Option (Int) := conclaveref03_Parent.l0 k a0 a1 (-1) 0
theorem conclaveref03_Parent.mono_l : ∀ k, (∀ y0 y1 y2 y3, LeO (conclaveref03_Parent.l0 k y0 y1 y2 y3) (conclaveref03_Parent.l0 (k + 1) y0 y1 y2 y3))
  | 0 => fun _ _ _ _ r h => by simp [conclaveref03_Parent.l0] at h
  | k + 1 => by
    have ih0 := conclaveref03_Parent.mono_l k
    · intro y0 y1 y2 y3
      unfold conclaveref03_Parent.l0
      repeat' first
      | (with_reducible exact ih0 _ _ _ _)
      | (with_reducible exact conclaveref03_Level.mono _ _)
      | (with_reducible exact conclaveref03_Under.mono _ _ _ _)
      | (with_reducible exact LeO.refl _)
      | (with_reducible exact LeO.none _)
      | (with_reducible refine LeO.ite ?_ ?_)
      | (with_reducible refine LeO.bind ?_ (fun _ => ?_))
      | exact ih0 _ _ _ _
      | exact conclaveref03_Level.mono _ _
      | exact conclaveref03_Under.mono _ _ _ _
      | exact LeO.none _
      | refine LeO.ite ?_ ?_
      | refine LeO.bind ?_ (fun _ => ?_)
theorem conclaveref03_Parent.mono : ∀ a0 a1 k, LeO (conclaveref03_Parent.f k a0 a1) (conclaveref03_Parent.f (k + 1) a0 a1) := by
  intro a0 a1 k
  have ih0 := conclaveref03_Parent.mono_l k
  unfold conclaveref03_Parent.f
  repeat' first
      | (with_reducible exact ih0 _ _ _ _)
      | (with_reducible exact conclaveref03_Level.mono _ _)
      | (with_reducible exact conclaveref03_Under.mono _ _ _ _)
      | (with_reducible exact LeO.refl _)
      | (with_reducible exact LeO.none _)
      | (with_reducible refine LeO.ite ?_ ?_)
      | (with_reducible refine LeO.bind ?_ (fun _ => ?_))
      | exact ih0 _ _ _ _
      | exact conclaveref03_Level.mono _ _
      | exact conclaveref03_Under.mono _ _ _ _
      | exact LeO.none _
      | refine LeO.ite ?_ ?_
      | refine LeO.bind ?_ (fun _ => ?_)
set_option maxHeartbeats 8000000 in
set_option maxRecDepth 100000 in
theorem conclaveref03_Parent.calls (k : Nat) (a0 : Int) (a1 : Int) (r : Int) (w : World) (h : conclaveref03_Parent.f k a0 a1 = some r) :
    Calls Tryd.prog 21 #[.int .i64 a0, .int .i64 a1] w fun e w' => e = .returned (.int .i64 r) ∧ Drawn0 w w' := by
  have H : (conclaveref03_Parent.l0 k a0 a1 (-1) 0) = some r := h
  clear h
  have H' := Aside0.mk H
  clear H
  go_enter Tryd.func21, Tryd.ntmps21
  go_wp2
  go_loopg [5, 6] k (fun kq v5 v6 w' => ∃ (x5_1 : Int) (x6_1 : Int), v5 = .int .i64 x5_1 ∧ v6 = .int .i64 x6_1 ∧ Aside0 (conclaveref03_Parent.l0 kq a0 a1 x5_1 x6_1 = some r) ∧ Aside0 (kq ≤ k) ∧ Drawn0 w w')
  case atStart => exact ⟨((-1)), (0), (by first | rfl | (simp; done) | (simp [*]; done)), (by first | rfl | (simp; done) | (simp [*]; done)), H', ⟨Nat.le_refl _⟩, by repeat (first | exact Drawn0.refl _ | apply Drawn0.step)⟩
  case round =>
    clear H'
    try clear c2
    try clear p2
    obtain ⟨x5_1, x6_1, rfl, rfl, HA, HK1, ⟨m1, rfl⟩⟩ := hrel
    cases gk with
    | zero => exact absurd HA.out (by simp [conclaveref03_Parent.l0])
    | succ k1 =>
      have H := HA.out
      clear HA
      simp only [conclaveref03_Parent.l0] at H
      by_cases c3 : x6_1 < (wrap64 ((wrap64 (2 * a1)) - 1))
      · rw [if_pos c3] at H
        have c3b0 : decide (x6_1 < (wrap64 ((wrap64 (2 * a1)) - 1))) = true := decide_eq_true c3
        clear c3
        by_cases c4 : x6_1 = a0
        · rw [if_pos c4] at H
          have c4b0 : (x6_1 == a0) = true := beq_iff_eq.mpr c4
          have c4b1 : (x6_1 != a0) = false := bne_eq_false_iff_eq.mpr c4
          clear c4
          have H' := Aside0.mk H
          clear H
          go_wp2
          go_roundg k1
          case measure => have := HK1.out; omega
          case rel => exact ⟨(x5_1), (wrap64 (x6_1 + 1)), (by first | rfl | (simp; done) | (simp [*]; done)), (by first | rfl | (simp; done) | (simp [*]; done)), H', ⟨by have := HK1.out; omega⟩, by repeat (first | exact Drawn0.refl _ | apply Drawn0.step)⟩
        · rw [if_neg c4] at H
          have c4b0 : (x6_1 == a0) = false := beq_eq_false_iff_ne.mpr c4
          have c4b1 : (x6_1 != a0) = true := bne_iff_ne.mpr c4
          replace H := Option.bind_eq_some_iff.mp H
          obtain ⟨t157, A50, H⟩ := H
          replace H : (if t157 = true then (if x5_1 < 0 then (conclaveref03_Parent.l0 k1 a0 a1 x6_1 (wrap64 (x6_1 + 1))) else ((conclaveref03_Level.f k1 x6_1).bind fun t158 => ((conclaveref03_Level.f k1 x5_1).bind fun t159 => (if t158 < t159 then (conclaveref03_Parent.l0 k1 a0 a1 x6_1 (wrap64 (x6_1 + 1))) else (conclaveref03_Parent.l0 k1 a0 a1 x5_1 (wrap64 (x6_1 + 1))))))) else (conclaveref03_Parent.l0 k1 a0 a1 x5_1 (wrap64 (x6_1 + 1)))) = some r := H
          have A5 := Aside0.mk A50
          clear A50
          by_cases c6 : t157 = true
          · subst c6
            have H1 : (if x5_1 < 0 then (conclaveref03_Parent.l0 k1 a0 a1 x6_1 (wrap64 (x6_1 + 1))) else ((conclaveref03_Level.f k1 x6_1).bind fun t158 => ((conclaveref03_Level.f k1 x5_1).bind fun t159 => (if t158 < t159 then (conclaveref03_Parent.l0 k1 a0 a1 x6_1 (wrap64 (x6_1 + 1))) else (conclaveref03_Parent.l0 k1 a0 a1 x5_1 (wrap64 (x6_1 + 1))))))) = some r := by rw [if_pos rfl] at H; exact H
            clear H
            have H := H1
            clear H1
            by_cases c7 : x5_1 < 0
            · rw [if_pos c7] at H
              have c7b0 : decide (x5_1 < 0) = true := decide_eq_true c7
              clear c7
              have H' := Aside0.mk H
              clear H
              go_wp2_with (first | (go_at_call 24; (with_reducible refine (conclaveref03_Under.calls k1 a0 x6_1 a1 true _ A5.out).mono ?_); rintro e w' ⟨rfl, ⟨nd, rfl⟩⟩))
              go_roundg k1
              case measure => have := HK1.out; omega
              case rel => exact ⟨(x6_1), (wrap64 (x6_1 + 1)), (by first | rfl | (simp; done) | (simp [*]; done)), (by first | rfl | (simp; done) | (simp [*]; done)), H', ⟨by have := HK1.out; omega⟩, by repeat (first | exact Drawn0.refl _ | apply Drawn0.step)⟩
            · rw [if_neg c7] at H
              have c7b0 : decide (x5_1 < 0) = false := decide_eq_false c7
              clear c7
              replace H := Option.bind_eq_some_iff.mp H
              obtain ⟨t158, A80, H⟩ := H
              replace H : ((conclaveref03_Level.f k1 x5_1).bind fun t159 => (if t158 < t159 then (conclaveref03_Parent.l0 k1 a0 a1 x6_1 (wrap64 (x6_1 + 1))) else (conclaveref03_Parent.l0 k1 a0 a1 x5_1 (wrap64 (x6_1 + 1))))) = some r := H
              have A8 := Aside0.mk A80
              clear A80
              replace H := Option.bind_eq_some_iff.mp H
              obtain ⟨t159, A90, H⟩ := H
              replace H : (if t158 < t159 then (conclaveref03_Parent.l0 k1 a0 a1 x6_1 (wrap64 (x6_1 + 1))) else (conclaveref03_Parent.l0 k1 a0 a1 x5_1 (wrap64 (x6_1 + 1)))) = some r := H
              have A9 := Aside0.mk A90
              clear A90
              by_cases c10 : t158 < t159
              · rw [if_pos c10] at H
                have c10b0 : decide (t158 < t159) = true := decide_eq_true c10
                clear c10
                have H' := Aside0.mk H
                clear H
                go_wp2_with (first | (go_at_call 24; (with_reducible refine (conclaveref03_Under.calls k1 a0 x6_1 a1 true _ A5.out).mono ?_); rintro e w' ⟨rfl, ⟨nd, rfl⟩⟩) | (go_at_call 16; (with_reducible refine (conclaveref03_Level.calls k1 x6_1 t158 _ A8.out).mono ?_); rintro e w' ⟨rfl, ⟨nd, rfl⟩⟩) | (go_at_call 16; (with_reducible refine (conclaveref03_Level.calls k1 x5_1 t159 _ A9.out).mono ?_); rintro e w' ⟨rfl, ⟨nd, rfl⟩⟩))
                go_roundg k1
                case measure => have := HK1.out; omega
                case rel => exact ⟨(x6_1), (wrap64 (x6_1 + 1)), (by first | rfl | (simp; done) | (simp [*]; done)), (by first | rfl | (simp; done) | (simp [*]; done)), H', ⟨by have := HK1.out; omega⟩, by repeat (first | exact Drawn0.refl _ | apply Drawn0.step)⟩
              · rw [if_neg c10] at H
                have c10b0 : decide (t158 < t159) = false := decide_eq_false c10
                clear c10
                have H' := Aside0.mk H
                clear H
                go_wp2_with (first | (go_at_call 24; (with_reducible refine (conclaveref03_Under.calls k1 a0 x6_1 a1 true _ A5.out).mono ?_); rintro e w' ⟨rfl, ⟨nd, rfl⟩⟩) | (go_at_call 16; (with_reducible refine (conclaveref03_Level.calls k1 x6_1 t158 _ A8.out).mono ?_); rintro e w' ⟨rfl, ⟨nd, rfl⟩⟩) | (go_at_call 16; (with_reducible refine (conclaveref03_Level.calls k1 x5_1 t159 _ A9.out).mono ?_); rintro e w' ⟨rfl, ⟨nd, rfl⟩⟩))
                go_roundg k1
                case measure => have := HK1.out; omega
                case rel => exact ⟨(x5_1), (wrap64 (x6_1 + 1)), (by first | rfl | (simp; done) | (simp [*]; done)), (by first | rfl | (simp; done) | (simp [*]; done)), H', ⟨by have := HK1.out; omega⟩, by repeat (first | exact Drawn0.refl _ | apply Drawn0.step)⟩
          · replace c6 := Bool.eq_false_iff.mpr c6
            subst c6
            have H1 : (conclaveref03_Parent.l0 k1 a0 a1 x5_1 (wrap64 (x6_1 + 1))) = some r := by rw [if_neg (show ¬ (false = true) by decide)] at H; exact H
            clear H
            have H := H1
            clear H1
            have H' := Aside0.mk H
            clear H
            go_wp2_with (first | (go_at_call 24; (with_reducible refine (conclaveref03_Under.calls k1 a0 x6_1 a1 false _ A5.out).mono ?_); rintro e w' ⟨rfl, ⟨nd, rfl⟩⟩))
            go_roundg k1
            case measure => have := HK1.out; omega
            case rel => exact ⟨(x5_1), (wrap64 (x6_1 + 1)), (by first | rfl | (simp; done) | (simp [*]; done)), (by first | rfl | (simp; done) | (simp [*]; done)), H', ⟨by have := HK1.out; omega⟩, by repeat (first | exact Drawn0.refl _ | apply Drawn0.step)⟩
      · rw [if_neg c3] at H
        have c3b0 : decide (x6_1 < (wrap64 ((wrap64 (2 * a1)) - 1))) = false := decide_eq_false c3
        clear c3
        obtain rfl := Option.some.inj H
        go_wp2
        go_ret
        exact ⟨by first | rfl | (simp; done) | (simp [*]; done), by repeat (first | exact Drawn0.refl _ | apply Drawn0.step)⟩

/-! ### conclaveref03_Sibling: function 22 -/
def conclaveref03_Sibling.f (k : Nat) (a0 : Int) (a1 : Int) : Option (Int) := (conclaveref03_Parent.f k a0 a1).bind fun t160 => (some (wrap64 ((wrap64 (t160 + t160)) - a0)))
theorem conclaveref03_Sibling.mono : ∀ a0 a1 k, LeO (conclaveref03_Sibling.f k a0 a1) (conclaveref03_Sibling.f (k + 1) a0 a1) := by
  intro a0 a1 k
  unfold conclaveref03_Sibling.f
  repeat' first
      | (with_reducible exact conclaveref03_Parent.mono _ _ _)
      | (with_reducible exact LeO.refl _)
      | (with_reducible exact LeO.none _)
      | (with_reducible refine LeO.ite ?_ ?_)
      | (with_reducible refine LeO.bind ?_ (fun _ => ?_))
      | exact conclaveref03_Parent.mono _ _ _
      | exact LeO.none _
      | refine LeO.ite ?_ ?_
      | refine LeO.bind ?_ (fun _ => ?_)
set_option maxHeartbeats 8000000 in
set_option maxRecDepth 100000 in
theorem conclaveref03_Sibling.calls (k : Nat) (a0 : Int) (a1 : Int) (r : Int) (w : World) (h : conclaveref03_Sibling.f k a0 a1 = some r) :
    Calls Tryd.prog 22 #[.int .i64 a0, .int .i64 a1] w fun e w' => e = .returned (.int .i64 r) ∧ Drawn0 w w' := by
  have H : ((conclaveref03_Parent.f k a0 a1).bind fun t160 => (some (wrap64 ((wrap64 (t160 + t160)) - a0)))) = some r := h
  clear h
  replace H := Option.bind_eq_some_iff.mp H
  obtain ⟨t160, A30, H⟩ := H
  replace H : (some (wrap64 ((wrap64 (t160 + t160)) - a0))) = some r := H
  have A3 := Aside0.mk A30
  clear A30
  obtain rfl := Option.some.inj H
  go_enter Tryd.func22, Tryd.ntmps22
  go_wp2_with (first | ((with_reducible refine gate_callee (f := 21) rfl ?_); refine goesL_ (some 8) rfl rfl Tryd.func21 (by kernel_rfl) rfl #[.int .i64 a0, .int .i64 a1] rfl (by (try simp only [List.map_toArray, List.map_cons, List.map_nil]); first | done | rfl | (simp only [List.length_drop, List.length_take]; rfl)) ?_; (with_reducible refine (conclaveref03_Parent.calls k a0 a1 t160 _ A3.out).mono ?_); rintro e w' ⟨rfl, ⟨nd, rfl⟩⟩; refine ⟨_, rfl, ?_⟩))
  go_ret
  exact ⟨by first | rfl | (simp; done) | (simp [*]; done), by repeat (first | exact Drawn0.refl _ | apply Drawn0.step)⟩

end Go.Proofs.YtmioejkhhcjfpaaDoor.PHe
