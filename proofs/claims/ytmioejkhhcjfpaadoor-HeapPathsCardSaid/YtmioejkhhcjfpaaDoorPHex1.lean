-- Written by a program of this session over the translation.
import Derived.Test.YtmioejkhhcjfpaaDoorPHex0
import Derived.Test.YtmioejkhhcjfpaaDoorRangeCell
import Derived.Shelf.Spec.TrailingZeros
import Derived.Laws.Bits64
import Derived.Lib.Hide
import Derived.RangeFuncBox
import Derived.Maps.AppendAt
import Derived.Test.YtmioejkhhcjfpaaDoorShelf
namespace Go.Proofs.YtmioejkhhcjfpaaDoor.PHe
open Go.RowKit Go.Proofs.YtmioejkhhcjfpaaDoorW.PrintWords Go.Proofs.YtmioejkhhcjfpaaDoorW.PrintLast Go.Proofs.YtmioejkhhcjfpaaDoorW.PrintMore
attribute [local go_sem] max2_int min2_int max_two min_two max_three min_three max_four min_four   -- for this text's walks alone
set_option linter.unusedVariables false
set_option linter.unusedSimpArgs false

/-! ### heap_Right: function 14 -/
def heap_Right.f (a0 : Int) : Option (Bool) := if a0 ≥ 1 then (if a0 ≤ 32 then (some ((Go.bits .and .i64 a0 (wrap64 (a0 - 1))) == 0)) else (some false)) else (some false)
set_option maxHeartbeats 8000000 in
set_option maxRecDepth 100000 in
theorem heap_Right.calls (a0 : Int) (r : Bool) (w : World) (h : heap_Right.f a0 = some r) :
    Calls Tryd.prog 14 #[.int .i64 a0] w fun e w' => e = .returned (.bool r) ∧ Drawn0 w w' := by
  have H : (if a0 ≥ 1 then (if a0 ≤ 32 then (some ((Go.bits .and .i64 a0 (wrap64 (a0 - 1))) == 0)) else (some false)) else (some false)) = some r := h
  clear h
  by_cases c2 : a0 ≥ 1
  · rw [if_pos c2] at H
    have c2b0 : decide (1 ≤ a0) = true := decide_eq_true c2
    clear c2
    by_cases c3 : a0 ≤ 32
    · rw [if_pos c3] at H
      have c3b0 : decide (a0 ≤ 32) = true := decide_eq_true c3
      clear c3
      obtain rfl := Option.some.inj H
      go_enter Tryd.func14, Tryd.ntmps14
      go_wp2
      go_ret
      exact ⟨by first | rfl | (simp; done) | (simp [*]; done), by repeat (first | exact Drawn0.refl _ | apply Drawn0.step)⟩
    · rw [if_neg c3] at H
      have c3b0 : decide (a0 ≤ 32) = false := decide_eq_false c3
      clear c3
      obtain rfl := Option.some.inj H
      go_enter Tryd.func14, Tryd.ntmps14
      go_wp2
      go_ret
      exact ⟨by first | rfl | (simp; done) | (simp [*]; done), by repeat (first | exact Drawn0.refl _ | apply Drawn0.step)⟩
  · rw [if_neg c2] at H
    have c2b0 : decide (1 ≤ a0) = false := decide_eq_false c2
    clear c2
    obtain rfl := Option.some.inj H
    go_enter Tryd.func14, Tryd.ntmps14
    go_wp2
    go_ret
    exact ⟨by first | rfl | (simp; done) | (simp [*]; done), by repeat (first | exact Drawn0.refl _ | apply Drawn0.step)⟩

/-! ### heap_in: function 30 -/
def heap_in.f (a0 : Int) (a1 : Int) : Option (Bool) := (heap_Right.f a1).bind fun t101 => (if t101 = true then (if a0 ≥ 0 then (some (decide (a0 ≤ (wrap64 ((wrap64 (2 * a1)) - 2))))) else (some false)) else (some false))
set_option maxHeartbeats 8000000 in
set_option maxRecDepth 100000 in
theorem heap_in.calls (a0 : Int) (a1 : Int) (r : Bool) (w : World) (h : heap_in.f a0 a1 = some r) :
    Calls Tryd.prog 30 #[.int .i64 a0, .int .i64 a1] w fun e w' => e = .returned (.bool r) ∧ Drawn0 w w' := by
  have H : ((heap_Right.f a1).bind fun t101 => (if t101 = true then (if a0 ≥ 0 then (some (decide (a0 ≤ (wrap64 ((wrap64 (2 * a1)) - 2))))) else (some false)) else (some false))) = some r := h
  clear h
  replace H := Option.bind_eq_some_iff.mp H
  obtain ⟨t101, A30, H⟩ := H
  replace H : (if t101 = true then (if a0 ≥ 0 then (some (decide (a0 ≤ (wrap64 ((wrap64 (2 * a1)) - 2))))) else (some false)) else (some false)) = some r := H
  have A3 := Aside0.mk A30
  clear A30
  by_cases c4 : t101 = true
  · subst c4
    have H1 : (if a0 ≥ 0 then (some (decide (a0 ≤ (wrap64 ((wrap64 (2 * a1)) - 2))))) else (some false)) = some r := by rw [if_pos rfl] at H; exact H
    clear H
    have H := H1
    clear H1
    by_cases c5 : a0 ≥ 0
    · rw [if_pos c5] at H
      have c5b0 : decide (0 ≤ a0) = true := decide_eq_true c5
      clear c5
      obtain rfl := Option.some.inj H
      go_enter Tryd.func30, Tryd.ntmps30
      go_wp2_with (first | ((with_reducible refine gate_callee (f := 14) rfl ?_); refine goesL_ (some 6) rfl rfl Tryd.func14 (by kernel_rfl) rfl #[.int .i64 a1] rfl (by (try simp only [List.map_toArray, List.map_cons, List.map_nil]); first | done | rfl | (simp only [List.length_drop, List.length_take]; rfl)) ?_; (with_reducible refine (heap_Right.calls a1 true _ A3.out).mono ?_); rintro e w' ⟨rfl, ⟨nd, rfl⟩⟩; refine ⟨_, rfl, ?_⟩))
      go_ret
      exact ⟨by first | rfl | (simp; done) | (simp [*]; done), by repeat (first | exact Drawn0.refl _ | apply Drawn0.step)⟩
    · rw [if_neg c5] at H
      have c5b0 : decide (0 ≤ a0) = false := decide_eq_false c5
      clear c5
      obtain rfl := Option.some.inj H
      go_enter Tryd.func30, Tryd.ntmps30
      go_wp2_with (first | ((with_reducible refine gate_callee (f := 14) rfl ?_); refine goesL_ (some 6) rfl rfl Tryd.func14 (by kernel_rfl) rfl #[.int .i64 a1] rfl (by (try simp only [List.map_toArray, List.map_cons, List.map_nil]); first | done | rfl | (simp only [List.length_drop, List.length_take]; rfl)) ?_; (with_reducible refine (heap_Right.calls a1 true _ A3.out).mono ?_); rintro e w' ⟨rfl, ⟨nd, rfl⟩⟩; refine ⟨_, rfl, ?_⟩))
      go_ret
      exact ⟨by first | rfl | (simp; done) | (simp [*]; done), by repeat (first | exact Drawn0.refl _ | apply Drawn0.step)⟩
  · replace c4 := Bool.eq_false_iff.mpr c4
    subst c4
    have H1 : (some false) = some r := by rw [if_neg (show ¬ (false = true) by decide)] at H; exact H
    clear H
    have H := H1
    clear H1
    obtain rfl := Option.some.inj H
    go_enter Tryd.func30, Tryd.ntmps30
    go_wp2_with (first | ((with_reducible refine gate_callee (f := 14) rfl ?_); refine goesL_ (some 6) rfl rfl Tryd.func14 (by kernel_rfl) rfl #[.int .i64 a1] rfl (by (try simp only [List.map_toArray, List.map_cons, List.map_nil]); first | done | rfl | (simp only [List.length_drop, List.length_take]; rfl)) ?_; (with_reducible refine (heap_Right.calls a1 false _ A3.out).mono ?_); rintro e w' ⟨rfl, ⟨nd, rfl⟩⟩; refine ⟨_, rfl, ?_⟩))
    go_ret
    exact ⟨by first | rfl | (simp; done) | (simp [*]; done), by repeat (first | exact Drawn0.refl _ | apply Drawn0.step)⟩

/-! ### TabG: lib -/
/-- math/bits' table of 64 entries lies in its variable. -/
def TabG (w : World) : Prop := ∀ j, j < Lib.deBruijn64tab.length → w.cell? ⟨1, j, none⟩ = some (.int .u8 (Lib.deBruijn64tab.getD j 0))
theorem TabG.lt {w : World} (h : TabG w) : 1 < w.heap.size := World.block_lt_of_cell? w _ (h 0 (by decide))
theorem TabG.heap {w w' : World} (h : TabG w) (hb : w'.heap[1]? = w.heap[1]?) : TabG w' := fun j hj => by
  rw [show w'.cell? ⟨1, j, none⟩ = w.cell? ⟨1, j, none⟩ by simp [World.cell?, hb]]; exact h j hj
theorem TabG.below {w w' : World} (h : TabG w) (hb : Below w.heap.size w w') : TabG w' := h.heap (hb.block _ h.lt)
theorem TabG.drewN {w : World} (h : TabG w) (n : Nat) : TabG (w.drewN n) := h
set_option maxHeartbeats 1000000 in
theorem tz64_core (x k idx : Nat) (w : World) (hx0 : ((x : Int) == 0) = false)
    (key : IntKind.u64.wrap (bits BinOp.and IntKind.u64 (x : Int) (IntKind.u64.wrap (-(x : Int))) * 285870213051353865) / 288230376151711744 = (idx : Int))
    (hi : idx < 64) (hcell : w.cell? ⟨1, idx, none⟩ = some (.int .u8 k)) (hk : k < 64) :
    Calls Tryd.prog 37 #[.int .u64 x] w fun e w' => e = .returned (.int .i64 k) ∧ w' = w := by
  have hi2 : (idx : Int) < 64 := by omega
  go_enter Tryd.func37, Tryd.ntmps37
  go_wp2_with (simp only [key])
  go_ret
  exact ⟨rfl, rfl⟩
theorem tz64_zero (w : World) : Calls Tryd.prog 37 #[.int .u64 0] w fun e w' => e = .returned (.int .i64 64) ∧ w' = w := by
  go_enter Tryd.func37, Tryd.ntmps37
  go_wp2
  go_ret
  exact ⟨rfl, rfl⟩
theorem tz64_calls (x : Nat) (hx : x < 18446744073709551616) (w : World) (hT : TabG w) :
    Calls Tryd.prog 37 #[.int .u64 x] w fun e w' => e = .returned (.int .i64 (Lib.ctz 64 x)) ∧ w' = w := by
  by_cases hx0 : x = 0
  · subst hx0
    exact tz64_zero w
  · obtain ⟨hlow, hk⟩ := Lib.lowest_bit 64 x hx0 hx
    obtain ⟨hi, htab⟩ := Lib.deBruijn64_at _ hk
    have hcell := hT _ hi
    rw [htab] at hcell
    exact tz64_core x _ _ w (by simp; omega) (tz64_key x _ hx hx0 hlow) hi hcell hk
theorem tz_calls (x : Nat) (hx : x < 18446744073709551616) (w : World) (hT : TabG w) :
    Calls Tryd.prog 32 #[.int .u64 x] w fun e w' => e = .returned (.int .i64 (Lib.ctz 64 x)) ∧ w' = w := by
  have c64 := Lib.hid (tz64_calls x hx w hT)
  have hw : IntKind.u64.wrap (x : Int) = (x : Int) := by rw [IntKind.wrap_u64]; omega
  clear hT
  go_enter Tryd.func32, Tryd.ntmps32
  go_wp2_with (go_at_call 37; refine c64.out.mono ?_; rintro e w' ⟨rfl, rfl⟩)
  go_ret
  exact ⟨rfl, rfl⟩
theorem xor_max (x : Nat) (hx : x < 18446744073709551616) : bits .xor .u64 18446744073709551615 (x : Int) = ((18446744073709551615 - x : Nat) : Int) := by
  have h := bits_xor_u64_nat 18446744073709551615 x (by omega) hx
  have e : 18446744073709551615 ^^^ x = 18446744073709551615 - x := by
    apply Nat.eq_of_testBit_eq
    intro i
    have h1 : (18446744073709551615 : Nat).testBit i = decide (i < 64) := by
      rw [show (18446744073709551615 : Nat) = 2 ^ 64 - 1 by decide]; exact Nat.testBit_two_pow_sub_one 64 i
    rw [Nat.testBit_xor, h1, show 18446744073709551615 - x = 2 ^ 64 - (x + 1) by omega, Nat.testBit_two_pow_sub_succ (by omega)]
    by_cases hi : i < 64
    · simp [hi]
    · simp only [hi, decide_false, Bool.false_and]
      rw [Nat.testBit_lt_two_pow (Nat.lt_of_lt_of_le (show x < 2 ^ 64 by omega) (Nat.pow_le_pow_right (by decide) (by omega)))]
      rfl
  rw [e] at h
  exact h

/-! ### heap_Level: function 13 -/
/-- The level of a place: how many ones stand at its end. -/
def lev (x : Int) : Int := if x < 0 then 0 else Lib.ctz 64 (18446744073709551615 - (x % 18446744073709551616).toNat)
def heap_Level.f (a0 : Int) : Option (Int) := some (lev a0)
set_option maxHeartbeats 1000000 in
theorem heap_Level.calls (a0 : Int) (r : Int) (w : World) (hrG : TabG w) (h : heap_Level.f a0 = some r) :
    Calls Tryd.prog 13 #[.int .i64 a0] w fun e w' => e = .returned (.int .i64 r) ∧ Drawn0 w w' := by
  obtain rfl := Option.some.inj h
  clear h
  unfold lev
  by_cases h0 : a0 < 0
  · rw [if_pos h0]
    have hb : decide (a0 < 0) = true := by simpa using h0
    clear h0 hrG
    go_enter Tryd.func13, Tryd.ntmps13
    go_wp2
    go_ret
    exact ⟨rfl, Drawn0.refl _⟩
  · rw [if_neg h0]
    have hb : decide (a0 < 0) = false := by simpa using h0
    obtain ⟨x, hx⟩ : ∃ x : Nat, a0 % 18446744073709551616 = x := ⟨(a0 % 18446744073709551616).toNat, by omega⟩
    have hlt : x < 18446744073709551616 := by omega
    have hw : IntKind.u64.wrap a0 = (x : Int) := by rw [IntKind.wrap_u64]; exact hx
    rw [hx, Int.toNat_natCast]
    have hxor : bits .xor .u64 IntKind.u64.max (x : Int) = ((18446744073709551615 - x : Nat) : Int) := xor_max x hlt
    have hsg : IntKind.u64.signed = false := rfl
    have hc := Lib.hid (tz_calls (18446744073709551615 - x) (by omega) w hrG)
    clear h0 hrG hx hlt
    go_enter Tryd.func13, Tryd.ntmps13
    go_wp2_with (go_at_call 32; refine hc.out.mono ?_; rintro e w' ⟨rfl, rfl⟩)
    go_ret
    exact ⟨rfl, Drawn0.refl _⟩

/-! ### heap_Parent: function 18 -/
def heap_Parent.f (a0 : Int) (a1 : Int) : Option (Int × Int) := (heap_in.f a0 a1).bind fun t147 => (if t147 = true then (if a0 = (wrap64 (a1 - 1)) then (some (0, 30)) else ((heap_Level.f a0).bind fun t148 => (if 0 ≤ t148 then (if 0 ≤ (wrap64 (t148 + 1)) then (some (Go.bits .andNot .i64 (Go.bits .or .i64 a0 (shl .i64 1 t148)) (shl .i64 1 (wrap64 (t148 + 1))), 0)) else (none)) else (none)))) else (some (0, 30)))
set_option maxHeartbeats 8000000 in
set_option maxRecDepth 100000 in
theorem heap_Parent.calls (a0 : Int) (a1 : Int) (r1 : Int) (r2 : Int) (w : World) (hrG : TabG w) (h : heap_Parent.f a0 a1 = some (r1, r2)) :
    Calls Tryd.prog 18 #[.int .i64 a0, .int .i64 a1] w fun e w' => e = .returned (.tuple #[.int .i64 r1, .int .i64 r2]) ∧ Drawn0 w w' := by
  have HRG := Aside0.mk hrG
  clear hrG
  have H : ((heap_in.f a0 a1).bind fun t147 => (if t147 = true then (if a0 = (wrap64 (a1 - 1)) then (some (0, 30)) else ((heap_Level.f a0).bind fun t148 => (if 0 ≤ t148 then (if 0 ≤ (wrap64 (t148 + 1)) then (some (Go.bits .andNot .i64 (Go.bits .or .i64 a0 (shl .i64 1 t148)) (shl .i64 1 (wrap64 (t148 + 1))), 0)) else (none)) else (none)))) else (some (0, 30)))) = some (r1, r2) := h
  clear h
  replace H := Option.bind_eq_some_iff.mp H
  obtain ⟨t147, A30, H⟩ := H
  replace H : (if t147 = true then (if a0 = (wrap64 (a1 - 1)) then (some (0, 30)) else ((heap_Level.f a0).bind fun t148 => (if 0 ≤ t148 then (if 0 ≤ (wrap64 (t148 + 1)) then (some (Go.bits .andNot .i64 (Go.bits .or .i64 a0 (shl .i64 1 t148)) (shl .i64 1 (wrap64 (t148 + 1))), 0)) else (none)) else (none)))) else (some (0, 30))) = some (r1, r2) := H
  have A3 := Aside0.mk A30
  clear A30
  by_cases c4 : t147 = true
  · subst c4
    have H1 : (if a0 = (wrap64 (a1 - 1)) then (some (0, 30)) else ((heap_Level.f a0).bind fun t148 => (if 0 ≤ t148 then (if 0 ≤ (wrap64 (t148 + 1)) then (some (Go.bits .andNot .i64 (Go.bits .or .i64 a0 (shl .i64 1 t148)) (shl .i64 1 (wrap64 (t148 + 1))), 0)) else (none)) else (none)))) = some (r1, r2) := by rw [if_pos rfl] at H; exact H
    clear H
    have H := H1
    clear H1
    by_cases c5 : a0 = (wrap64 (a1 - 1))
    · rw [if_pos c5] at H
      have c5b0 : (a0 == (wrap64 (a1 - 1))) = true := beq_iff_eq.mpr c5
      have c5b1 : (a0 != (wrap64 (a1 - 1))) = false := bne_eq_false_iff_eq.mpr c5
      clear c5
      simp only [Option.some.injEq, Prod.mk.injEq] at H
      obtain ⟨rfl, rfl⟩ := H
      go_enter Tryd.func18, Tryd.ntmps18
      go_wp2_with (first | (go_at_call 30; (with_reducible refine (heap_in.calls a0 a1 true _ A3.out).mono ?_); rintro e w' ⟨rfl, ⟨nd, rfl⟩⟩; (try first | exact ⟨rfl, _, World.drewN_drewN _ _ _⟩ | exact ⟨rfl, _, Eq.trans (World.drewN_drewN _ _ _) (congrArg (World.drewN _) (Nat.add_assoc _ _ _))⟩)))
      repeat (go_quiet (first | (go_at_call 30; (with_reducible refine (heap_in.calls a0 a1 true _ A3.out).mono ?_); rintro e w' ⟨rfl, ⟨nd, rfl⟩⟩; (try first | exact ⟨rfl, _, World.drewN_drewN _ _ _⟩ | exact ⟨rfl, _, Eq.trans (World.drewN_drewN _ _ _) (congrArg (World.drewN _) (Nat.add_assoc _ _ _))⟩))); try go_wp2_with (first | (go_at_call 30; (with_reducible refine (heap_in.calls a0 a1 true _ A3.out).mono ?_); rintro e w' ⟨rfl, ⟨nd, rfl⟩⟩; (try first | exact ⟨rfl, _, World.drewN_drewN _ _ _⟩ | exact ⟨rfl, _, Eq.trans (World.drewN_drewN _ _ _) (congrArg (World.drewN _) (Nat.add_assoc _ _ _))⟩))))
      go_ret2
      exact ⟨by first | rfl | (simp; done) | (simp [*]; done), by repeat (first | exact Drawn0.refl _ | apply Drawn0.step)⟩
    · rw [if_neg c5] at H
      have c5b0 : (a0 == (wrap64 (a1 - 1))) = false := beq_eq_false_iff_ne.mpr c5
      have c5b1 : (a0 != (wrap64 (a1 - 1))) = true := bne_iff_ne.mpr c5
      replace H := Option.bind_eq_some_iff.mp H
      obtain ⟨t148, A60, H⟩ := H
      replace H : (if 0 ≤ t148 then (if 0 ≤ (wrap64 (t148 + 1)) then (some (Go.bits .andNot .i64 (Go.bits .or .i64 a0 (shl .i64 1 t148)) (shl .i64 1 (wrap64 (t148 + 1))), 0)) else (none)) else (none)) = some (r1, r2) := H
      have A6 := Aside0.mk A60
      clear A60
      by_cases c7 : 0 ≤ t148
      · rw [if_pos c7] at H
        have c7b0 := eq_true c7
        have c7b1 : decide (0 ≤ t148) = true := decide_eq_true c7
        clear c7
        obtain ⟨ji8, hji8⟩ : ∃ j_ : Int, (shl .i64 1 t148) = j_ := ⟨_, rfl⟩
        replace H : (if 0 ≤ (wrap64 (t148 + 1)) then (some (Go.bits .andNot .i64 (Go.bits .or .i64 a0 (ji8)) (shl .i64 1 (wrap64 (t148 + 1))), 0)) else (none)) = some (r1, r2) := by first | (rw [hji8] at H; exact H) | (simp only [hji8] at H ⊢; exact H)
        (try rw [hji8] at A3)
        (try rw [hji8] at A6)
        have hji8_ : (IntKind.i64.wrap (1 * 2 ^ min t148.toNat 64)) = ji8 := hji8
        have hji8z : t148 ≤ 64 → (IntKind.i64.wrap (1 * 2 ^ t148.toNat)) = ji8 := shl_small hji8
        have hji8u : (IntKind.i64.wrap (2 ^ min t148.toNat 64)) = ji8 := by have h_ := hji8_; rw [Int.one_mul] at h_; exact h_
        have hji8v : t148 ≤ 64 → (IntKind.i64.wrap (2 ^ t148.toNat)) = ji8 := fun hle_ => by have h_ := hji8z hle_; rw [Int.one_mul] at h_; exact h_
        have hji8y : (wrap64 (1 * 2 ^ min t148.toNat 64)) = ji8 := (i64_w _).symm.trans hji8_
        have hji8x : t148 ≤ 64 → (wrap64 (1 * 2 ^ t148.toNat)) = ji8 := fun h_ => (i64_w _).symm.trans (hji8z h_)
        obtain ⟨ji9, hji9⟩ : ∃ j_ : Int, (wrap64 (t148 + 1)) = j_ := ⟨_, rfl⟩
        replace H : (if 0 ≤ (ji9) then (some (Go.bits .andNot .i64 (Go.bits .or .i64 a0 (ji8)) (shl .i64 1 (ji9)), 0)) else (none)) = some (r1, r2) := by first | (rw [hji9] at H; exact H) | (simp only [hji9] at H ⊢; exact H)
        (try rw [hji9] at A3)
        (try rw [hji9] at A6)
        have hji9w : (IntKind.i64.wrap (t148 + 1)) = ji9 := (i64_w _).trans hji9
        by_cases c10 : 0 ≤ (ji9)
        · rw [if_pos c10] at H
          have c10b0 := eq_true c10
          have c10b1 : decide (0 ≤ (ji9)) = true := decide_eq_true c10
          clear c10
          obtain ⟨ji11, hji11⟩ : ∃ j_ : Int, (shl .i64 1 (ji9)) = j_ := ⟨_, rfl⟩
          replace H : (some (Go.bits .andNot .i64 (Go.bits .or .i64 a0 (ji8)) (ji11), 0)) = some (r1, r2) := by first | (rw [hji11] at H; exact H) | (simp only [hji11] at H ⊢; exact H)
          (try rw [hji11] at A3)
          (try rw [hji11] at A6)
          have hji11_ : (IntKind.i64.wrap (1 * 2 ^ min (ji9).toNat 64)) = ji11 := hji11
          have hji11z : (ji9) ≤ 64 → (IntKind.i64.wrap (1 * 2 ^ (ji9).toNat)) = ji11 := shl_small hji11
          have hji11u : (IntKind.i64.wrap (2 ^ min (ji9).toNat 64)) = ji11 := by have h_ := hji11_; rw [Int.one_mul] at h_; exact h_
          have hji11v : (ji9) ≤ 64 → (IntKind.i64.wrap (2 ^ (ji9).toNat)) = ji11 := fun hle_ => by have h_ := hji11z hle_; rw [Int.one_mul] at h_; exact h_
          have hji11y : (wrap64 (1 * 2 ^ min (ji9).toNat 64)) = ji11 := (i64_w _).symm.trans hji11_
          have hji11x : (ji9) ≤ 64 → (wrap64 (1 * 2 ^ (ji9).toNat)) = ji11 := fun h_ => (i64_w _).symm.trans (hji11z h_)
          simp only [Option.some.injEq, Prod.mk.injEq] at H
          obtain ⟨rfl, rfl⟩ := H
          go_enter Tryd.func18, Tryd.ntmps18
          go_wp2_with (first | (go_at_call 30; (with_reducible refine (heap_in.calls a0 a1 true _ A3.out).mono ?_); rintro e w' ⟨rfl, ⟨nd, rfl⟩⟩; (try first | exact ⟨rfl, _, World.drewN_drewN _ _ _⟩ | exact ⟨rfl, _, Eq.trans (World.drewN_drewN _ _ _) (congrArg (World.drewN _) (Nat.add_assoc _ _ _))⟩)) | (go_at_call 13; (with_reducible refine (heap_Level.calls (hrG := ?sideG) a0 t148 _ A6.out).mono ?_); (case sideG => (first | exact HRG.out | exact TabG.below HRG.out (by repeat (first | (with_reducible first | exact HB.out | apply below_alloc | apply pw_below_drewN | apply below_drew1) | exact HB.out | exact Below.refl _ _)))); rintro e w' ⟨rfl, ⟨nd, rfl⟩⟩; (try first | exact ⟨rfl, _, World.drewN_drewN _ _ _⟩ | exact ⟨rfl, _, Eq.trans (World.drewN_drewN _ _ _) (congrArg (World.drewN _) (Nat.add_assoc _ _ _))⟩)))
          repeat (go_quiet (first | (go_at_call 30; (with_reducible refine (heap_in.calls a0 a1 true _ A3.out).mono ?_); rintro e w' ⟨rfl, ⟨nd, rfl⟩⟩; (try first | exact ⟨rfl, _, World.drewN_drewN _ _ _⟩ | exact ⟨rfl, _, Eq.trans (World.drewN_drewN _ _ _) (congrArg (World.drewN _) (Nat.add_assoc _ _ _))⟩)) | (go_at_call 13; (with_reducible refine (heap_Level.calls (hrG := ?sideG) a0 t148 _ A6.out).mono ?_); (case sideG => (first | exact HRG.out | exact TabG.below HRG.out (by repeat (first | (with_reducible first | exact HB.out | apply below_alloc | apply pw_below_drewN | apply below_drew1) | exact HB.out | exact Below.refl _ _)))); rintro e w' ⟨rfl, ⟨nd, rfl⟩⟩; (try first | exact ⟨rfl, _, World.drewN_drewN _ _ _⟩ | exact ⟨rfl, _, Eq.trans (World.drewN_drewN _ _ _) (congrArg (World.drewN _) (Nat.add_assoc _ _ _))⟩))); try go_wp2_with (first | (go_at_call 30; (with_reducible refine (heap_in.calls a0 a1 true _ A3.out).mono ?_); rintro e w' ⟨rfl, ⟨nd, rfl⟩⟩; (try first | exact ⟨rfl, _, World.drewN_drewN _ _ _⟩ | exact ⟨rfl, _, Eq.trans (World.drewN_drewN _ _ _) (congrArg (World.drewN _) (Nat.add_assoc _ _ _))⟩)) | (go_at_call 13; (with_reducible refine (heap_Level.calls (hrG := ?sideG) a0 t148 _ A6.out).mono ?_); (case sideG => (first | exact HRG.out | exact TabG.below HRG.out (by repeat (first | (with_reducible first | exact HB.out | apply below_alloc | apply pw_below_drewN | apply below_drew1) | exact HB.out | exact Below.refl _ _)))); rintro e w' ⟨rfl, ⟨nd, rfl⟩⟩; (try first | exact ⟨rfl, _, World.drewN_drewN _ _ _⟩ | exact ⟨rfl, _, Eq.trans (World.drewN_drewN _ _ _) (congrArg (World.drewN _) (Nat.add_assoc _ _ _))⟩))))
          go_ret2
          exact ⟨by first | rfl | (simp; done) | (simp only [← hji8, ← hji9, ← hji11] <;> (first | rfl | simp)) | (simp [*]; done), by repeat (first | exact Drawn0.refl _ | apply Drawn0.step)⟩
        · rw [if_neg c10] at H
          exact absurd H (by simp)
      · rw [if_neg c7] at H
        exact absurd H (by simp)
  · replace c4 := Bool.eq_false_iff.mpr c4
    subst c4
    have H1 : (some (0, 30)) = some (r1, r2) := by rw [if_neg (show ¬ (false = true) by decide)] at H; exact H
    clear H
    have H := H1
    clear H1
    simp only [Option.some.injEq, Prod.mk.injEq] at H
    obtain ⟨rfl, rfl⟩ := H
    go_enter Tryd.func18, Tryd.ntmps18
    go_wp2_with (first | (go_at_call 30; (with_reducible refine (heap_in.calls a0 a1 false _ A3.out).mono ?_); rintro e w' ⟨rfl, ⟨nd, rfl⟩⟩; (try first | exact ⟨rfl, _, World.drewN_drewN _ _ _⟩ | exact ⟨rfl, _, Eq.trans (World.drewN_drewN _ _ _) (congrArg (World.drewN _) (Nat.add_assoc _ _ _))⟩)))
    repeat (go_quiet (first | (go_at_call 30; (with_reducible refine (heap_in.calls a0 a1 false _ A3.out).mono ?_); rintro e w' ⟨rfl, ⟨nd, rfl⟩⟩; (try first | exact ⟨rfl, _, World.drewN_drewN _ _ _⟩ | exact ⟨rfl, _, Eq.trans (World.drewN_drewN _ _ _) (congrArg (World.drewN _) (Nat.add_assoc _ _ _))⟩))); try go_wp2_with (first | (go_at_call 30; (with_reducible refine (heap_in.calls a0 a1 false _ A3.out).mono ?_); rintro e w' ⟨rfl, ⟨nd, rfl⟩⟩; (try first | exact ⟨rfl, _, World.drewN_drewN _ _ _⟩ | exact ⟨rfl, _, Eq.trans (World.drewN_drewN _ _ _) (congrArg (World.drewN _) (Nat.add_assoc _ _ _))⟩))))
    go_ret2
    exact ⟨by first | rfl | (simp; done) | (simp [*]; done), by repeat (first | exact Drawn0.refl _ | apply Drawn0.step)⟩

/-! ### upF: lib -/
/-- The steps up from a place: of each the place and its parent. -/
def upF : Nat → Int → Int → Option (List (Int × Int))
  | 0, _, _ => none
  | k + 1, x, n => (heap_Parent.f x n).bind fun p => if p.2 = 0 then (upF k p.1 n).map ((x, p.1) :: ·) else some []
theorem upF_mono : ∀ (k : Nat) (x n : Int) (r : List (Int × Int)), upF k x n = some r → upF (k + 1) x n = some r
  | 0, _, _, _, h => by simp [upF] at h
  | k + 1, x, n, r, h => by
    unfold upF at h ⊢
    obtain ⟨p, hp, h⟩ := Option.bind_eq_some_iff.1 h
    rw [hp, Option.bind_some]
    by_cases h0 : p.2 = 0
    · rw [if_pos h0] at h ⊢
      obtain ⟨l, hl, rfl⟩ := Option.map_eq_some_iff.1 h
      rw [upF_mono k _ _ _ hl]; rfl
    · rw [if_neg h0] at h ⊢; exact h
theorem upF_cons {k : Nat} {x n : Int} {s : Int × Int} {r : List (Int × Int)} (h : upF (k + 1) x n = some (s :: r)) : ∃ p, s = (x, p) ∧ heap_Parent.f x n = some (p, 0) ∧ upF (k + 1) p n = some r := by
  unfold upF at h
  obtain ⟨⟨p, e⟩, hp, h⟩ := Option.bind_eq_some_iff.1 h
  by_cases h0 : e = 0
  · rw [if_pos h0] at h
    obtain ⟨l, hl, hc⟩ := Option.map_eq_some_iff.1 h
    obtain ⟨rfl, rfl⟩ := List.cons.inj hc
    subst h0
    exact ⟨p, rfl, hp, upF_mono _ _ _ _ hl⟩
  · rw [if_neg h0] at h; cases h
theorem upF_nil {k : Nat} {x n : Int} (h : upF (k + 1) x n = some []) : ∃ p e, heap_Parent.f x n = some (p, e) ∧ e ≠ 0 := by
  unfold upF at h
  obtain ⟨⟨p, e⟩, hp, h⟩ := Option.bind_eq_some_iff.1 h
  by_cases h0 : e = 0
  · rw [if_pos h0] at h
    obtain ⟨l, hl, hc⟩ := Option.map_eq_some_iff.1 h
    cases hc
  · exact ⟨p, e, hp, h0⟩
theorem upF_le : ∀ (k : Nat) (x n : Int) (r : List (Int × Int)), upF k x n = some r → r.length < k
  | 0, _, _, _, h => by simp [upF] at h
  | k + 1, x, n, r, h => by
    unfold upF at h
    obtain ⟨p, hp, h⟩ := Option.bind_eq_some_iff.1 h
    by_cases h0 : p.2 = 0
    · rw [if_pos h0] at h
      obtain ⟨l, hl, rfl⟩ := Option.map_eq_some_iff.1 h
      have := upF_le k _ _ _ hl
      simp; omega
    · rw [if_neg h0] at h
      obtain rfl := Option.some.inj h
      simp
def leftAt (n : Int) (A : Addr) (w : World) : Nat := match w.cell? A with
  | some (.int _ x) => ((upF 8 x n).getD []).length
  | _ => 0
theorem leftAt_eq {n : Int} {A : Addr} {w : World} {x : Int} {r : List (Int × Int)} (h : w.cell? A = some (.int .i64 x)) (hu : upF 8 x n = some r) : leftAt n A w = r.length := by
  simp [leftAt, h, hu]
theorem drewN_stable {J : World → Prop} (h : ∀ W, J W → J W.drew) : ∀ (m : Nat) (W : World), J W → J (W.drewN m)
  | 0, _, hJ => hJ
  | m + 1, W, hJ => by
    have e : W.drewN (m + 1) = (W.drewN m).drew := by simp [World.drewN, World.drew, Nat.add_assoc]
    rw [e]; exact h _ (drewN_stable h m W hJ)

/-- What a round keeps: all that lay when the loop began, but for the caller's own variable. -/
structure RoundKeeps (n₀ Bo : Nat) (W W' : World) : Prop where
  size : W.heap.size ≤ W'.heap.size
  block : ∀ k, k < n₀ → k ≠ Bo → W'.heap[k]? = W.heap[k]?
theorem RoundKeeps.trans {n₀ Bo : Nat} {A B C : World} (h : RoundKeeps n₀ Bo A B) (k : RoundKeeps n₀ Bo B C) : RoundKeeps n₀ Bo A C :=
  ⟨Nat.le_trans h.size k.size, fun i hi hn => (k.block i hi hn).trans (h.block i hi hn)⟩

/-! ### walk_yields: lib -/
section
open Go.Shelf
attribute [local go_sem] Oper.semAt_some
set_option maxRecDepth 100000 in
set_option maxHeartbeats 2000000 in
theorem walk_yields (n₀ Bo Bx Bn : Nat) (x n : Int) (steps : List (Int × Int)) (w : World) (hx : Bx < n₀) (hn : Bn < n₀) (hxo : Bx ≠ Bo) (hno : Bn ≠ Bo) (hxn : Bx ≠ Bn) (hgo : 1 ≠ Bo) (hgx : 1 ≠ Bx) (hgn : 1 < n₀) (hn₀ : n₀ ≤ w.heap.size)
    (cx : w.heap[Bx]? = some (.cells #[.int .i64 x] 3 (0, 0))) (cn : w.heap[Bn]? = some (.cells #[.int .i64 n] 3 (0, 0))) (hT : TabG w) (hs : upF 8 x n = some steps) :
    Yields Fence.wide 99 Tryd.prog 35 #[.pointer (some ⟨Bx, 0, none⟩), .pointer (some ⟨Bn, 0, none⟩)] (fun s : Int × Int => #[Value.int .i64 s.1, Value.int .i64 s.2]) ⟨Bx, 0, none⟩ (RoundKeeps n₀ Bo) steps w := by
  intro l J W hW hJs hJd hJa hY h0
  have wx : W.heap[Bx]? = some (.cells #[.int .i64 x] 3 (0, 0)) := (hW.block _ (by omega)).trans cx
  have wn : W.heap[Bn]? = some (.cells #[.int .i64 n] 3 (0, 0)) := (hW.block _ (by omega)).trans cn
  have wT : TabG W := hT.below hW
  have hsz : n₀ ≤ W.heap.size := Nat.le_trans hn₀ hW.size
  clear hW cx cn hT
  refine callsIn_of_wp Tryd.func35 rfl trivial ?_ rfl
  simp only [Tryd.ntmps35, List.size_toArray, List.length_cons, List.length_nil, Nat.reduceAdd, Nat.reduceSub, Array.replicate_succ, Array.replicate_zero, List.push_toArray, List.append_toArray, List.nil_append, List.cons_append]
  gi_wp2
  gi_loopw [4] (fun v wr => ∃ (pre rest : List (Int × Int)) (xc : Int), steps = pre ++ rest ∧ wr.heap[Bx]? = some (.cells #[.int .i64 xc] 3 (0, 0)) ∧ wr.heap[Bn]? = some (.cells #[.int .i64 n] 3 (0, 0)) ∧ TabG wr ∧ n₀ ≤ wr.heap.size ∧ upF 8 xc n = some rest ∧ J pre wr)
    (fun v wr => leftAt n ⟨Bx, 0, none⟩ wr)
  case atStart => exact ⟨[], steps, x, rfl, wx, wn, wT, hsz, hs, h0⟩
  case round =>
    have Wx := Lib.hid wx; have Wn := Lib.hid wn; have WT := Lib.hid wT; have HS := Lib.hid hs; have HYY := Lib.hid hY; have H0 := Lib.hid h0
    have HJs := Lib.hid hJs; have HJd := Lib.hid hJd
    clear wx wn wT hs hY h0 hJs hJd hJa
    obtain ⟨pre, rest, xc, hst, rx, rn, rT, rsz, ru, rJ⟩ := hrel
    have c0 : wr.cell? ⟨Bx, 0, none⟩ = some (.int .i64 xc) := by simp [World.cell?, rx]
    have c1 : wr.cell? ⟨Bn, 0, none⟩ = some (.int .i64 n) := by simp [World.cell?, rn]
    have HST := Lib.hid hst; have RX := Lib.hid rx; have RN := Lib.hid rn; have RT := Lib.hid rT; have RU := Lib.hid ru; have RJ := Lib.hid rJ
    clear hst rx rn rT ru rJ
    cases rest with
    | nil =>
      obtain ⟨p, e, hp, he⟩ := upF_nil RU.out
      have hcall := Lib.hid (heap_Parent.calls xc n p e wr RT.out hp)
      have he1 : (e != 0) = true := by simpa using he
      have he2 : (e == 0) = false := by simpa using he
      clear hp he
      gi_wp2_with (refine ⟨trivial, ?_⟩; gi_at_call 18; refine (callsIn_wide.2 hcall.out).mono ?_; rintro e1 w1 ⟨rfl, ⟨m, rfl⟩⟩)
      refine ⟨fun _ h => (by cases h), ?_⟩
      gi_wp2
      refine bodyPost_ret (results_none rfl _ _ _) rfl ?_
      exact ⟨⟨_, rfl⟩, by rw [HST.out, List.append_nil]; exact drewN_stable (HJd.out pre) m _ RJ.out⟩
    | cons s rest =>
      obtain ⟨p, rfl, hp, hu⟩ := upF_cons RU.out
      have hcall := Lib.hid (heap_Parent.calls xc n p 0 wr RT.out hp)
      have HU := Lib.hid hu
      clear hp hu
      gi_wp2_with (refine ⟨trivial, ?_⟩; gi_at_call 18; refine (callsIn_wide.2 hcall.out).mono ?_; rintro e1 w1 ⟨rfl, ⟨m, rfl⟩⟩; obtain ⟨fn, tmps, assign, body, hy, hR⟩ := HYY.out pre (xc, p) (wr.drewN m) (drewN_stable (HJd.out pre) m wr RJ.out) ⟨rest, by rw [HST.out]; simp⟩; dsimp only at hy; have HR := Lib.hid hR; clear hR)
      gi_wp2
      refine (HR.out).mono ?_
      rintro e2 W3 ⟨rfl, hJ3, hk3⟩
      have x3 : W3.heap[Bx]? = some (.cells #[.int .i64 xc] 3 (0, 0)) := (hk3.block Bx hx hxo).trans RX.out
      have n3 : W3.heap[Bn]? = some (.cells #[.int .i64 n] 3 (0, 0)) := (hk3.block Bn hn hno).trans RN.out
      have t3 : TabG W3 := RT.out.heap (hk3.block _ hgn hgo)
      have s3 : n₀ ≤ W3.heap.size := Nat.le_trans rsz hk3.size
      have d0 : W3.cell? ⟨Bx, 0, none⟩ = some (.int .i64 xc) := by simp [World.cell?, x3]
      have d1 : W3.frozen? ⟨Bx, 0, none⟩ = false := by simp [World.frozen?, x3]
      have X3 := Lib.hid x3; have N3 := Lib.hid n3; have T3 := Lib.hid t3; have J3 := Lib.hid hJ3
      clear x3 n3 t3 hJ3 hy HR hk3
      gi_wp2
      have X4 : (W3.setCell ⟨Bx, 0, none⟩ (.int .i64 p)).heap[Bx]? = some (.cells #[.int .i64 p] 3 (0, 0)) := by
        have hlt : Bx < W3.heap.size := (Array.getElem?_eq_some_iff.1 X3.out).1
        simp [World.setCell, Array.getElem?_modify, X3.out]
      have ne4 : ∀ k, k ≠ Bx → (W3.setCell ⟨Bx, 0, none⟩ (.int .i64 p)).heap[k]? = W3.heap[k]? := fun k hk => Below.heap_setCell W3 ⟨Bx, 0, none⟩ (.int .i64 p) k hk
      go_roundw
      case rel => exact ⟨pre ++ [(xc, p)], rest, p, by rw [HST.out]; simp, X4, (ne4 _ (Ne.symm hxn)).trans N3.out, T3.out.heap (ne4 _ hgx), by simpa using s3, HU.out, HJs.out _ _ _ J3.out⟩
      case measure =>
        rw [leftAt_eq (x := p) (by simp [World.cell?, X4]) HU.out, leftAt_eq c0 RU.out]
        simp

theorem walk_calls (x n : Int) (w : World) : Calls Tryd.prog 31 #[.int .i64 x, .int .i64 n] w fun e w' =>
    e = .returned (.func (.func 35) #[] #[.pointer (some ⟨w.heap.size, 0, none⟩), .pointer (some ⟨w.heap.size + 1, 0, none⟩)]) ∧ w' = (w.alloc (.cells #[.int .i64 x] 3)).alloc (.cells #[.int .i64 n] 3) := by
  go_enter Tryd.func31, Tryd.ntmps31
  go_wp2
  go_ret
  exact ⟨by simp, rfl⟩


theorem infoInt3 : (Tryd.prog.info? 3).map (fun i => (i.zero, i.size, i.bytes)) = some (some (.int .i64 0), 1, 8) := by kernel_rfl

/-- What holds between two rounds: the caller's variable holds a row of the call's own. -/
structure Coll (w : World) (n₀ Bo Bx : Nat) (xs : List Int) (W : World) : Prop where
  row : ∃ v, W.heap[Bo]? = some (.cells #[v] 23 (0, 0)) ∧ W.ownsRow n₀ 3 1 v xs.length (xs.map (Value.int .i64))
  below : Below w.heap.size w W
  size : n₀ ≤ W.heap.size

theorem Coll.own {α : Type} {w : World} {n₀ Bo Bx : Nat} (hw : w.heap.size ≤ n₀) (hBo : Bo < n₀) (f : List α → List Int) : OwnFrom n₀ (fun (pre : List α) W => Coll w n₀ Bo Bx (f pre) W) := by
  rintro s W W' row ⟨⟨v, h1, h2⟩, h3, h4⟩ hg hr
  refine ⟨⟨v, ?_, h2.kept hg ?_⟩, h3.grown hg h3.size (fun k e => Nat.le_trans hw (hr k e).1), Nat.le_trans h4 hg.size⟩
  · rw [hg.block Bo (Nat.lt_of_lt_of_le hBo h4) (fun e => by have := (hr Bo e.symm).1; omega)]; exact h1
  · cases hb : v.ownBlock with
    | none => exact .inl rfl
    | some g =>
      right
      intro e
      obtain ⟨_, o, ho, hc⟩ := hr g e.symm
      obtain ⟨cells, hcells⟩ := own_typed h2 g hb
      rw [ho] at hcells
      cases hcells
      simp [Obj.isCells] at hc

theorem Coll.set {w : World} {n₀ Bo Bx : Nat} (hw : w.heap.size ≤ Bx) (hBx : Bx < n₀) (hne : Bo ≠ Bx) {xs : List Int} {W : World} (v : Value) (h : Coll w n₀ Bo Bx xs W) : Coll w n₀ Bo Bx xs (W.setCell ⟨Bx, 0, none⟩ v) := by
  obtain ⟨⟨u, h1, h2⟩, h3, h4⟩ := h
  refine ⟨⟨u, (Below.heap_setCell W ⟨Bx, 0, none⟩ v Bo hne).trans h1, own_setCell h2 (fun e => ?_) v⟩, h3.setCell hw v, by simpa using h4⟩
  have := own_base h2 _ e.symm
  simp at this; omega

theorem Coll.mid {n₀ Bo : Nat} (hBo : Bo < n₀) {xs : List Value} {n : Nat} {o : Obj} {W w1 : World} {v u : Value} (h0 : W.heap[Bo]? = some (.cells #[u] 23 (0, 0))) (hr : W.ownsRow n₀ 3 1 v n xs) (hs : n₀ ≤ W.heap.size)
    (hg : (W.alloc o).grownBy w1 v.ownBlock) : w1.heap[Bo]? = some (.cells #[u] 23 (0, 0)) := by
  rw [hg.block Bo (by simp; omega) (fun e => by have := own_base hr _ e.symm; omega), Below.heap_alloc W _ Bo (by omega)]; exact h0

/-- A round: the new element is put behind the row, the row back into the variable. -/
theorem Coll.round {w : World} {n₀ Bo Bx : Nat} (hw : w.heap.size ≤ Bo) (hBo : Bo < n₀) {xs : List Int} {x : Int} {W w1 : World} {v v' : Value} (h0 : W.heap[Bo]? = some (.cells #[v] 23 (0, 0))) (hr : W.ownsRow n₀ 3 1 v xs.length (xs.map (Value.int .i64)))
    (hb : Below w.heap.size w W) (hs : n₀ ≤ W.heap.size) (hown : w1.ownsRow n₀ 3 1 v' (xs.length + 1) (xs.map (Value.int .i64) ++ [.int .i64 x])) (hg : (W.alloc (.cells #[.int .i64 x] 3)).grownBy w1 v.ownBlock) :
    KeepsOthers W (w1.setCell ⟨Bo, 0, none⟩ v') ∧ RoundKeeps n₀ Bo W (w1.setCell ⟨Bo, 0, none⟩ v') ∧ Coll w n₀ Bo Bx (xs ++ [x]) (w1.setCell ⟨Bo, 0, none⟩ v') := by
  have hvb : ∀ k, v.ownBlock = some k → n₀ ≤ k := fun k e => own_base hr k e
  have hblk : ∀ k, k < n₀ → w1.heap[k]? = W.heap[k]? := fun k hk => by
    rw [hg.block k (by simp; omega) (fun e => by have := hvb k e.symm; omega), Below.heap_alloc W _ k (by omega)]
  have h1 : w1.heap[Bo]? = some (.cells #[v] 23 (0, 0)) := (hblk Bo hBo).trans h0
  have hsz : W.heap.size ≤ w1.heap.size := by have := hg.size; simp at this; omega
  have hB1 : Below w.heap.size w w1 := (below_alloc hb _).grown hg (below_alloc hb _).size (fun k e => by have := hvb k e; omega)
  refine ⟨(KeepsOthers.alloc W _).trans ((KeepsOthers.of_grownBy hg fun j o ej ho => ?_).trans (KeepsOthers.setCell _ _ _)), ⟨by simpa using hsz, fun k hk hn => (Below.heap_setCell w1 ⟨Bo, 0, none⟩ v' k hn).trans (hblk k hk)⟩,
    ⟨v', ?_, ?_⟩, hB1.setCell hw v', by simp; omega⟩
  · obtain ⟨cells, hcells⟩ := own_typed (hr.alloc (.cells #[.int .i64 x] 3)) j ej
    rw [hcells] at ho; cases ho; rfl
  · have hlt : Bo < w1.heap.size := (Array.getElem?_eq_some_iff.1 h1).1
    simp [World.setCell, Array.getElem?_modify, h1]
  · have := own_setCell (p := ⟨Bo, 0, none⟩) hown (fun e => by have := own_base hown _ e.symm; simp at this; omega) v'
    simpa using this

theorem three_allocs (w : World) (a b c : Obj) : (((w.alloc a).alloc b).alloc c).heap[w.heap.size]? = some a ∧ (((w.alloc a).alloc b).alloc c).heap[w.heap.size + 1]? = some b ∧ (((w.alloc a).alloc b).alloc c).heap[w.heap.size + 2]? = some c ∧ (((w.alloc a).alloc b).alloc c).heap.size = w.heap.size + 3 := by
  refine ⟨?_, ?_, ?_, by simp⟩
  · rw [Below.heap_alloc _ _ _ (by simp; omega), Below.heap_alloc _ _ _ (by simp)]; simpa using World.alloc_heap_new w a
  · rw [Below.heap_alloc _ _ _ (by simp)]; simpa using World.alloc_heap_new (w.alloc a) b
  · simpa using World.alloc_heap_new ((w.alloc a).alloc b) c

end

/-! ### heap_Path: function 10 -/
section
open Go.Shelf
attribute [local go_sem] Oper.semAt_some
set_option maxHeartbeats 2000000 in
theorem path_no (a0 a1 : Int) (w : World) (h : heap_in.f a0 a1 = some false) : Calls Tryd.prog 10 #[.int .i64 a0, .int .i64 a1] w fun e w' => e = .returned (.tuple #[.slice none 0 0, .int .i64 30]) ∧ Below w.heap.size w w' := by
  have hc := Lib.hid (heap_in.calls a0 a1 false w h)
  clear h
  go_enter Tryd.func10, Tryd.ntmps10
  go_wp2_with (go_at_call 30; refine hc.out.mono ?_; rintro e w' ⟨rfl, ⟨nd, rfl⟩⟩)
  go_ret2
  exact ⟨rfl, pw_below_drewN (Below.refl _ _) _⟩


set_option maxRecDepth 100000 in
set_option maxHeartbeats 4000000 in
theorem path_yes (a0 a1 : Int) (steps : List (Int × Int)) (w : World) (hT : TabG w) (h : heap_in.f a0 a1 = some true) (hs : upF 8 a0 a1 = some steps) :
    Calls Tryd.prog 10 #[.int .i64 a0, .int .i64 a1] w fun e w' => ∃ v, e = .returned (.tuple #[v, .int .i64 0]) ∧ w'.ownsRow w.heap.size 3 1 v steps.length ((steps.map Prod.snd).map (Value.int .i64)) ∧ Below w.heap.size w w' := by
  have hc := Lib.hid (heap_in.calls a0 a1 true w h)
  have HT := Lib.hid hT
  have HS := Lib.hid hs
  clear h hT hs
  refine (callsIn_wide (n := 100)).1 ?_
  refine callsIn_of_wp_marks Tryd.func10 rfl trivial ?_ rfl
  simp only [Tryd.ntmps10, List.size_toArray, List.length_cons, List.length_nil, Nat.reduceAdd, Nat.reduceSub, Array.replicate_succ, Array.replicate_zero, List.push_toArray, List.append_toArray, List.nil_append, List.cons_append]
  gi_wp2_with (first
    | (refine ⟨trivial, ?_⟩; gi_at_call 30; refine (callsIn_wide.2 hc.out).mono ?_; rintro e w1 ⟨rfl, ⟨nd, rfl⟩⟩)
    | (refine ⟨trivial, ?_⟩; gi_at_call 31; refine (callsIn_wide.2 (walk_calls _ _ _)).mono ?_; rintro e w1 ⟨rfl, rfl⟩))
  have hB0 : Below w.heap.size w ((((w.drewN nd).alloc (.cells #[.slice none 0 0] 23)).alloc (.cells #[.int .i64 a0] 3)).alloc (.cells #[.int .i64 a1] 3)) := below_alloc (below_alloc (below_alloc (pw_below_drewN (Below.refl _ w) nd) _) _) _
  have e4 := three_allocs (w.drewN nd) (.cells #[.slice none 0 0] 23) (.cells #[.int .i64 a0] 3) (.cells #[.int .i64 a1] 3)
  rw [show (w.drewN nd).heap.size = w.heap.size from rfl] at e4
  obtain ⟨e0, e1, e2, e3⟩ := e4
  have hTl := HT.out.lt
  have hT3 := HT.out.below hB0
  generalize (((w.drewN nd).alloc (.cells #[.slice none 0 0] 23)).alloc (.cells #[.int .i64 a0] 3)).alloc (.cells #[.int .i64 a1] 3) = w3 at *
  have HB0 := Lib.hid hB0; have E0 := Lib.hid e0; have HE3 := Lib.hid e3
  have hle := upF_le _ _ _ _ HS.out
  obtain ⟨i0, hi, hz0, hz1, hz2⟩ := info_parts infoInt3
  have HI := Lib.hid (And.intro hi (And.intro hz0 (And.intro hz1 hz2)))
  have hy := walk_yields (w.heap.size + 3) w.heap.size (w.heap.size + 1) (w.heap.size + 2) a0 a1 steps w3 (by omega) (by omega) (by omega) (by omega) (by omega) (by omega) (by omega) (by omega) (by omega) e1 e2 hT3 HS.out
  clear hB0 e0 e1 e2 hT3 hi hz0 hz1 hz2
  refine wpIn_rangeFunc_cell rfl (by decide) (gf := 35) (lb := #[.pointer (some ⟨w.heap.size + 1, 0, none⟩), .pointer (some ⟨w.heap.size + 2, 0, none⟩)]) (by simp [Act.eval]) trivial (enters_of Tryd.func35 (by kernel_rfl) rfl) hy
    RoundKeeps.trans (fun W l o o' hl ho hc => ⟨by simp, fun k hk hn => other_putObj W l k o' (by omega)⟩) (fun _ => rfl)
    (fun (pre : List (Int × Int)) W => Coll w (w.heap.size + 3) w.heap.size (w.heap.size + 1) (pre.map Prod.snd) W) (by rw [e3]; exact Coll.own (by omega) (by omega) _) (fun s W v h => h.set (by omega) (by omega) (by omega) v)
    (fun s W h => ⟨h.row, below_drew h.below, h.size⟩) ⟨⟨_, E0.out, own_nil _ _ _ _⟩, HB0.out, by omega⟩
    (fun s => { tmps := #[.int .i64 a0, .int .i64 a1, undef, undef, .slice none 0 0, .int .i64 0, .pointer (some ⟨w.heap.size, 0, none⟩), undef, .int .i64 s.2, .int .i64 a0, .int .i64 a1, .bool true, .bool false, .int .i64 a0, .int .i64 a1, .func (.func 35) #[] #[.pointer (some ⟨w.heap.size + 1, 0, none⟩), .pointer (some ⟨w.heap.size + 2, 0, none⟩)], .int .i64 s.1, .int .i64 s.2, undef, undef, undef, undef, undef], defers := [] }) ?assign ?body ?done
  case assign =>
    intro l x W K hK
    gi_wp2
    exact hK
  case body =>
    rintro l pre x W ⟨⟨v, h1, h2⟩, h3, h4⟩ hpre
    have hlen : pre.length + 1 < 9 := by
      obtain ⟨t, ht⟩ := hpre
      have := congrArg List.length ht
      simp at this; omega
    have c1 : W.cell? ⟨w.heap.size, 0, none⟩ = some v := by simp [World.cell?, h1]
    have f1 : W.frozen? ⟨w.heap.size, 0, none⟩ = false := by simp [World.frozen?, h1]
    have hsz := h3.size
    have H1 := Lib.hid h1; have H2 := Lib.hid h2; have H3 := Lib.hid h3
    clear h1 h2 h3 hpre
    gi_wp2_with (gi_at_builtin; refine wpListIn_append_own _ rfl _ _ 23 rfl (w.heap.size + 3) 3 i0 (.int .i64 0) 1 8 Tryd.underlying23 HI.out.1 HI.out.2.1 HI.out.2.2.1 HI.out.2.2.2 rfl (by decide) _ _ _ rfl (H2.out.alloc _) ⟨W.heap.size, 0, none⟩ 1 1 [.int .i64 x.2] rfl rfl (cell_one_new _ _ _) (by simp [Value.oneCell']) (by simp; unfold maxLen; omega) (by simp; omega) (by simp; omega) ?_; intro v' w1 hown' hgrow _; obtain ⟨g', cap', rfl⟩ := ownsRow_succ hown'; have hm := Coll.mid (by omega) H1.out H2.out h4 hgrow; have c2 : w1.cell? ⟨w.heap.size, 0, none⟩ = some v := (by simp [World.cell?, hm]); have f2 : w1.frozen? ⟨w.heap.size, 0, none⟩ = false := (by simp [World.frozen?, hm]); have HOW := Lib.hid hown'; have HGR := Lib.hid hgrow; clear hm hown' hgrow)
    have hcr := Coll.round (Nat.le_refl _) (by omega) (Bx := w.heap.size + 1) H1.out H2.out H3.out h4 HOW.out HGR.out
    rw [List.length_map] at hcr
    refine ⟨hcr.1, hcr.2.1, ?_⟩
    show Coll _ _ _ _ (List.map Prod.snd (pre ++ [x])) _
    rw [List.map_append]; exact hcr.2.2
  case done =>
    rintro D W hD ⟨⟨v, h1, h2⟩, h3, h4⟩ hK
    have c1 : W.cell? ⟨w.heap.size, 0, none⟩ = some v := by simp [World.cell?, h1]
    have H1 := Lib.hid h1; have H2 := Lib.hid h2; have H3 := Lib.hid h3; have HK := Lib.hid hK
    clear h1 h2 h3 hK
    gi_wp2
    refine ⟨by simp, .inl ⟨_, _, rfl, run_takeDeferred HK.out, ?_⟩⟩
    have h2 := own_weaken H2.out (base' := w.heap.size) (by omega)
    rw [List.length_map] at h2
    exact ⟨_, by simp [results, Tryd.results10, go_sem], v, rfl, h2.kept (grownBy_putObj' W D _) (by
      cases hb : v.ownBlock with
      | none => exact .inl rfl
      | some g =>
        right
        intro e
        obtain ⟨cells, hcells⟩ := own_typed H2.out g hb
        cases e
        rw [HK.out] at hcells; cases hcells), H3.out.grown (grownBy_putObj' W D _) H3.out.size (fun k e => by cases e; omega)⟩
end
def heap_Path.f (a0 : Int) (a1 : Int) : Option (List Int × Int) := (heap_in.f a0 a1).bind fun t => if t = true then (upF 8 a0 a1).map (fun l => (l.map Prod.snd, 0)) else some ([], 30)
theorem heap_Path.calls (a0 : Int) (a1 : Int) (r1 : List Int) (r2 : Int) (w : World) (hrG : TabG w) (h : heap_Path.f a0 a1 = some (r1, r2)) :
    Calls Tryd.prog 10 #[.int .i64 a0, .int .i64 a1] w fun e w' => ∃ v0_ : Value, e = .returned (.tuple #[v0_, .int .i64 r2]) ∧ Kd.R (Kd.int .i64) 3 w' w.heap.size (fun _ => True) v0_ r1 ∧ Below w.heap.size w w' := by
  unfold heap_Path.f at h
  obtain ⟨b, hb, h⟩ := Option.bind_eq_some_iff.1 h
  cases b with
  | false =>
    simp only [Bool.false_eq_true, if_false, Option.some.injEq, Prod.mk.injEq] at h
    obtain ⟨rfl, rfl⟩ := h
    refine (path_no a0 a1 w hb).mono ?_
    rintro e w' ⟨rfl, hB⟩
    exact ⟨_, rfl, Kd.R_nil _ _ _ _ _, hB⟩
  | true =>
    simp only [if_true] at h
    obtain ⟨steps, hs, h⟩ := Option.map_eq_some_iff.1 h
    simp only [Prod.mk.injEq] at h
    obtain ⟨rfl, rfl⟩ := h
    refine (path_yes a0 a1 steps w hrG hb hs).mono ?_
    rintro e w' ⟨v, rfl, hr, hB⟩
    refine ⟨v, rfl, Kd.R_of_own ?_ (fun _ _ => trivial), hB⟩
    rw [List.length_map]; exact hr

end Go.Proofs.YtmioejkhhcjfpaaDoor.PHe
