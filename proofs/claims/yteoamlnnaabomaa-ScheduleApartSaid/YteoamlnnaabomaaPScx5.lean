-- Written by a program of this session over the translation.
import Derived.Test.YteoamlnnaabomaaPScx0
import Derived.Test.YteoamlnnaabomaaPScx1
import Derived.Test.YteoamlnnaabomaaPScx2
import Derived.Test.YteoamlnnaabomaaPScx3
import Derived.Test.YteoamlnnaabomaaPScx4
namespace Go.Proofs.Yteoamlnnaabomaa.PSc
open Go.RowKit Go.Proofs.YteoamlnnaabomaaW.PrintWords Go.Proofs.YteoamlnnaabomaaW.PrintLast Go.Proofs.YteoamlnnaabomaaW.PrintMore
attribute [local go_sem] max2_int min2_int max_two min_two max_three min_three max_four min_four   -- for this text's walks alone
set_option linter.unusedVariables false
set_option linter.unusedSimpArgs false

/-! ### conclavelaw07_ScheduleApart: its walk -/
set_option maxHeartbeats 8000000 in
set_option maxRecDepth 100000 in
theorem conclavelaw07_ScheduleApart.calls (k : Nat) (A0 : Option Addr) (c0 : Nat) (l0 : List Int) (A1 : Option Addr) (c1 : Nat) (l1 : List Int) (r : Bool) (w : World) (hr0 : Kd.C (Kd.int .i64) w A0 l0.length l0) (hc0 : l0.length ≤ c0) (hr1 : Kd.C (Kd.int .i64) w A1 l1.length l1) (hc1 : l1.length ≤ c1) (h : conclavelaw07_ScheduleApart.f k l0 l1 = some r) :
 Calls Try.prog 3 #[.slice A0 l0.length c0, .slice A1 l1.length c1] w fun e w' => e = .returned (.bool r) ∧ Below w.heap.size w w' := by
 have HR0 := Aside0.mk hr0
 have HC0 := Aside0.mk hc0
 clear hr0 hc0
 have HR1 := Aside0.mk hr1
 have HC1 := Aside0.mk hc1
 clear hr1 hc1
 have HB := Aside0.mk (Below.refl w.heap.size w)
 have H : ((conclavelaw07_anchor.f k).bind fun t178 => (if t178 = true then (if (l0.length : Int) = 4 then (if (l1.length : Int) = 4 then ((conclavelaw07_right.f k l0 9).bind fun t179 => (if t179 = true then ((conclavelaw07_right.f k l1 9).bind fun t180 => (conclavelaw07_ScheduleApart.j0 k l0 l1 (!t180))) else (conclavelaw07_ScheduleApart.j0 k l0 l1 true))) else (conclavelaw07_ScheduleApart.j0 k l0 l1 true)) else (conclavelaw07_ScheduleApart.j0 k l0 l1 true)) else (some false))) = some r := h
 clear h
 replace H := Option.bind_eq_some_iff.mp H
 obtain ⟨t178, A30, H⟩ := H
 replace H : (if t178 = true then (if (l0.length : Int) = 4 then (if (l1.length : Int) = 4 then ((conclavelaw07_right.f k l0 9).bind fun t179 => (if t179 = true then ((conclavelaw07_right.f k l1 9).bind fun t180 => (conclavelaw07_ScheduleApart.j0 k l0 l1 (!t180))) else (conclavelaw07_ScheduleApart.j0 k l0 l1 true))) else (conclavelaw07_ScheduleApart.j0 k l0 l1 true)) else (conclavelaw07_ScheduleApart.j0 k l0 l1 true)) else (some false)) = some r := H
 have A3 := Aside0.mk A30
 clear A30
 by_cases c4 : t178 = true
 ·
  subst c4
  have H1 : (if (l0.length : Int) = 4 then (if (l1.length : Int) = 4 then ((conclavelaw07_right.f k l0 9).bind fun t179 => (if t179 = true then ((conclavelaw07_right.f k l1 9).bind fun t180 => (conclavelaw07_ScheduleApart.j0 k l0 l1 (!t180))) else (conclavelaw07_ScheduleApart.j0 k l0 l1 true))) else (conclavelaw07_ScheduleApart.j0 k l0 l1 true)) else (conclavelaw07_ScheduleApart.j0 k l0 l1 true)) = some r := by rw [if_pos rfl] at H; exact H
  clear H
  have H := H1
  clear H1
  have HC5 := Aside0.mk H
  clear H
  go_enter Try.func3, Try.ntmps3
  go_upto_region 3 with (first | ((with_reducible refine gate_callee (f := 6) rfl ?_); refine goesL_ (some 16) rfl rfl Try.func6 (by kernel_rfl) rfl #[] rfl (by (try simp only [List.map_toArray, List.map_cons, List.map_nil]); first | done | rfl | (simp only [List.length_drop, List.length_take]; rfl)) ?_; (with_reducible refine (conclavelaw07_anchor.calls k  true _ A3.out).mono ?_); rintro e w6 ⟨rfl, hb⟩; refine ⟨_, rfl, ?_⟩; have n0_ := Aside0.mk (below_step (by repeat (first | (with_reducible first | exact HB.out | apply below_alloc | apply pw_below_drewN | apply below_drew1) | exact HB.out)) hb); clear HB; have HB := n0_; clear n0_; (try clear hb); (try clear hb2); (try clear hk); (try clear hi)))
  (try simp only [Act.put, List.setIfInBounds_toArray, List.set_cons_zero, List.set_cons_succ])
  go_cut [35] (fun v35 wc => ∃ (kq : Nat) (x35_4 : Bool), v35 = .bool x35_4 ∧ Aside0 (conclavelaw07_ScheduleApart.j0 kq l0 l1 x35_4 = some r) ∧ Aside0 (kq ≤ k) ∧ Aside0 (Below w.heap.size w wc))
  case first =>
   have H := HC5.out
   clear HC5
   by_cases c7 : (l0.length : Int) = 4
   ·
    rw [if_pos c7] at H
    have c7b0 : ((l0.length : Int) == 4) = true := beq_iff_eq.mpr c7
    have c7b1 : ((l0.length : Int) != 4) = false := bne_eq_false_iff_eq.mpr c7
    clear c7
    (first | rw [c7b0] | (simp only [i64_w, i32_w]; rw [c7b0]) | skip)
    by_cases c8 : (l1.length : Int) = 4
    ·
     rw [if_pos c8] at H
     have c8b0 : ((l1.length : Int) == 4) = true := beq_iff_eq.mpr c8
     have c8b1 : ((l1.length : Int) != 4) = false := bne_eq_false_iff_eq.mpr c8
     clear c8
     replace H := Option.bind_eq_some_iff.mp H
     obtain ⟨t179, A90, H⟩ := H
     replace H : (if t179 = true then ((conclavelaw07_right.f k l1 9).bind fun t180 => (conclavelaw07_ScheduleApart.j0 k l0 l1 (!t180))) else (conclavelaw07_ScheduleApart.j0 k l0 l1 true)) = some r := H
     have A9 := Aside0.mk A90
     clear A90
     by_cases c10 : t179 = true
     ·
      subst c10
      have H1 : ((conclavelaw07_right.f k l1 9).bind fun t180 => (conclavelaw07_ScheduleApart.j0 k l0 l1 (!t180))) = some r := by rw [if_pos rfl] at H; exact H
      clear H
      have H := H1
      clear H1
      replace H := Option.bind_eq_some_iff.mp H
      obtain ⟨t180, A110, H⟩ := H
      replace H : (conclavelaw07_ScheduleApart.j0 k l0 l1 (!t180)) = some r := H
      have A11 := Aside0.mk A110
      clear A110
      have H' := Aside0.mk H
      clear H
      go_wp2_with (first | (go_at_call 7; (with_reducible refine (conclavelaw07_right.calls k _ _ l0 9 true _ ?side1 ?side2 A9.out).mono ?_); (case side1 => repeat (first | exact (Kd.C_below HR0.out HB.out) | (with_reducible refine Kd.C_alloc ?_ _) | (with_reducible refine Kd.C_drewN ?_ _) | (with_reducible refine Kd.C_drew ?_))); (case side2 => exact HC0.out); rintro e w' ⟨rfl, ⟨nd, rfl⟩⟩) | (go_at_call 7; (with_reducible refine (conclavelaw07_right.calls k _ _ l1 9 t180 _ ?side1 ?side2 A11.out).mono ?_); (case side1 => repeat (first | exact (Kd.C_below HR1.out (by repeat (first | (with_reducible first | exact HB.out | apply below_alloc | apply pw_below_drewN | apply below_drew1) | exact HB.out))) | (with_reducible refine Kd.C_alloc ?_ _) | (with_reducible refine Kd.C_drewN ?_ _) | (with_reducible refine Kd.C_drew ?_))); (case side2 => exact HC1.out); rintro e w' ⟨rfl, ⟨nd, rfl⟩⟩))
      go_meet
      case rel => exact ⟨_, (!t180), (by first | rfl | (simp; done) | (simp [*]; done)), H', ⟨by first | omega | exact Nat.le_refl _⟩, ⟨by repeat (first | (with_reducible first | exact HB.out | apply below_alloc | apply pw_below_drewN | apply below_drew1) | exact HB.out)⟩⟩
     ·
      replace c10 := Bool.eq_false_iff.mpr c10
      subst c10
      have H1 : (conclavelaw07_ScheduleApart.j0 k l0 l1 true) = some r := by rw [if_neg (show ¬ (false = true) by decide)] at H; exact H
      clear H
      have H := H1
      clear H1
      have H' := Aside0.mk H
      clear H
      go_wp2_with (first | (go_at_call 7; (with_reducible refine (conclavelaw07_right.calls k _ _ l0 9 false _ ?side1 ?side2 A9.out).mono ?_); (case side1 => repeat (first | exact (Kd.C_below HR0.out HB.out) | (with_reducible refine Kd.C_alloc ?_ _) | (with_reducible refine Kd.C_drewN ?_ _) | (with_reducible refine Kd.C_drew ?_))); (case side2 => exact HC0.out); rintro e w' ⟨rfl, ⟨nd, rfl⟩⟩))
      go_meet
      case rel => exact ⟨_, (true), (by first | rfl | (simp; done) | (simp [*]; done)), H', ⟨by first | omega | exact Nat.le_refl _⟩, ⟨by repeat (first | (with_reducible first | exact HB.out | apply below_alloc | apply pw_below_drewN | apply below_drew1) | exact HB.out)⟩⟩
    ·
     rw [if_neg c8] at H
     have c8b0 : ((l1.length : Int) == 4) = false := beq_eq_false_iff_ne.mpr c8
     have c8b1 : ((l1.length : Int) != 4) = true := bne_iff_ne.mpr c8
     have H' := Aside0.mk H
     clear H
     go_wp2
     go_meet
     case rel => exact ⟨_, (true), (by first | rfl | (simp; done) | (simp [*]; done)), H', ⟨by first | omega | exact Nat.le_refl _⟩, ⟨by repeat (first | (with_reducible first | exact HB.out | apply below_alloc | apply pw_below_drewN | apply below_drew1) | exact HB.out)⟩⟩
   ·
    rw [if_neg c7] at H
    have c7b0 : ((l0.length : Int) == 4) = false := beq_eq_false_iff_ne.mpr c7
    have c7b1 : ((l0.length : Int) != 4) = true := bne_iff_ne.mpr c7
    (first | rw [c7b0] | (simp only [i64_w, i32_w]; rw [c7b0]) | skip)
    have H' := Aside0.mk H
    clear H
    go_wp2
    go_meet
    case rel => exact ⟨_, (true), (by first | rfl | (simp; done) | (simp [*]; done)), H', ⟨by first | omega | exact Nat.le_refl _⟩, ⟨by repeat (first | (with_reducible first | exact HB.out | apply below_alloc | apply pw_below_drewN | apply below_drew1) | exact HB.out)⟩⟩
  case rest =>
   clear HC5
   try clear c1
   try clear p2
   try clear c3
   try clear c4
   try clear c6
   try clear c7
   try clear c7b0
   try clear c7b1
   try clear c8
   try clear c8b0
   try clear c8b1
   try clear c10
   obtain ⟨kq, x35_4, rfl, HA, HJ4, HB⟩ := hcut
   cases kq with
   | zero => exact absurd HA.out (by simp [conclavelaw07_ScheduleApart.j0])
   | succ kj4 =>
    have H := HA.out
    clear HA
    simp only [conclavelaw07_ScheduleApart.j0] at H
    by_cases c12 : x35_4 = true
    ·
     subst c12
     have H1 : (some true) = some r := by rw [if_pos rfl] at H; exact H
     clear H
     have H := H1
     clear H1
     obtain rfl := Option.some.inj H
     go_wp2
     go_ret
     exact ⟨by first | rfl | (simp [errW_none, errW_some] <;> rfl) | (simp [*, errW_none, errW_some] <;> rfl), by repeat (first | (with_reducible first | exact HB.out | apply below_alloc | apply pw_below_drewN | apply below_drew1) | exact HB.out)⟩
    ·
     replace c12 := Bool.eq_false_iff.mpr c12
     subst c12
     have H1 : ((conclavelaw07_stores.f 9).bind fun t181 => (if 0 < (l0.length : Int) then (if 1 < (l0.length : Int) then (if 2 < (l0.length : Int) then ((schedule_Shared.f kj4 t181 (([rd l0 2] : List Int))).bind fun bt189 => (if 3 < (l0.length : Int) then ((schedule_Next.f bt189.2 (rd l0 0) (rd l0 1) bt189.1 (rd l0 3)).bind fun bt192 => ((conclavelaw07_all.f bt192.1 bt192.2.1 bt192.2.2.1 bt192.2.2.2.1 bt192.2.2.2.2.1 bt192.2.2.2.2.2.1 bt192.2.2.2.2.2.2.1 bt192.2.2.2.2.2.2.2.1 bt192.2.2.2.2.2.2.2.2.1 bt192.2.2.2.2.2.2.2.2.2.1 bt192.2.2.2.2.2.2.2.2.2.2.1 bt192.2.2.2.2.2.2.2.2.2.2.2.1 bt192.2.2.2.2.2.2.2.2.2.2.2.2.1).bind fun t206 => (if 0 < (l1.length : Int) then (if 1 < (l1.length : Int) then (if 2 < (l1.length : Int) then ((schedule_Shared.f kj4 bt192.2.2.2.2.2.2.2.2.2.2.2.2.2 (([rd l1 2] : List Int))).bind fun bt215 => (if 3 < (l1.length : Int) then ((schedule_Next.f bt215.2 (rd l1 0) (rd l1 1) bt215.1 (rd l1 3)).bind fun bt218 => ((conclavelaw07_all.f bt218.1 bt218.2.1 bt218.2.2.1 bt218.2.2.2.1 bt218.2.2.2.2.1 bt218.2.2.2.2.2.1 bt218.2.2.2.2.2.2.1 bt218.2.2.2.2.2.2.2.1 bt218.2.2.2.2.2.2.2.2.1 bt218.2.2.2.2.2.2.2.2.2.1 bt218.2.2.2.2.2.2.2.2.2.2.1 bt218.2.2.2.2.2.2.2.2.2.2.2.1 bt218.2.2.2.2.2.2.2.2.2.2.2.2.1).bind fun t232 => (if (rd l0 0) = (rd l1 0) then (conclavelaw07_ScheduleApart.j1 kj4 l0 l1 t206 t232 ((rd l0 1) == (rd l1 1))) else (conclavelaw07_ScheduleApart.j1 kj4 l0 l1 t206 t232 false)))) else (none))) else (none)) else (none)) else (none)))) else (none))) else (none)) else (none)) else (none))) = some r := by rw [if_neg (show ¬ (false = true) by decide)] at H; exact H
     clear H
     have H := H1
     clear H1
     replace H := Option.bind_eq_some_iff.mp H
     obtain ⟨t181, A130, H⟩ := H
     replace H : (if 0 < (l0.length : Int) then (if 1 < (l0.length : Int) then (if 2 < (l0.length : Int) then ((schedule_Shared.f kj4 t181 (([rd l0 2] : List Int))).bind fun bt189 => (if 3 < (l0.length : Int) then ((schedule_Next.f bt189.2 (rd l0 0) (rd l0 1) bt189.1 (rd l0 3)).bind fun bt192 => ((conclavelaw07_all.f bt192.1 bt192.2.1 bt192.2.2.1 bt192.2.2.2.1 bt192.2.2.2.2.1 bt192.2.2.2.2.2.1 bt192.2.2.2.2.2.2.1 bt192.2.2.2.2.2.2.2.1 bt192.2.2.2.2.2.2.2.2.1 bt192.2.2.2.2.2.2.2.2.2.1 bt192.2.2.2.2.2.2.2.2.2.2.1 bt192.2.2.2.2.2.2.2.2.2.2.2.1 bt192.2.2.2.2.2.2.2.2.2.2.2.2.1).bind fun t206 => (if 0 < (l1.length : Int) then (if 1 < (l1.length : Int) then (if 2 < (l1.length : Int) then ((schedule_Shared.f kj4 bt192.2.2.2.2.2.2.2.2.2.2.2.2.2 (([rd l1 2] : List Int))).bind fun bt215 => (if 3 < (l1.length : Int) then ((schedule_Next.f bt215.2 (rd l1 0) (rd l1 1) bt215.1 (rd l1 3)).bind fun bt218 => ((conclavelaw07_all.f bt218.1 bt218.2.1 bt218.2.2.1 bt218.2.2.2.1 bt218.2.2.2.2.1 bt218.2.2.2.2.2.1 bt218.2.2.2.2.2.2.1 bt218.2.2.2.2.2.2.2.1 bt218.2.2.2.2.2.2.2.2.1 bt218.2.2.2.2.2.2.2.2.2.1 bt218.2.2.2.2.2.2.2.2.2.2.1 bt218.2.2.2.2.2.2.2.2.2.2.2.1 bt218.2.2.2.2.2.2.2.2.2.2.2.2.1).bind fun t232 => (if (rd l0 0) = (rd l1 0) then (conclavelaw07_ScheduleApart.j1 kj4 l0 l1 t206 t232 ((rd l0 1) == (rd l1 1))) else (conclavelaw07_ScheduleApart.j1 kj4 l0 l1 t206 t232 false)))) else (none))) else (none)) else (none)) else (none)))) else (none))) else (none)) else (none)) else (none)) = some r := H
     have A13 := Aside0.mk A130
     clear A130
     by_cases c14 : 0 < (l0.length : Int)
     ·
      rw [if_pos c14] at H
      have c14b0 : decide (0 < (l0.length : Int)) = true := decide_eq_true c14
      have c14b1 : decide (0 < l0.length) = true := decide_eq_true (by omega)
      clear c14
      by_cases c15 : 1 < (l0.length : Int)
      ·
       rw [if_pos c15] at H
       have c15b0 : decide (1 < (l0.length : Int)) = true := decide_eq_true c15
       have c15b1 : decide (1 < l0.length) = true := decide_eq_true (by omega)
       clear c15
       by_cases c16 : 2 < (l0.length : Int)
       ·
        rw [if_pos c16] at H
        have c16b0 : decide (2 < (l0.length : Int)) = true := decide_eq_true c16
        have c16b1 : decide (2 < l0.length) = true := decide_eq_true (by omega)
        clear c16
        obtain ⟨y186, hy186⟩ : ∃ y_ : List Int, y_ = (([rd l0 2] : List Int)) := ⟨_, rfl⟩
        replace H : ((schedule_Shared.f kj4 t181 y186).bind fun bt189 => (if 3 < (l0.length : Int) then ((schedule_Next.f bt189.2 (rd l0 0) (rd l0 1) bt189.1 (rd l0 3)).bind fun bt192 => ((conclavelaw07_all.f bt192.1 bt192.2.1 bt192.2.2.1 bt192.2.2.2.1 bt192.2.2.2.2.1 bt192.2.2.2.2.2.1 bt192.2.2.2.2.2.2.1 bt192.2.2.2.2.2.2.2.1 bt192.2.2.2.2.2.2.2.2.1 bt192.2.2.2.2.2.2.2.2.2.1 bt192.2.2.2.2.2.2.2.2.2.2.1 bt192.2.2.2.2.2.2.2.2.2.2.2.1 bt192.2.2.2.2.2.2.2.2.2.2.2.2.1).bind fun t206 => (if 0 < (l1.length : Int) then (if 1 < (l1.length : Int) then (if 2 < (l1.length : Int) then ((schedule_Shared.f kj4 bt192.2.2.2.2.2.2.2.2.2.2.2.2.2 (([rd l1 2] : List Int))).bind fun bt215 => (if 3 < (l1.length : Int) then ((schedule_Next.f bt215.2 (rd l1 0) (rd l1 1) bt215.1 (rd l1 3)).bind fun bt218 => ((conclavelaw07_all.f bt218.1 bt218.2.1 bt218.2.2.1 bt218.2.2.2.1 bt218.2.2.2.2.1 bt218.2.2.2.2.2.1 bt218.2.2.2.2.2.2.1 bt218.2.2.2.2.2.2.2.1 bt218.2.2.2.2.2.2.2.2.1 bt218.2.2.2.2.2.2.2.2.2.1 bt218.2.2.2.2.2.2.2.2.2.2.1 bt218.2.2.2.2.2.2.2.2.2.2.2.1 bt218.2.2.2.2.2.2.2.2.2.2.2.2.1).bind fun t232 => (if (rd l0 0) = (rd l1 0) then (conclavelaw07_ScheduleApart.j1 kj4 l0 l1 t206 t232 ((rd l0 1) == (rd l1 1))) else (conclavelaw07_ScheduleApart.j1 kj4 l0 l1 t206 t232 false)))) else (none))) else (none)) else (none)) else (none)))) else (none))) = some r := by first | (rw [hy186]; with_reducible exact H) | (have H2_ := (Option.bind_some _ _).symm.trans H; rw [hy186]; with_reducible exact H2_) | (have H2_ := (Option.bind_some _ _).symm.trans H; with_reducible exact H2_) | with_reducible exact H | (rw [hy186]; exact H) | exact H
        have Ny186 := Aside0.mk hy186
        clear hy186
        replace H := Option.bind_eq_some_iff.mp H
        obtain ⟨⟨t189, t190⟩, A170, H⟩ := H
        replace H : (if 3 < (l0.length : Int) then ((schedule_Next.f t190 (rd l0 0) (rd l0 1) t189 (rd l0 3)).bind fun bt192 => ((conclavelaw07_all.f bt192.1 bt192.2.1 bt192.2.2.1 bt192.2.2.2.1 bt192.2.2.2.2.1 bt192.2.2.2.2.2.1 bt192.2.2.2.2.2.2.1 bt192.2.2.2.2.2.2.2.1 bt192.2.2.2.2.2.2.2.2.1 bt192.2.2.2.2.2.2.2.2.2.1 bt192.2.2.2.2.2.2.2.2.2.2.1 bt192.2.2.2.2.2.2.2.2.2.2.2.1 bt192.2.2.2.2.2.2.2.2.2.2.2.2.1).bind fun t206 => (if 0 < (l1.length : Int) then (if 1 < (l1.length : Int) then (if 2 < (l1.length : Int) then ((schedule_Shared.f kj4 bt192.2.2.2.2.2.2.2.2.2.2.2.2.2 (([rd l1 2] : List Int))).bind fun bt215 => (if 3 < (l1.length : Int) then ((schedule_Next.f bt215.2 (rd l1 0) (rd l1 1) bt215.1 (rd l1 3)).bind fun bt218 => ((conclavelaw07_all.f bt218.1 bt218.2.1 bt218.2.2.1 bt218.2.2.2.1 bt218.2.2.2.2.1 bt218.2.2.2.2.2.1 bt218.2.2.2.2.2.2.1 bt218.2.2.2.2.2.2.2.1 bt218.2.2.2.2.2.2.2.2.1 bt218.2.2.2.2.2.2.2.2.2.1 bt218.2.2.2.2.2.2.2.2.2.2.1 bt218.2.2.2.2.2.2.2.2.2.2.2.1 bt218.2.2.2.2.2.2.2.2.2.2.2.2.1).bind fun t232 => (if (rd l0 0) = (rd l1 0) then (conclavelaw07_ScheduleApart.j1 kj4 l0 l1 t206 t232 ((rd l0 1) == (rd l1 1))) else (conclavelaw07_ScheduleApart.j1 kj4 l0 l1 t206 t232 false)))) else (none))) else (none)) else (none)) else (none)))) else (none)) = some r := H
        have A17 := Aside0.mk A170
        clear A170
        by_cases c18 : 3 < (l0.length : Int)
        ·
         rw [if_pos c18] at H
         have c18b0 : decide (3 < (l0.length : Int)) = true := decide_eq_true c18
         have c18b1 : decide (3 < l0.length) = true := decide_eq_true (by omega)
         clear c18
         replace H := Option.bind_eq_some_iff.mp H
         obtain ⟨⟨t192, t193, t194, t195, t196, t197, t198, t199, t200, t201, t202, t203, t204, t205⟩, A190, H⟩ := H
         replace H : ((conclavelaw07_all.f t192 t193 t194 t195 t196 t197 t198 t199 t200 t201 t202 t203 t204).bind fun t206 => (if 0 < (l1.length : Int) then (if 1 < (l1.length : Int) then (if 2 < (l1.length : Int) then ((schedule_Shared.f kj4 t205 (([rd l1 2] : List Int))).bind fun bt215 => (if 3 < (l1.length : Int) then ((schedule_Next.f bt215.2 (rd l1 0) (rd l1 1) bt215.1 (rd l1 3)).bind fun bt218 => ((conclavelaw07_all.f bt218.1 bt218.2.1 bt218.2.2.1 bt218.2.2.2.1 bt218.2.2.2.2.1 bt218.2.2.2.2.2.1 bt218.2.2.2.2.2.2.1 bt218.2.2.2.2.2.2.2.1 bt218.2.2.2.2.2.2.2.2.1 bt218.2.2.2.2.2.2.2.2.2.1 bt218.2.2.2.2.2.2.2.2.2.2.1 bt218.2.2.2.2.2.2.2.2.2.2.2.1 bt218.2.2.2.2.2.2.2.2.2.2.2.2.1).bind fun t232 => (if (rd l0 0) = (rd l1 0) then (conclavelaw07_ScheduleApart.j1 kj4 l0 l1 t206 t232 ((rd l0 1) == (rd l1 1))) else (conclavelaw07_ScheduleApart.j1 kj4 l0 l1 t206 t232 false)))) else (none))) else (none)) else (none)) else (none))) = some r := H
         have A19 := Aside0.mk A190
         clear A190
         replace H := Option.bind_eq_some_iff.mp H
         obtain ⟨t206, A200, H⟩ := H
         replace H : (if 0 < (l1.length : Int) then (if 1 < (l1.length : Int) then (if 2 < (l1.length : Int) then ((schedule_Shared.f kj4 t205 (([rd l1 2] : List Int))).bind fun bt215 => (if 3 < (l1.length : Int) then ((schedule_Next.f bt215.2 (rd l1 0) (rd l1 1) bt215.1 (rd l1 3)).bind fun bt218 => ((conclavelaw07_all.f bt218.1 bt218.2.1 bt218.2.2.1 bt218.2.2.2.1 bt218.2.2.2.2.1 bt218.2.2.2.2.2.1 bt218.2.2.2.2.2.2.1 bt218.2.2.2.2.2.2.2.1 bt218.2.2.2.2.2.2.2.2.1 bt218.2.2.2.2.2.2.2.2.2.1 bt218.2.2.2.2.2.2.2.2.2.2.1 bt218.2.2.2.2.2.2.2.2.2.2.2.1 bt218.2.2.2.2.2.2.2.2.2.2.2.2.1).bind fun t232 => (if (rd l0 0) = (rd l1 0) then (conclavelaw07_ScheduleApart.j1 kj4 l0 l1 t206 t232 ((rd l0 1) == (rd l1 1))) else (conclavelaw07_ScheduleApart.j1 kj4 l0 l1 t206 t232 false)))) else (none))) else (none)) else (none)) else (none)) = some r := H
         have A20 := Aside0.mk A200
         clear A200
         by_cases c21 : 0 < (l1.length : Int)
         ·
          rw [if_pos c21] at H
          have c21b0 : decide (0 < (l1.length : Int)) = true := decide_eq_true c21
          have c21b1 : decide (0 < l1.length) = true := decide_eq_true (by omega)
          clear c21
          by_cases c22 : 1 < (l1.length : Int)
          ·
           rw [if_pos c22] at H
           have c22b0 : decide (1 < (l1.length : Int)) = true := decide_eq_true c22
           have c22b1 : decide (1 < l1.length) = true := decide_eq_true (by omega)
           clear c22
           by_cases c23 : 2 < (l1.length : Int)
           ·
            rw [if_pos c23] at H
            have c23b0 : decide (2 < (l1.length : Int)) = true := decide_eq_true c23
            have c23b1 : decide (2 < l1.length) = true := decide_eq_true (by omega)
            clear c23
            obtain ⟨y212, hy212⟩ : ∃ y_ : List Int, y_ = (([rd l1 2] : List Int)) := ⟨_, rfl⟩
            replace H : ((schedule_Shared.f kj4 t205 y212).bind fun bt215 => (if 3 < (l1.length : Int) then ((schedule_Next.f bt215.2 (rd l1 0) (rd l1 1) bt215.1 (rd l1 3)).bind fun bt218 => ((conclavelaw07_all.f bt218.1 bt218.2.1 bt218.2.2.1 bt218.2.2.2.1 bt218.2.2.2.2.1 bt218.2.2.2.2.2.1 bt218.2.2.2.2.2.2.1 bt218.2.2.2.2.2.2.2.1 bt218.2.2.2.2.2.2.2.2.1 bt218.2.2.2.2.2.2.2.2.2.1 bt218.2.2.2.2.2.2.2.2.2.2.1 bt218.2.2.2.2.2.2.2.2.2.2.2.1 bt218.2.2.2.2.2.2.2.2.2.2.2.2.1).bind fun t232 => (if (rd l0 0) = (rd l1 0) then (conclavelaw07_ScheduleApart.j1 kj4 l0 l1 t206 t232 ((rd l0 1) == (rd l1 1))) else (conclavelaw07_ScheduleApart.j1 kj4 l0 l1 t206 t232 false)))) else (none))) = some r := by first | (rw [hy212]; with_reducible exact H) | (have H2_ := (Option.bind_some _ _).symm.trans H; rw [hy212]; with_reducible exact H2_) | (have H2_ := (Option.bind_some _ _).symm.trans H; with_reducible exact H2_) | with_reducible exact H | (rw [hy212]; exact H) | exact H
            have Ny212 := Aside0.mk hy212
            clear hy212
            replace H := Option.bind_eq_some_iff.mp H
            obtain ⟨⟨t215, t216⟩, A240, H⟩ := H
            replace H : (if 3 < (l1.length : Int) then ((schedule_Next.f t216 (rd l1 0) (rd l1 1) t215 (rd l1 3)).bind fun bt218 => ((conclavelaw07_all.f bt218.1 bt218.2.1 bt218.2.2.1 bt218.2.2.2.1 bt218.2.2.2.2.1 bt218.2.2.2.2.2.1 bt218.2.2.2.2.2.2.1 bt218.2.2.2.2.2.2.2.1 bt218.2.2.2.2.2.2.2.2.1 bt218.2.2.2.2.2.2.2.2.2.1 bt218.2.2.2.2.2.2.2.2.2.2.1 bt218.2.2.2.2.2.2.2.2.2.2.2.1 bt218.2.2.2.2.2.2.2.2.2.2.2.2.1).bind fun t232 => (if (rd l0 0) = (rd l1 0) then (conclavelaw07_ScheduleApart.j1 kj4 l0 l1 t206 t232 ((rd l0 1) == (rd l1 1))) else (conclavelaw07_ScheduleApart.j1 kj4 l0 l1 t206 t232 false)))) else (none)) = some r := H
            have A24 := Aside0.mk A240
            clear A240
            by_cases c25 : 3 < (l1.length : Int)
            ·
             rw [if_pos c25] at H
             have c25b0 : decide (3 < (l1.length : Int)) = true := decide_eq_true c25
             have c25b1 : decide (3 < l1.length) = true := decide_eq_true (by omega)
             clear c25
             replace H := Option.bind_eq_some_iff.mp H
             obtain ⟨⟨t218, t219, t220, t221, t222, t223, t224, t225, t226, t227, t228, t229, t230, t231⟩, A260, H⟩ := H
             replace H : ((conclavelaw07_all.f t218 t219 t220 t221 t222 t223 t224 t225 t226 t227 t228 t229 t230).bind fun t232 => (if (rd l0 0) = (rd l1 0) then (conclavelaw07_ScheduleApart.j1 kj4 l0 l1 t206 t232 ((rd l0 1) == (rd l1 1))) else (conclavelaw07_ScheduleApart.j1 kj4 l0 l1 t206 t232 false))) = some r := H
             have A26 := Aside0.mk A260
             clear A260
             replace H := Option.bind_eq_some_iff.mp H
             obtain ⟨t232, A270, H⟩ := H
             replace H : (if (rd l0 0) = (rd l1 0) then (conclavelaw07_ScheduleApart.j1 kj4 l0 l1 t206 t232 ((rd l0 1) == (rd l1 1))) else (conclavelaw07_ScheduleApart.j1 kj4 l0 l1 t206 t232 false)) = some r := H
             have A27 := Aside0.mk A270
             clear A270
             have HC28 := Aside0.mk H
             clear H
             try go_wp2_with (first | ((with_reducible refine gate_callee (f := 8) rfl ?_); refine goesL_ (some 37) rfl rfl Try.func8 (by kernel_rfl) rfl #[.int .i64 9] rfl (by (try simp only [List.map_toArray, List.map_cons, List.map_nil]); first | done | rfl | (simp only [List.length_drop, List.length_take]; rfl)) ?_; (with_reducible refine (conclavelaw07_stores.calls 9 t181 w _ ?side1 A13.out).mono ?_); (case side1 => repeat (first | (with_reducible first | exact HB.out | apply below_alloc | apply pw_below_drewN | apply below_drew1) | exact HB.out)); rintro e w29 ⟨g182, rfl, hi, hb, hb2⟩; refine ⟨_, rfl, ?_⟩; have n0_ := Aside0.mk (hb); have n1_ := Aside0.mk (hi); clear HB; have HB := n0_; have HI182 := n1_; clear n0_ n1_; (try clear hb); (try clear hb2); (try clear hk); (try clear hi)))
             have n0_ := Aside0.mk (IsS53.drew HI182.out)
             have n1_ := Aside0.mk (below_drew1 HB.out)
             clear HI182
             clear HB
             have HI182 := n0_
             have HB := n1_
             clear n0_ n1_
             have p183 : 0 ≤ (0 : Int) := (by omega)
             have q183 : 0 < (l0.length : Int) := of_decide_eq_true (by first | (with_reducible assumption) | assumption)
             obtain ⟨ad183, e183, hx183_0⟩ := Kd.at_int HR0.out 0 p183 q183
             have hw183_0 := hx183_0
             (try rw [show ((0 : Int)).toNat = 0 from rfl] at hw183_0)
             (try rw [show 0 * 1 = 0 from rfl] at hw183_0)
             (try rw [Addr.add_zero'] at hw183_0)
             cases e183
             have qi183 : (0 < l0.length) = True := eq_true (by omega)
             (try rw [show ((0 : Int)).toNat = 0 from rfl] at hx183_0)
             (try rw [Addr.add_zero'] at hx183_0)
             replace hx183_0 := (HB.out.cell (World.block_lt_of_cell? w _ hx183_0)).trans hx183_0
             replace p183 := eq_true p183
             replace q183 := eq_true q183
             have p184 : 0 ≤ (1 : Int) := (by omega)
             have q184 : 1 < (l0.length : Int) := of_decide_eq_true (by first | (with_reducible assumption) | assumption)
             obtain ⟨ad184, e184, hx184_0⟩ := Kd.at_int HR0.out 1 p184 q184
             have hw184_0 := hx184_0
             (try rw [show ((1 : Int)).toNat = 1 from rfl] at hw184_0)
             (try rw [show 1 * 1 = 1 from rfl] at hw184_0)
             (try simp only [Nat.reduceMul, Nat.reduceEqDiff, Go.Addr.add, ↓reduceIte] at hw184_0)
             obtain rfl : ad183 = ad184 := (by injection e184)
             (try simp only [show (1 : Int).toNat = 1 from rfl, Nat.reduceMul, Nat.reduceEqDiff, Go.Addr.add, ↓reduceIte] at hx184_0)
             have qi184 : (1 < l0.length) = True := eq_true (by omega)
             (try rw [show ((1 : Int)).toNat = 1 from rfl] at hx184_0)
             replace hx184_0 := (HB.out.cell (World.block_lt_of_cell? w _ hx184_0)).trans hx184_0
             replace p184 := eq_true p184
             replace q184 := eq_true q184
             have p185 : 0 ≤ (2 : Int) := (by omega)
             have q185 : 2 < (l0.length : Int) := of_decide_eq_true (by first | (with_reducible assumption) | assumption)
             obtain ⟨ad185, e185, hx185_0⟩ := Kd.at_int HR0.out 2 p185 q185
             have hw185_0 := hx185_0
             (try rw [show ((2 : Int)).toNat = 2 from rfl] at hw185_0)
             (try rw [show 2 * 1 = 2 from rfl] at hw185_0)
             (try simp only [Nat.reduceMul, Nat.reduceEqDiff, Go.Addr.add, ↓reduceIte] at hw185_0)
             obtain rfl : ad183 = ad185 := (by injection e185)
             (try simp only [show (2 : Int).toNat = 2 from rfl, Nat.reduceMul, Nat.reduceEqDiff, Go.Addr.add, ↓reduceIte] at hx185_0)
             have qi185 : (2 < l0.length) = True := eq_true (by omega)
             (try rw [show ((2 : Int)).toNat = 2 from rfl] at hx185_0)
             replace hx185_0 := (HB.out.cell (World.block_lt_of_cell? w _ hx185_0)).trans hx185_0
             replace p185 := eq_true p185
             replace q185 := eq_true q185
             have p191 : 0 ≤ (3 : Int) := (by omega)
             have q191 : 3 < (l0.length : Int) := of_decide_eq_true (by first | (with_reducible assumption) | assumption)
             obtain ⟨ad191, e191, hx191_0⟩ := Kd.at_int HR0.out 3 p191 q191
             have hw191_0 := hx191_0
             (try rw [show ((3 : Int)).toNat = 3 from rfl] at hw191_0)
             (try rw [show 3 * 1 = 3 from rfl] at hw191_0)
             (try simp only [Nat.reduceMul, Nat.reduceEqDiff, Go.Addr.add, ↓reduceIte] at hw191_0)
             obtain rfl : ad183 = ad191 := (by injection e191)
             (try simp only [show (3 : Int).toNat = 3 from rfl, Nat.reduceMul, Nat.reduceEqDiff, Go.Addr.add, ↓reduceIte] at hx191_0)
             have qi191 : (3 < l0.length) = True := eq_true (by omega)
             (try rw [show ((3 : Int)).toNat = 3 from rfl] at hx191_0)
             replace hx191_0 := (HB.out.cell (World.block_lt_of_cell? w _ hx191_0)).trans hx191_0
             replace p191 := eq_true p191
             replace q191 := eq_true q191
             refine start_ (n := 19) (S := fun w' => w'.cell? ad183 = some (.int .i64 (rd l0 0)) ∧ w'.cell? ⟨ad183.block, ad183.off + 1, none⟩ = some (.int .i64 (rd l0 1)) ∧ w'.cell? ⟨ad183.block, ad183.off + 2, none⟩ = some (.int .i64 (rd l0 2)) ∧ w'.cell? ⟨ad183.block, ad183.off + 3, none⟩ = some (.int .i64 (rd l0 3))) (ds := []) #[false, false, false, false, false, false, false, false, false, false, false, false, false, false, false, false, false, false, false] (by kernel_rfl) rfl rfl ⟨((HB.out.cell (World.block_lt_of_cell? w _ hw183_0)).trans hw183_0), ((HB.out.cell (World.block_lt_of_cell? w _ hw184_0)).trans hw184_0), ((HB.out.cell (World.block_lt_of_cell? w _ hw185_0)).trans hw185_0), ((HB.out.cell (World.block_lt_of_cell? w _ hw191_0)).trans hw191_0)⟩ (fun hHeld => ?_); refine with_tabW conclavelaw07_ScheduleApart.tab8 conclavelaw07_ScheduleApart.bits8 (fun HT_ HW_ => ?_)
             generalize w29.drew = w30 at HI182 HB hx183_0 hx184_0 hx185_0 hx191_0 hHeld ⊢
             refine pure_ (i := 0) (N := some 42) (v := ?_) (a' := ?_) #[true, false, false, false, false, false, false, false, false, false, false, false, false, false, false, false, false, false, false] rfl rfl (any_of HT_.out (by kernel_rfl)) (fun _ _ _ h => h) (Or.inl ⟨by rfl, ?_⟩) ?_ ?_
             rotate_left; (intro w'; go_simp; with_reducible rfl); rotate_left; (simp only [Act.put, List.setIfInBounds_toArray, List.set_cons_zero, List.set_cons_succ, i64_w, i32_w]; rfl)
             refine pure_ (i := 1) (N := some 43) (v := ?_) (a' := ?_) #[true, true, false, false, false, false, false, false, false, false, false, false, false, false, false, false, false, false, false] rfl rfl (any_of HT_.out (by kernel_rfl)) (fun _ _ _ h => h) (Or.inl ⟨by rfl, ?_⟩) ?_ ?_
             rotate_left; (intro w'; go_simp; with_reducible rfl); rotate_left; (simp only [Act.put, List.setIfInBounds_toArray, List.set_cons_zero, List.set_cons_succ, i64_w, i32_w]; rfl)
             refine pure_ (i := 2) (N := some 44) (v := ?_) (a' := ?_) #[true, true, true, false, false, false, false, false, false, false, false, false, false, false, false, false, false, false, false] rfl rfl (any_of HT_.out (by kernel_rfl)) (fun _ _ _ h => h) (Or.inl ⟨by rfl, ?_⟩) ?_ ?_
             rotate_left; (intro w'; go_simp; with_reducible rfl); rotate_left; (simp only [Act.put, List.setIfInBounds_toArray, List.set_cons_zero, List.set_cons_succ, i64_w, i32_w]; rfl)
             refine pure_ (i := 4) (N := some 46) (v := ?_) (a' := ?_) #[true, true, true, false, true, false, false, false, false, false, false, false, false, false, false, false, false, false, false] rfl rfl (any_of HT_.out (by kernel_rfl)) (fun _ _ _ h => h) (Or.inl ⟨by rfl, ?_⟩) ?_ ?_
             rotate_left; (intro w'; go_simp; with_reducible rfl); rotate_left; (simp only [Act.put, List.setIfInBounds_toArray, List.set_cons_zero, List.set_cons_succ, i64_w, i32_w]; rfl)
             refine pure_ (i := 5) (N := some 47) (v := ?_) (a' := ?_) #[true, true, true, false, true, true, false, false, false, false, false, false, false, false, false, false, false, false, false] rfl rfl (any_of HT_.out (by kernel_rfl)) (fun _ _ _ h => h) (Or.inl ⟨by rfl, ?_⟩) ?_ ?_
             rotate_left; (intro w'; go_simp; with_reducible rfl); rotate_left; (simp only [Act.put, List.setIfInBounds_toArray, List.set_cons_zero, List.set_cons_succ, i64_w, i32_w]; rfl)
             refine pure_ (i := 7) (N := some 49) (v := ?_) (a' := ?_) #[true, true, true, false, true, true, false, true, false, false, false, false, false, false, false, false, false, false, false] rfl rfl (any_of HT_.out (by kernel_rfl)) (fun _ _ _ h => h) (Or.inl ⟨by rfl, ?_⟩) ?_ ?_
             rotate_left; (intro w'; go_simp; with_reducible rfl); rotate_left; (simp only [Act.put, List.setIfInBounds_toArray, List.set_cons_zero, List.set_cons_succ, i64_w, i32_w]; rfl)
             refine pure_ (i := 8) (N := some 50) (v := ?_) (a' := ?_) #[true, true, true, false, true, true, false, true, true, false, false, false, false, false, false, false, false, false, false] rfl rfl (any_of HT_.out (by kernel_rfl)) (fun _ _ _ h => h) (Or.inl ⟨by rfl, ?_⟩) ?_ ?_
             rotate_left; (intro w'; go_simp; with_reducible rfl); rotate_left; (simp only [Act.put, List.setIfInBounds_toArray, List.set_cons_zero, List.set_cons_succ, i64_w, i32_w]; rfl)
             refine pure_ (i := 9) (N := some 51) (v := ?_) (a' := ?_) #[true, true, true, false, true, true, false, true, true, true, false, false, false, false, false, false, false, false, false] rfl rfl (any_of HT_.out (by kernel_rfl)) (fun _ _ _ h => h) (Or.inl ⟨by rfl, ?_⟩) ?_ ?_
             rotate_left; (intro w'; go_simp; with_reducible rfl); rotate_left; (simp only [Act.put, List.setIfInBounds_toArray, List.set_cons_zero, List.set_cons_succ, i64_w, i32_w]; rfl)
             refine pure_ (i := 13) (N := some 55) (v := ?_) (a' := ?_) #[true, true, true, false, true, true, false, true, true, true, false, false, false, true, false, false, false, false, false] rfl rfl (any_of HT_.out (by kernel_rfl)) (fun _ _ _ h => h) (Or.inl ⟨by rfl, ?_⟩) ?_ ?_
             rotate_left; (intro w'; go_simp; with_reducible rfl); rotate_left; (simp only [Act.put, List.setIfInBounds_toArray, List.set_cons_zero, List.set_cons_succ, i64_w, i32_w]; rfl)
             refine pure_ (i := 14) (N := some 56) (v := ?_) (a' := ?_) #[true, true, true, false, true, true, false, true, true, true, false, false, false, true, true, false, false, false, false] rfl rfl (any_of HT_.out (by kernel_rfl)) (fun _ _ _ h => h) (Or.inl ⟨by rfl, ?_⟩) ?_ ?_
             rotate_left; (intro w'; go_simp; with_reducible rfl); rotate_left; (simp only [Act.put, List.setIfInBounds_toArray, List.set_cons_zero, List.set_cons_succ, i64_w, i32_w]; rfl)
             refine take_ (i := 3) (N := some 45) (v := ?_) (a' := ?_) #[true, true, true, true, true, true, false, true, true, true, false, false, false, true, true, false, false, false, false] rfl rfl (take_ofW HT_.out HW_.out (by kernel_rfl)) (fun _ _ _ h => h) (Or.inl ⟨by rfl, ?_⟩) hHeld ?_ ?_
             rotate_left
             ·
              rintro w' ⟨s0, s1, s2, s3⟩
              go_simp
              with_reducible rfl
             rotate_left
             ·
              simp only [Act.put, List.setIfInBounds_toArray, List.set_cons_zero, List.set_cons_succ, i64_w, i32_w]
              rfl
             refine take_ (i := 6) (N := some 48) (v := ?_) (a' := ?_) #[true, true, true, true, true, true, true, true, true, true, false, false, false, true, true, false, false, false, false] rfl rfl (take_ofW HT_.out HW_.out (by kernel_rfl)) (fun _ _ _ h => h) (Or.inl ⟨by rfl, ?_⟩) hHeld ?_ ?_
             rotate_left
             ·
              rintro w' ⟨s0, s1, s2, s3⟩
              go_simp
              with_reducible rfl
             rotate_left
             ·
              simp only [Act.put, List.setIfInBounds_toArray, List.set_cons_zero, List.set_cons_succ, i64_w, i32_w]
              rfl
             refine take_ (i := 10) (N := some 52) (v := ?_) (a' := ?_) #[true, true, true, true, true, true, true, true, true, true, true, false, false, true, true, false, false, false, false] rfl rfl (take_ofW HT_.out HW_.out (by kernel_rfl)) (fun _ _ _ h => h) (Or.inl ⟨by rfl, ?_⟩) hHeld ?_ ?_
             rotate_left
             ·
              rintro w' ⟨s0, s1, s2, s3⟩
              go_simp
              with_reducible rfl
             rotate_left
             ·
              simp only [Act.put, List.setIfInBounds_toArray, List.set_cons_zero, List.set_cons_succ, i64_w, i32_w]
              rfl
             refine take_ (i := 15) (N := some 57) (v := ?_) (a' := ?_) #[true, true, true, true, true, true, true, true, true, true, true, false, false, true, true, true, false, false, false] rfl rfl (take_ofW HT_.out HW_.out (by kernel_rfl)) (fun _ _ _ h => h) (Or.inl ⟨by rfl, ?_⟩) hHeld ?_ ?_
             rotate_left
             ·
              rintro w' ⟨s0, s1, s2, s3⟩
              go_simp
              with_reducible rfl
             rotate_left
             ·
              simp only [Act.put, List.setIfInBounds_toArray, List.set_cons_zero, List.set_cons_succ, i64_w, i32_w]
              rfl
             refine one_ (i := 11) (N := some 53) #[true, true, true, true, true, true, true, true, true, true, true, true, false, true, true, true, false, false, false] rfl rfl (one_of HT_.out (by kernel_rfl)) (by decide) (fun K hK => ?_)
             refine Kd.R_lit_step (Kd.int .i64) _ 3 ?hg (N := 53) ?hd (xs := ([rd l0 2] : List Int)) (inner := [.int .i64 (rd l0 2)]) (ok := fun _ => True) (okp := fun _ => True) ?hr ?hp (fun _ hk => hk) trivial (Below.refl _ _) (Nat.le_refl _) (by simp) ?_; (case hd => rfl); (case hg => rfl); (case hr => first | (go_simp; done) | (go_simp; rfl)); (case hp => exact (Reps.one (show Kd.M (Kd.int .i64) _ _ _ (rd l0 2) [.int .i64 (rd l0 2)] from rfl) (Reps.none _ _)))
             intro v187 w31 ho32 hb hg_ hnew_
             clear hg_ hnew_
             (first | rw [← Ny186.out] at ho32 | (simp only [Int.reduceToNat] at ho32; rw [← Ny186.out] at ho32))
             have n0_ := Aside0.mk (Kd.R_lower ho32 (below_size (by repeat (first | (with_reducible first | exact HB.out | apply below_alloc | apply pw_below_drewN | apply below_drew1 | refine below_set ?_ (IsS53.ge HI182.out)) | exact HB.out))))
             have n1_ := Aside0.mk (IsS53.below (by repeat (first | (with_reducible first | exact HI182.out | apply IsS53.alloc | apply IsS53.drewN | apply IsS53.drew | apply IsS53.set_0) | exact HI182.out)) hb)
             have n2_ := Aside0.mk (below_step (by repeat (first | (with_reducible first | exact HB.out | apply below_alloc | apply pw_below_drewN | apply below_drew1 | refine below_set ?_ (IsS53.ge HI182.out)) | exact HB.out)) hb)
             clear HI182
             clear HB
             have HO188 := n0_
             have HI182 := n1_
             have HB := n2_
             clear n0_ n1_ n2_
             clear hb ho32
             obtain ⟨Ao33, co33, eo33⟩ := Kd.R_slice HO188.out
             (first | subst eo33 | (injection eo33 with f1_ f2_ f3_; have f4_ := f1_.symm; have f5_ := f3_.symm; clear f1_ f2_ f3_; subst f4_; subst f5_))
             refine hK.out _ _ ⟨((HB.out.cell (World.block_lt_of_cell? w _ hw183_0)).trans hw183_0), ((HB.out.cell (World.block_lt_of_cell? w _ hw184_0)).trans hw184_0), ((HB.out.cell (World.block_lt_of_cell? w _ hw185_0)).trans hw185_0), ((HB.out.cell (World.block_lt_of_cell? w _ hw191_0)).trans hw191_0)⟩ (fun hHeld => ?_)
             clear hK K
             refine norm_ (a' := ?_) ?_ ?_
             rotate_left
             ·
              show Act.put _ (some 53) _ = _
              simp only [Act.put, List.setIfInBounds_toArray, List.set_cons_zero, List.set_cons_succ, i64_w, i32_w]
              rfl
             refine one_ (i := 12) (N := some 54) #[true, true, true, true, true, true, true, true, true, true, true, true, true, true, true, true, false, false, false] rfl rfl (one_of HT_.out (by kernel_rfl)) (by decide) (fun K hK => ?_)
             refine goes_ Try.func11 (by kernel_rfl) rfl #[.pointer (some ⟨g182, 0, none⟩), .slice Ao33 y186.length co33] (by rfl) rfl rfl (by (try simp only [List.map_toArray, List.map_cons, List.map_nil]); first | done | rfl | (simp only [List.length_drop, List.length_take]; rfl)) ?_
             with_reducible refine (schedule_Shared.calls kj4 g182 t181 _ _ y186 t189 t190 w _ ?side1 ?side2 ?side3 ?side4 ?side5 A17.out).mono ?_
             (case side1 => repeat (first | (with_reducible first | exact HI182.out | apply IsS53.alloc | apply IsS53.drewN | apply IsS53.drew | apply IsS53.set_0) | exact HI182.out))
             (case side2 => repeat (first | (with_reducible first | exact HB.out | apply below_alloc | apply pw_below_drewN | apply below_drew1 | refine below_set ?_ (IsS53.ge HI182.out)) | exact HB.out))
             (case side3 => repeat (first | exact (Kd.R_reads' HO188.out).2.2 | (with_reducible refine Kd.C_alloc ?_ _) | (with_reducible refine Kd.C_drewN ?_ _) | (with_reducible refine Kd.C_drew ?_)))
             (case side4 => exact (Kd.R_reads' HO188.out).2.1)
             (case side5 => exact Kd.far_R (by (with_reducible repeat (first | apply Kd.R_alloc | apply Kd.R_drewN | apply Kd.R_drew)); exact HO188.out) (by decide))
             rintro e w34 ⟨rfl, hi, hb, hk⟩
             refine ⟨_, rfl, ?_⟩
             have n0_ := Aside0.mk (Kd.R_mono (Kd.R_keepSt (IsS53.apart (show IsS53 w _ g182 t181 from by repeat (first | (with_reducible first | exact HI182.out | apply IsS53.alloc | apply IsS53.drewN | apply IsS53.drew | apply IsS53.set_0) | exact HI182.out)) (by (with_reducible repeat (first | apply Kd.R_alloc | apply Kd.R_drewN | apply Kd.R_drew)); exact HO188.out) (by decide)) hk (fun _ h => h.2)) (fun _ h => h.1))
             have n1_ := Aside0.mk (hb)
             have n2_ := Aside0.mk (hi)
             clear HO188
             clear HB
             clear HI182
             have HO188 := n0_
             have HB := n1_
             have HI182 := n2_
             clear n0_ n1_ n2_
             (try clear hb)
             (try clear hb2)
             (try clear hk)
             (try clear hi)
             refine hK.out _ _ ⟨((HB.out.cell (World.block_lt_of_cell? w _ hw183_0)).trans hw183_0), ((HB.out.cell (World.block_lt_of_cell? w _ hw184_0)).trans hw184_0), ((HB.out.cell (World.block_lt_of_cell? w _ hw185_0)).trans hw185_0), ((HB.out.cell (World.block_lt_of_cell? w _ hw191_0)).trans hw191_0)⟩ (fun hHeld => ?_)
             clear hK K
             refine norm_ (a' := ?_) ?_ ?_
             rotate_left
             ·
              show Act.put _ (some 54) _ = _
              simp only [Act.put, List.setIfInBounds_toArray, List.set_cons_zero, List.set_cons_succ, i64_w, i32_w]
              rfl
             refine one_ (i := 16) (N := some 58) #[true, true, true, true, true, true, true, true, true, true, true, true, true, true, true, true, true, false, false] rfl rfl (one_of HT_.out (by kernel_rfl)) (by decide) (fun K hK => ?_)
             refine goes_ Try.func10 (by kernel_rfl) rfl #[.pointer (some ⟨g182, 0, none⟩), .int .i64 (rd l0 0), .int .i64 (rd l0 1), .int .i64 t189, .int .i64 (rd l0 3)] (by rfl) rfl rfl (by (try simp only [List.map_toArray, List.map_cons, List.map_nil]); first | done | rfl | (simp only [List.length_drop, List.length_take]; rfl)) ?_
             with_reducible refine (schedule_Next.calls g182 t190 (rd l0 0) (rd l0 1) t189 (rd l0 3) t192 t193 t194 t195 t196 t197 t198 t199 t200 t201 t202 t203 t204 t205 w _ ?side1 ?side2 A19.out).mono ?_
             (case side1 => repeat (first | (with_reducible first | exact HI182.out | apply IsS53.alloc | apply IsS53.drewN | apply IsS53.drew | apply IsS53.set_0) | exact HI182.out))
             (case side2 => repeat (first | (with_reducible first | exact HB.out | apply below_alloc | apply pw_below_drewN | apply below_drew1 | refine below_set ?_ (IsS53.ge HI182.out)) | exact HB.out))
             rintro e w35 ⟨rfl, hi, hb, hk⟩
             refine ⟨_, rfl, ?_⟩
             have n0_ := Aside0.mk (Kd.R_mono (Kd.R_keepSt (IsS53.apart (show IsS53 w _ g182 t190 from by repeat (first | (with_reducible first | exact HI182.out | apply IsS53.alloc | apply IsS53.drewN | apply IsS53.drew | apply IsS53.set_0) | exact HI182.out)) (by (with_reducible repeat (first | apply Kd.R_alloc | apply Kd.R_drewN | apply Kd.R_drew)); exact HO188.out) (by decide)) hk (fun _ h => h.2)) (fun _ h => h.1))
             have n1_ := Aside0.mk (hb)
             have n2_ := Aside0.mk (hi)
             clear HO188
             clear HB
             clear HI182
             have HO188 := n0_
             have HB := n1_
             have HI182 := n2_
             clear n0_ n1_ n2_
             (try clear hb)
             (try clear hb2)
             (try clear hk)
             (try clear hi)
             refine hK.out _ _ ⟨((HB.out.cell (World.block_lt_of_cell? w _ hw183_0)).trans hw183_0), ((HB.out.cell (World.block_lt_of_cell? w _ hw184_0)).trans hw184_0), ((HB.out.cell (World.block_lt_of_cell? w _ hw185_0)).trans hw185_0), ((HB.out.cell (World.block_lt_of_cell? w _ hw191_0)).trans hw191_0)⟩ (fun hHeld => ?_)
             clear hK K
             refine norm_ (a' := ?_) ?_ ?_
             rotate_left
             ·
              show Act.put _ (some 58) _ = _
              simp only [Act.put, List.setIfInBounds_toArray, List.set_cons_zero, List.set_cons_succ, i64_w, i32_w]
              rfl
             refine one_ (i := 17) (N := some 59) #[true, true, true, true, true, true, true, true, true, true, true, true, true, true, true, true, true, true, false] rfl rfl (one_of HT_.out (by kernel_rfl)) (by decide) (fun K hK => ?_)
             refine goes_ Try.func9 (by kernel_rfl) rfl #[.agg #[.int .i64 t192, .int .i64 t193, .int .i64 t194, .int .i64 t195, .int .i64 t196, .int .i64 t197, .int .i64 t198, .int .i64 t199, .int .i64 t200, .int .i64 t201, .int .i64 t202, .int .i64 t203, .int .i64 t204]] (by rfl) rfl rfl (by (try simp only [List.map_toArray, List.map_cons, List.map_nil]); first | done | rfl | (simp only [List.length_drop, List.length_take]; rfl)) ?_
             with_reducible refine (conclavelaw07_all.calls t192 t193 t194 t195 t196 t197 t198 t199 t200 t201 t202 t203 t204 t206 _ A20.out).mono ?_
             rintro e w36 ⟨v207, rfl, ho0, hb⟩
             refine ⟨_, rfl, ?_⟩
             have n0_ := Aside0.mk (Kd.R_elder' (by (with_reducible repeat (first | apply Kd.R_alloc | apply Kd.R_drewN | apply Kd.R_drew)); exact HO188.out) (Kd.R_base ho0) hb)
             have n1_ := Aside0.mk (Kd.R_lower (Kd.R_new' ho0 (Kd.R_lt (by (with_reducible repeat (first | apply Kd.R_alloc | apply Kd.R_drewN | apply Kd.R_drew)); exact HO188.out))) (below_size (by repeat (first | (with_reducible first | exact HB.out | apply below_alloc | apply pw_below_drewN | apply below_drew1 | refine below_set ?_ (IsS53.ge HI182.out)) | exact HB.out))))
             have n2_ := Aside0.mk (IsS53.below (by repeat (first | (with_reducible first | exact HI182.out | apply IsS53.alloc | apply IsS53.drewN | apply IsS53.drew | apply IsS53.set_0) | exact HI182.out)) hb)
             have n3_ := Aside0.mk (below_step (by repeat (first | (with_reducible first | exact HB.out | apply below_alloc | apply pw_below_drewN | apply below_drew1 | refine below_set ?_ (IsS53.ge HI182.out)) | exact HB.out)) hb)
             clear HO188
             clear HI182
             clear HB
             have HO188 := n0_
             have HO208 := n1_
             have HI182 := n2_
             have HB := n3_
             clear n0_ n1_ n2_ n3_
             (try clear hb)
             (try clear hb2)
             (try clear hk)
             (try clear hi)
             (try clear ho0)
             refine hK.out _ _ ⟨((HB.out.cell (World.block_lt_of_cell? w _ hw183_0)).trans hw183_0), ((HB.out.cell (World.block_lt_of_cell? w _ hw184_0)).trans hw184_0), ((HB.out.cell (World.block_lt_of_cell? w _ hw185_0)).trans hw185_0), ((HB.out.cell (World.block_lt_of_cell? w _ hw191_0)).trans hw191_0)⟩ (fun hHeld => ?_)
             clear hK K
             refine norm_ (a' := ?_) ?_ ?_
             rotate_left
             ·
              show Act.put _ (some 59) _ = _
              simp only [Act.put, List.setIfInBounds_toArray, List.set_cons_zero, List.set_cons_succ, i64_w, i32_w]
              rfl
             refine pure_ (i := 18) (N := some 7) (v := ?_) (a' := ?_) #[true, true, true, true, true, true, true, true, true, true, true, true, true, true, true, true, true, true, true] rfl rfl (any_of HT_.out (by kernel_rfl)) (fun _ _ _ h => h) (Or.inl ⟨by rfl, ?_⟩) ?_ ?_
             rotate_left; (intro w'; go_simp; with_reducible rfl); rotate_left; (simp only [Act.put, List.setIfInBounds_toArray, List.set_cons_zero, List.set_cons_succ, i64_w, i32_w]; rfl)
             refine done_ (done_of HT_.out (by kernel_rfl)) ?_
             try go_wp2
             have n0_ := Aside0.mk (Kd.R_drew HO188.out)
             have n1_ := Aside0.mk (Kd.R_drew HO208.out)
             have n2_ := Aside0.mk (IsS53.drew HI182.out)
             have n3_ := Aside0.mk (below_drew1 HB.out)
             clear HO188
             clear HO208
             clear HI182
             clear HB
             have HO188 := n0_
             have HO208 := n1_
             have HI182 := n2_
             have HB := n3_
             clear n0_ n1_ n2_ n3_
             have p209 : 0 ≤ (0 : Int) := (by omega)
             have q209 : 0 < (l1.length : Int) := of_decide_eq_true (by first | (with_reducible assumption) | assumption)
             obtain ⟨ad209, e209, hx209_0⟩ := Kd.at_int HR1.out 0 p209 q209
             have hw209_0 := hx209_0
             (try rw [show ((0 : Int)).toNat = 0 from rfl] at hw209_0)
             (try rw [show 0 * 1 = 0 from rfl] at hw209_0)
             (try rw [Addr.add_zero'] at hw209_0)
             cases e209
             have qi209 : (0 < l1.length) = True := eq_true (by omega)
             (try rw [show ((0 : Int)).toNat = 0 from rfl] at hx209_0)
             (try rw [Addr.add_zero'] at hx209_0)
             replace hx209_0 := (HB.out.cell (World.block_lt_of_cell? w _ hx209_0)).trans hx209_0
             replace p209 := eq_true p209
             replace q209 := eq_true q209
             have p210 : 0 ≤ (1 : Int) := (by omega)
             have q210 : 1 < (l1.length : Int) := of_decide_eq_true (by first | (with_reducible assumption) | assumption)
             obtain ⟨ad210, e210, hx210_0⟩ := Kd.at_int HR1.out 1 p210 q210
             have hw210_0 := hx210_0
             (try rw [show ((1 : Int)).toNat = 1 from rfl] at hw210_0)
             (try rw [show 1 * 1 = 1 from rfl] at hw210_0)
             (try simp only [Nat.reduceMul, Nat.reduceEqDiff, Go.Addr.add, ↓reduceIte] at hw210_0)
             obtain rfl : ad209 = ad210 := (by injection e210)
             (try simp only [show (1 : Int).toNat = 1 from rfl, Nat.reduceMul, Nat.reduceEqDiff, Go.Addr.add, ↓reduceIte] at hx210_0)
             have qi210 : (1 < l1.length) = True := eq_true (by omega)
             (try rw [show ((1 : Int)).toNat = 1 from rfl] at hx210_0)
             replace hx210_0 := (HB.out.cell (World.block_lt_of_cell? w _ hx210_0)).trans hx210_0
             replace p210 := eq_true p210
             replace q210 := eq_true q210
             have p211 : 0 ≤ (2 : Int) := (by omega)
             have q211 : 2 < (l1.length : Int) := of_decide_eq_true (by first | (with_reducible assumption) | assumption)
             obtain ⟨ad211, e211, hx211_0⟩ := Kd.at_int HR1.out 2 p211 q211
             have hw211_0 := hx211_0
             (try rw [show ((2 : Int)).toNat = 2 from rfl] at hw211_0)
             (try rw [show 2 * 1 = 2 from rfl] at hw211_0)
             (try simp only [Nat.reduceMul, Nat.reduceEqDiff, Go.Addr.add, ↓reduceIte] at hw211_0)
             obtain rfl : ad209 = ad211 := (by injection e211)
             (try simp only [show (2 : Int).toNat = 2 from rfl, Nat.reduceMul, Nat.reduceEqDiff, Go.Addr.add, ↓reduceIte] at hx211_0)
             have qi211 : (2 < l1.length) = True := eq_true (by omega)
             (try rw [show ((2 : Int)).toNat = 2 from rfl] at hx211_0)
             replace hx211_0 := (HB.out.cell (World.block_lt_of_cell? w _ hx211_0)).trans hx211_0
             replace p211 := eq_true p211
             replace q211 := eq_true q211
             have p217 : 0 ≤ (3 : Int) := (by omega)
             have q217 : 3 < (l1.length : Int) := of_decide_eq_true (by first | (with_reducible assumption) | assumption)
             obtain ⟨ad217, e217, hx217_0⟩ := Kd.at_int HR1.out 3 p217 q217
             have hw217_0 := hx217_0
             (try rw [show ((3 : Int)).toNat = 3 from rfl] at hw217_0)
             (try rw [show 3 * 1 = 3 from rfl] at hw217_0)
             (try simp only [Nat.reduceMul, Nat.reduceEqDiff, Go.Addr.add, ↓reduceIte] at hw217_0)
             obtain rfl : ad209 = ad217 := (by injection e217)
             (try simp only [show (3 : Int).toNat = 3 from rfl, Nat.reduceMul, Nat.reduceEqDiff, Go.Addr.add, ↓reduceIte] at hx217_0)
             have qi217 : (3 < l1.length) = True := eq_true (by omega)
             (try rw [show ((3 : Int)).toNat = 3 from rfl] at hx217_0)
             replace hx217_0 := (HB.out.cell (World.block_lt_of_cell? w _ hx217_0)).trans hx217_0
             replace p217 := eq_true p217
             replace q217 := eq_true q217
             refine start_ (n := 19) (S := fun w' => w'.cell? ad209 = some (.int .i64 (rd l1 0)) ∧ w'.cell? ⟨ad209.block, ad209.off + 1, none⟩ = some (.int .i64 (rd l1 1)) ∧ w'.cell? ⟨ad209.block, ad209.off + 2, none⟩ = some (.int .i64 (rd l1 2)) ∧ w'.cell? ⟨ad209.block, ad209.off + 3, none⟩ = some (.int .i64 (rd l1 3))) (ds := []) #[false, false, false, false, false, false, false, false, false, false, false, false, false, false, false, false, false, false, false] (by kernel_rfl) rfl rfl ⟨((HB.out.cell (World.block_lt_of_cell? w _ hw209_0)).trans hw209_0), ((HB.out.cell (World.block_lt_of_cell? w _ hw210_0)).trans hw210_0), ((HB.out.cell (World.block_lt_of_cell? w _ hw211_0)).trans hw211_0), ((HB.out.cell (World.block_lt_of_cell? w _ hw217_0)).trans hw217_0)⟩ (fun hHeld => ?_); refine with_tabW conclavelaw07_ScheduleApart.tab9 conclavelaw07_ScheduleApart.bits9 (fun HT_ HW_ => ?_)
             generalize w36.drew = w37 at HO188 HO208 HI182 HB hx209_0 hx210_0 hx211_0 hx217_0 hHeld ⊢
             refine pure_ (i := 0) (N := some 60) (v := ?_) (a' := ?_) #[true, false, false, false, false, false, false, false, false, false, false, false, false, false, false, false, false, false, false] rfl rfl (any_of HT_.out (by kernel_rfl)) (fun _ _ _ h => h) (Or.inl ⟨by rfl, ?_⟩) ?_ ?_
             rotate_left; (intro w'; go_simp; with_reducible rfl); rotate_left; (simp only [Act.put, List.setIfInBounds_toArray, List.set_cons_zero, List.set_cons_succ, i64_w, i32_w]; rfl)
             refine pure_ (i := 1) (N := some 61) (v := ?_) (a' := ?_) #[true, true, false, false, false, false, false, false, false, false, false, false, false, false, false, false, false, false, false] rfl rfl (any_of HT_.out (by kernel_rfl)) (fun _ _ _ h => h) (Or.inl ⟨by rfl, ?_⟩) ?_ ?_
             rotate_left; (intro w'; go_simp; with_reducible rfl); rotate_left; (simp only [Act.put, List.setIfInBounds_toArray, List.set_cons_zero, List.set_cons_succ, i64_w, i32_w]; rfl)
             refine pure_ (i := 2) (N := some 62) (v := ?_) (a' := ?_) #[true, true, true, false, false, false, false, false, false, false, false, false, false, false, false, false, false, false, false] rfl rfl (any_of HT_.out (by kernel_rfl)) (fun _ _ _ h => h) (Or.inl ⟨by rfl, ?_⟩) ?_ ?_
             rotate_left; (intro w'; go_simp; with_reducible rfl); rotate_left; (simp only [Act.put, List.setIfInBounds_toArray, List.set_cons_zero, List.set_cons_succ, i64_w, i32_w]; rfl)
             refine pure_ (i := 4) (N := some 64) (v := ?_) (a' := ?_) #[true, true, true, false, true, false, false, false, false, false, false, false, false, false, false, false, false, false, false] rfl rfl (any_of HT_.out (by kernel_rfl)) (fun _ _ _ h => h) (Or.inl ⟨by rfl, ?_⟩) ?_ ?_
             rotate_left; (intro w'; go_simp; with_reducible rfl); rotate_left; (simp only [Act.put, List.setIfInBounds_toArray, List.set_cons_zero, List.set_cons_succ, i64_w, i32_w]; rfl)
             refine pure_ (i := 5) (N := some 65) (v := ?_) (a' := ?_) #[true, true, true, false, true, true, false, false, false, false, false, false, false, false, false, false, false, false, false] rfl rfl (any_of HT_.out (by kernel_rfl)) (fun _ _ _ h => h) (Or.inl ⟨by rfl, ?_⟩) ?_ ?_
             rotate_left; (intro w'; go_simp; with_reducible rfl); rotate_left; (simp only [Act.put, List.setIfInBounds_toArray, List.set_cons_zero, List.set_cons_succ, i64_w, i32_w]; rfl)
             refine pure_ (i := 7) (N := some 67) (v := ?_) (a' := ?_) #[true, true, true, false, true, true, false, true, false, false, false, false, false, false, false, false, false, false, false] rfl rfl (any_of HT_.out (by kernel_rfl)) (fun _ _ _ h => h) (Or.inl ⟨by rfl, ?_⟩) ?_ ?_
             rotate_left; (intro w'; go_simp; with_reducible rfl); rotate_left; (simp only [Act.put, List.setIfInBounds_toArray, List.set_cons_zero, List.set_cons_succ, i64_w, i32_w]; rfl)
             refine pure_ (i := 8) (N := some 68) (v := ?_) (a' := ?_) #[true, true, true, false, true, true, false, true, true, false, false, false, false, false, false, false, false, false, false] rfl rfl (any_of HT_.out (by kernel_rfl)) (fun _ _ _ h => h) (Or.inl ⟨by rfl, ?_⟩) ?_ ?_
             rotate_left; (intro w'; go_simp; with_reducible rfl); rotate_left; (simp only [Act.put, List.setIfInBounds_toArray, List.set_cons_zero, List.set_cons_succ, i64_w, i32_w]; rfl)
             refine pure_ (i := 9) (N := some 69) (v := ?_) (a' := ?_) #[true, true, true, false, true, true, false, true, true, true, false, false, false, false, false, false, false, false, false] rfl rfl (any_of HT_.out (by kernel_rfl)) (fun _ _ _ h => h) (Or.inl ⟨by rfl, ?_⟩) ?_ ?_
             rotate_left; (intro w'; go_simp; with_reducible rfl); rotate_left; (simp only [Act.put, List.setIfInBounds_toArray, List.set_cons_zero, List.set_cons_succ, i64_w, i32_w]; rfl)
             refine pure_ (i := 13) (N := some 73) (v := ?_) (a' := ?_) #[true, true, true, false, true, true, false, true, true, true, false, false, false, true, false, false, false, false, false] rfl rfl (any_of HT_.out (by kernel_rfl)) (fun _ _ _ h => h) (Or.inl ⟨by rfl, ?_⟩) ?_ ?_
             rotate_left; (intro w'; go_simp; with_reducible rfl); rotate_left; (simp only [Act.put, List.setIfInBounds_toArray, List.set_cons_zero, List.set_cons_succ, i64_w, i32_w]; rfl)
             refine pure_ (i := 14) (N := some 74) (v := ?_) (a' := ?_) #[true, true, true, false, true, true, false, true, true, true, false, false, false, true, true, false, false, false, false] rfl rfl (any_of HT_.out (by kernel_rfl)) (fun _ _ _ h => h) (Or.inl ⟨by rfl, ?_⟩) ?_ ?_
             rotate_left; (intro w'; go_simp; with_reducible rfl); rotate_left; (simp only [Act.put, List.setIfInBounds_toArray, List.set_cons_zero, List.set_cons_succ, i64_w, i32_w]; rfl)
             refine take_ (i := 3) (N := some 63) (v := ?_) (a' := ?_) #[true, true, true, true, true, true, false, true, true, true, false, false, false, true, true, false, false, false, false] rfl rfl (take_ofW HT_.out HW_.out (by kernel_rfl)) (fun _ _ _ h => h) (Or.inl ⟨by rfl, ?_⟩) hHeld ?_ ?_
             rotate_left
             ·
              rintro w' ⟨s0, s1, s2, s3⟩
              go_simp
              with_reducible rfl
             rotate_left
             ·
              simp only [Act.put, List.setIfInBounds_toArray, List.set_cons_zero, List.set_cons_succ, i64_w, i32_w]
              rfl
             refine take_ (i := 6) (N := some 66) (v := ?_) (a' := ?_) #[true, true, true, true, true, true, true, true, true, true, false, false, false, true, true, false, false, false, false] rfl rfl (take_ofW HT_.out HW_.out (by kernel_rfl)) (fun _ _ _ h => h) (Or.inl ⟨by rfl, ?_⟩) hHeld ?_ ?_
             rotate_left
             ·
              rintro w' ⟨s0, s1, s2, s3⟩
              go_simp
              with_reducible rfl
             rotate_left
             ·
              simp only [Act.put, List.setIfInBounds_toArray, List.set_cons_zero, List.set_cons_succ, i64_w, i32_w]
              rfl
             refine take_ (i := 10) (N := some 70) (v := ?_) (a' := ?_) #[true, true, true, true, true, true, true, true, true, true, true, false, false, true, true, false, false, false, false] rfl rfl (take_ofW HT_.out HW_.out (by kernel_rfl)) (fun _ _ _ h => h) (Or.inl ⟨by rfl, ?_⟩) hHeld ?_ ?_
             rotate_left
             ·
              rintro w' ⟨s0, s1, s2, s3⟩
              go_simp
              with_reducible rfl
             rotate_left
             ·
              simp only [Act.put, List.setIfInBounds_toArray, List.set_cons_zero, List.set_cons_succ, i64_w, i32_w]
              rfl
             refine take_ (i := 15) (N := some 75) (v := ?_) (a' := ?_) #[true, true, true, true, true, true, true, true, true, true, true, false, false, true, true, true, false, false, false] rfl rfl (take_ofW HT_.out HW_.out (by kernel_rfl)) (fun _ _ _ h => h) (Or.inl ⟨by rfl, ?_⟩) hHeld ?_ ?_
             rotate_left
             ·
              rintro w' ⟨s0, s1, s2, s3⟩
              go_simp
              with_reducible rfl
             rotate_left
             ·
              simp only [Act.put, List.setIfInBounds_toArray, List.set_cons_zero, List.set_cons_succ, i64_w, i32_w]
              rfl
             refine one_ (i := 11) (N := some 71) #[true, true, true, true, true, true, true, true, true, true, true, true, false, true, true, true, false, false, false] rfl rfl (one_of HT_.out (by kernel_rfl)) (by decide) (fun K hK => ?_)
             refine Kd.R_lit_step (Kd.int .i64) _ 3 ?hg (N := 71) ?hd (xs := ([rd l1 2] : List Int)) (inner := [.int .i64 (rd l1 2)]) (ok := fun _ => True) (okp := fun _ => True) ?hr ?hp (fun _ hk => hk) trivial (Below.refl _ _) (Nat.le_refl _) (by simp) ?_; (case hd => rfl); (case hg => rfl); (case hr => first | (go_simp; done) | (go_simp; rfl)); (case hp => exact (Reps.one (show Kd.M (Kd.int .i64) _ _ _ (rd l1 2) [.int .i64 (rd l1 2)] from rfl) (Reps.none _ _)))
             intro v213 w38 ho39 hb hg_ hnew_
             clear hg_ hnew_
             (first | rw [← Ny212.out] at ho39 | (simp only [Int.reduceToNat] at ho39; rw [← Ny212.out] at ho39))
             have n0_ := Aside0.mk (Kd.R_elder' (by (with_reducible repeat (first | apply Kd.R_alloc | apply Kd.R_drewN | apply Kd.R_drew)); exact HO188.out) (Kd.R_base ho39) hb)
             have n1_ := Aside0.mk (Kd.R_elder' (by (with_reducible repeat (first | apply Kd.R_alloc | apply Kd.R_drewN | apply Kd.R_drew)); exact HO208.out) (Kd.R_base ho39) hb)
             have n2_ := Aside0.mk (Kd.R_lower (Kd.R_new' (Kd.R_new' ho39 (Kd.R_lt (by (with_reducible repeat (first | apply Kd.R_alloc | apply Kd.R_drewN | apply Kd.R_drew)); exact HO188.out))) (Kd.R_lt (by (with_reducible repeat (first | apply Kd.R_alloc | apply Kd.R_drewN | apply Kd.R_drew)); exact HO208.out))) (below_size (by repeat (first | (with_reducible first | exact HB.out | apply below_alloc | apply pw_below_drewN | apply below_drew1 | refine below_set ?_ (IsS53.ge HI182.out)) | exact HB.out))))
             have n3_ := Aside0.mk (IsS53.below (by repeat (first | (with_reducible first | exact HI182.out | apply IsS53.alloc | apply IsS53.drewN | apply IsS53.drew | apply IsS53.set_0) | exact HI182.out)) hb)
             have n4_ := Aside0.mk (below_step (by repeat (first | (with_reducible first | exact HB.out | apply below_alloc | apply pw_below_drewN | apply below_drew1 | refine below_set ?_ (IsS53.ge HI182.out)) | exact HB.out)) hb)
             clear HO188
             clear HO208
             clear HI182
             clear HB
             have HO188 := n0_
             have HO208 := n1_
             have HO214 := n2_
             have HI182 := n3_
             have HB := n4_
             clear n0_ n1_ n2_ n3_ n4_
             clear hb ho39
             obtain ⟨Ao40, co40, eo40⟩ := Kd.R_slice HO214.out
             (first | subst eo40 | (injection eo40 with f1_ f2_ f3_; have f4_ := f1_.symm; have f5_ := f3_.symm; clear f1_ f2_ f3_; subst f4_; subst f5_))
             refine hK.out _ _ ⟨((HB.out.cell (World.block_lt_of_cell? w _ hw209_0)).trans hw209_0), ((HB.out.cell (World.block_lt_of_cell? w _ hw210_0)).trans hw210_0), ((HB.out.cell (World.block_lt_of_cell? w _ hw211_0)).trans hw211_0), ((HB.out.cell (World.block_lt_of_cell? w _ hw217_0)).trans hw217_0)⟩ (fun hHeld => ?_)
             clear hK K
             refine norm_ (a' := ?_) ?_ ?_
             rotate_left
             ·
              show Act.put _ (some 71) _ = _
              simp only [Act.put, List.setIfInBounds_toArray, List.set_cons_zero, List.set_cons_succ, i64_w, i32_w]
              rfl
             refine one_ (i := 12) (N := some 72) #[true, true, true, true, true, true, true, true, true, true, true, true, true, true, true, true, false, false, false] rfl rfl (one_of HT_.out (by kernel_rfl)) (by decide) (fun K hK => ?_)
             refine goes_ Try.func11 (by kernel_rfl) rfl #[.pointer (some ⟨g182, 0, none⟩), .slice Ao40 y212.length co40] (by rfl) rfl rfl (by (try simp only [List.map_toArray, List.map_cons, List.map_nil]); first | done | rfl | (simp only [List.length_drop, List.length_take]; rfl)) ?_
             with_reducible refine (schedule_Shared.calls kj4 g182 t205 _ _ y212 t215 t216 w _ ?side1 ?side2 ?side3 ?side4 ?side5 A24.out).mono ?_
             (case side1 => repeat (first | (with_reducible first | exact HI182.out | apply IsS53.alloc | apply IsS53.drewN | apply IsS53.drew | apply IsS53.set_0) | exact HI182.out))
             (case side2 => repeat (first | (with_reducible first | exact HB.out | apply below_alloc | apply pw_below_drewN | apply below_drew1 | refine below_set ?_ (IsS53.ge HI182.out)) | exact HB.out))
             (case side3 => repeat (first | exact (Kd.R_reads' HO214.out).2.2 | (with_reducible refine Kd.C_alloc ?_ _) | (with_reducible refine Kd.C_drewN ?_ _) | (with_reducible refine Kd.C_drew ?_)))
             (case side4 => exact (Kd.R_reads' HO214.out).2.1)
             (case side5 => exact Kd.far_R (by (with_reducible repeat (first | apply Kd.R_alloc | apply Kd.R_drewN | apply Kd.R_drew)); exact HO214.out) (by decide))
             rintro e w41 ⟨rfl, hi, hb, hk⟩
             refine ⟨_, rfl, ?_⟩
             have n0_ := Aside0.mk (Kd.R_mono (Kd.R_keepSt (IsS53.apart (show IsS53 w _ g182 t205 from by repeat (first | (with_reducible first | exact HI182.out | apply IsS53.alloc | apply IsS53.drewN | apply IsS53.drew | apply IsS53.set_0) | exact HI182.out)) (by (with_reducible repeat (first | apply Kd.R_alloc | apply Kd.R_drewN | apply Kd.R_drew)); exact HO188.out) (by decide)) hk (fun _ h => h.2)) (fun _ h => h.1))
             have n1_ := Aside0.mk (Kd.R_mono (Kd.R_keepSt (IsS53.apart (show IsS53 w _ g182 t205 from by repeat (first | (with_reducible first | exact HI182.out | apply IsS53.alloc | apply IsS53.drewN | apply IsS53.drew | apply IsS53.set_0) | exact HI182.out)) (by (with_reducible repeat (first | apply Kd.R_alloc | apply Kd.R_drewN | apply Kd.R_drew)); exact HO208.out) (by decide)) hk (fun _ h => h.2)) (fun _ h => h.1))
             have n2_ := Aside0.mk (Kd.R_mono (Kd.R_keepSt (IsS53.apart (show IsS53 w _ g182 t205 from by repeat (first | (with_reducible first | exact HI182.out | apply IsS53.alloc | apply IsS53.drewN | apply IsS53.drew | apply IsS53.set_0) | exact HI182.out)) (by (with_reducible repeat (first | apply Kd.R_alloc | apply Kd.R_drewN | apply Kd.R_drew)); exact HO214.out) (by decide)) hk (fun _ h => h.2)) (fun _ h => h.1))
             have n3_ := Aside0.mk (hb)
             have n4_ := Aside0.mk (hi)
             clear HO188
             clear HO208
             clear HO214
             clear HB
             clear HI182
             have HO188 := n0_
             have HO208 := n1_
             have HO214 := n2_
             have HB := n3_
             have HI182 := n4_
             clear n0_ n1_ n2_ n3_ n4_
             (try clear hb)
             (try clear hb2)
             (try clear hk)
             (try clear hi)
             refine hK.out _ _ ⟨((HB.out.cell (World.block_lt_of_cell? w _ hw209_0)).trans hw209_0), ((HB.out.cell (World.block_lt_of_cell? w _ hw210_0)).trans hw210_0), ((HB.out.cell (World.block_lt_of_cell? w _ hw211_0)).trans hw211_0), ((HB.out.cell (World.block_lt_of_cell? w _ hw217_0)).trans hw217_0)⟩ (fun hHeld => ?_)
             clear hK K
             refine norm_ (a' := ?_) ?_ ?_
             rotate_left
             ·
              show Act.put _ (some 72) _ = _
              simp only [Act.put, List.setIfInBounds_toArray, List.set_cons_zero, List.set_cons_succ, i64_w, i32_w]
              rfl
             refine one_ (i := 16) (N := some 76) #[true, true, true, true, true, true, true, true, true, true, true, true, true, true, true, true, true, false, false] rfl rfl (one_of HT_.out (by kernel_rfl)) (by decide) (fun K hK => ?_)
             refine goes_ Try.func10 (by kernel_rfl) rfl #[.pointer (some ⟨g182, 0, none⟩), .int .i64 (rd l1 0), .int .i64 (rd l1 1), .int .i64 t215, .int .i64 (rd l1 3)] (by rfl) rfl rfl (by (try simp only [List.map_toArray, List.map_cons, List.map_nil]); first | done | rfl | (simp only [List.length_drop, List.length_take]; rfl)) ?_
             with_reducible refine (schedule_Next.calls g182 t216 (rd l1 0) (rd l1 1) t215 (rd l1 3) t218 t219 t220 t221 t222 t223 t224 t225 t226 t227 t228 t229 t230 t231 w _ ?side1 ?side2 A26.out).mono ?_
             (case side1 => repeat (first | (with_reducible first | exact HI182.out | apply IsS53.alloc | apply IsS53.drewN | apply IsS53.drew | apply IsS53.set_0) | exact HI182.out))
             (case side2 => repeat (first | (with_reducible first | exact HB.out | apply below_alloc | apply pw_below_drewN | apply below_drew1 | refine below_set ?_ (IsS53.ge HI182.out)) | exact HB.out))
             rintro e w42 ⟨rfl, hi, hb, hk⟩
             refine ⟨_, rfl, ?_⟩
             have n0_ := Aside0.mk (Kd.R_mono (Kd.R_keepSt (IsS53.apart (show IsS53 w _ g182 t216 from by repeat (first | (with_reducible first | exact HI182.out | apply IsS53.alloc | apply IsS53.drewN | apply IsS53.drew | apply IsS53.set_0) | exact HI182.out)) (by (with_reducible repeat (first | apply Kd.R_alloc | apply Kd.R_drewN | apply Kd.R_drew)); exact HO188.out) (by decide)) hk (fun _ h => h.2)) (fun _ h => h.1))
             have n1_ := Aside0.mk (Kd.R_mono (Kd.R_keepSt (IsS53.apart (show IsS53 w _ g182 t216 from by repeat (first | (with_reducible first | exact HI182.out | apply IsS53.alloc | apply IsS53.drewN | apply IsS53.drew | apply IsS53.set_0) | exact HI182.out)) (by (with_reducible repeat (first | apply Kd.R_alloc | apply Kd.R_drewN | apply Kd.R_drew)); exact HO208.out) (by decide)) hk (fun _ h => h.2)) (fun _ h => h.1))
             have n2_ := Aside0.mk (Kd.R_mono (Kd.R_keepSt (IsS53.apart (show IsS53 w _ g182 t216 from by repeat (first | (with_reducible first | exact HI182.out | apply IsS53.alloc | apply IsS53.drewN | apply IsS53.drew | apply IsS53.set_0) | exact HI182.out)) (by (with_reducible repeat (first | apply Kd.R_alloc | apply Kd.R_drewN | apply Kd.R_drew)); exact HO214.out) (by decide)) hk (fun _ h => h.2)) (fun _ h => h.1))
             have n3_ := Aside0.mk (hb)
             have n4_ := Aside0.mk (hi)
             clear HO188
             clear HO208
             clear HO214
             clear HB
             clear HI182
             have HO188 := n0_
             have HO208 := n1_
             have HO214 := n2_
             have HB := n3_
             have HI182 := n4_
             clear n0_ n1_ n2_ n3_ n4_
             (try clear hb)
             (try clear hb2)
             (try clear hk)
             (try clear hi)
             refine hK.out _ _ ⟨((HB.out.cell (World.block_lt_of_cell? w _ hw209_0)).trans hw209_0), ((HB.out.cell (World.block_lt_of_cell? w _ hw210_0)).trans hw210_0), ((HB.out.cell (World.block_lt_of_cell? w _ hw211_0)).trans hw211_0), ((HB.out.cell (World.block_lt_of_cell? w _ hw217_0)).trans hw217_0)⟩ (fun hHeld => ?_)
             clear hK K
             refine norm_ (a' := ?_) ?_ ?_
             rotate_left
             ·
              show Act.put _ (some 76) _ = _
              simp only [Act.put, List.setIfInBounds_toArray, List.set_cons_zero, List.set_cons_succ, i64_w, i32_w]
              rfl
             refine one_ (i := 17) (N := some 77) #[true, true, true, true, true, true, true, true, true, true, true, true, true, true, true, true, true, true, false] rfl rfl (one_of HT_.out (by kernel_rfl)) (by decide) (fun K hK => ?_)
             refine goes_ Try.func9 (by kernel_rfl) rfl #[.agg #[.int .i64 t218, .int .i64 t219, .int .i64 t220, .int .i64 t221, .int .i64 t222, .int .i64 t223, .int .i64 t224, .int .i64 t225, .int .i64 t226, .int .i64 t227, .int .i64 t228, .int .i64 t229, .int .i64 t230]] (by rfl) rfl rfl (by (try simp only [List.map_toArray, List.map_cons, List.map_nil]); first | done | rfl | (simp only [List.length_drop, List.length_take]; rfl)) ?_
             with_reducible refine (conclavelaw07_all.calls t218 t219 t220 t221 t222 t223 t224 t225 t226 t227 t228 t229 t230 t232 _ A27.out).mono ?_
             rintro e w43 ⟨v233, rfl, ho0, hb⟩
             refine ⟨_, rfl, ?_⟩
             have n0_ := Aside0.mk (Kd.R_elder' (by (with_reducible repeat (first | apply Kd.R_alloc | apply Kd.R_drewN | apply Kd.R_drew)); exact HO188.out) (Kd.R_base ho0) hb)
             have n1_ := Aside0.mk (Kd.R_elder' (by (with_reducible repeat (first | apply Kd.R_alloc | apply Kd.R_drewN | apply Kd.R_drew)); exact HO208.out) (Kd.R_base ho0) hb)
             have n2_ := Aside0.mk (Kd.R_elder' (by (with_reducible repeat (first | apply Kd.R_alloc | apply Kd.R_drewN | apply Kd.R_drew)); exact HO214.out) (Kd.R_base ho0) hb)
             have n3_ := Aside0.mk (Kd.R_lower (Kd.R_new' (Kd.R_new' (Kd.R_new' ho0 (Kd.R_lt (by (with_reducible repeat (first | apply Kd.R_alloc | apply Kd.R_drewN | apply Kd.R_drew)); exact HO188.out))) (Kd.R_lt (by (with_reducible repeat (first | apply Kd.R_alloc | apply Kd.R_drewN | apply Kd.R_drew)); exact HO208.out))) (Kd.R_lt (by (with_reducible repeat (first | apply Kd.R_alloc | apply Kd.R_drewN | apply Kd.R_drew)); exact HO214.out))) (below_size (by repeat (first | (with_reducible first | exact HB.out | apply below_alloc | apply pw_below_drewN | apply below_drew1 | refine below_set ?_ (IsS53.ge HI182.out)) | exact HB.out))))
             have n4_ := Aside0.mk (IsS53.below (by repeat (first | (with_reducible first | exact HI182.out | apply IsS53.alloc | apply IsS53.drewN | apply IsS53.drew | apply IsS53.set_0) | exact HI182.out)) hb)
             have n5_ := Aside0.mk (below_step (by repeat (first | (with_reducible first | exact HB.out | apply below_alloc | apply pw_below_drewN | apply below_drew1 | refine below_set ?_ (IsS53.ge HI182.out)) | exact HB.out)) hb)
             clear HO188
             clear HO208
             clear HO214
             clear HI182
             clear HB
             have HO188 := n0_
             have HO208 := n1_
             have HO214 := n2_
             have HO234 := n3_
             have HI182 := n4_
             have HB := n5_
             clear n0_ n1_ n2_ n3_ n4_ n5_
             (try clear hb)
             (try clear hb2)
             (try clear hk)
             (try clear hi)
             (try clear ho0)
             refine hK.out _ _ ⟨((HB.out.cell (World.block_lt_of_cell? w _ hw209_0)).trans hw209_0), ((HB.out.cell (World.block_lt_of_cell? w _ hw210_0)).trans hw210_0), ((HB.out.cell (World.block_lt_of_cell? w _ hw211_0)).trans hw211_0), ((HB.out.cell (World.block_lt_of_cell? w _ hw217_0)).trans hw217_0)⟩ (fun hHeld => ?_)
             clear hK K
             refine norm_ (a' := ?_) ?_ ?_
             rotate_left
             ·
              show Act.put _ (some 77) _ = _
              simp only [Act.put, List.setIfInBounds_toArray, List.set_cons_zero, List.set_cons_succ, i64_w, i32_w]
              rfl
             refine pure_ (i := 18) (N := some 8) (v := ?_) (a' := ?_) #[true, true, true, true, true, true, true, true, true, true, true, true, true, true, true, true, true, true, true] rfl rfl (any_of HT_.out (by kernel_rfl)) (fun _ _ _ h => h) (Or.inl ⟨by rfl, ?_⟩) ?_ ?_
             rotate_left; (intro w'; go_simp; with_reducible rfl); rotate_left; (simp only [Act.put, List.setIfInBounds_toArray, List.set_cons_zero, List.set_cons_succ, i64_w, i32_w]; rfl)
             refine done_ (done_of HT_.out (by kernel_rfl)) ?_
             go_upto_region 10 with (fail)
             go_cut [9] (fun v9 wc => ∃ (kq : Nat) (x9_27 : Bool), v9 = .bool x9_27 ∧ Aside0 (conclavelaw07_ScheduleApart.j1 kq l0 l1 t206 t232 x9_27 = some r) ∧ Aside0 (kq ≤ kj4) ∧ Aside0 (Kd.R (Kd.int .i64) 3 wc w.heap.size (fun k_ => some k_ ≠ (v233 : Value).ownBlock) v207 t206) ∧ Aside0 (Kd.R (Kd.int .i64) 3 wc w.heap.size (fun k_ => some k_ ≠ (v207 : Value).ownBlock) v233 t232) ∧ Aside0 (Below w.heap.size w wc))
             case first =>
              have H := HC28.out
              clear HC28
              by_cases c44 : (rd l0 0) = (rd l1 0)
              ·
               rw [if_pos c44] at H
               have c44b0 : ((rd l0 0) == (rd l1 0)) = true := beq_iff_eq.mpr c44
               have c44b1 : ((rd l0 0) != (rd l1 0)) = false := bne_eq_false_iff_eq.mpr c44
               clear c44
               (first | rw [c44b0] | (simp only [i64_w, i32_w]; rw [c44b0]) | skip)
               have H' := Aside0.mk H
               clear H
               try go_wp2
               have n0_ := Aside0.mk (Kd.R_drew HO188.out)
               have n1_ := Aside0.mk (Kd.R_drew HO208.out)
               have n2_ := Aside0.mk (Kd.R_drew HO214.out)
               have n3_ := Aside0.mk (Kd.R_drew HO234.out)
               have n4_ := Aside0.mk (IsS53.drew HI182.out)
               have n5_ := Aside0.mk (below_drew1 HB.out)
               clear HO188
               clear HO208
               clear HO214
               clear HO234
               clear HI182
               clear HB
               have HO188 := n0_
               have HO208 := n1_
               have HO214 := n2_
               have HO234 := n3_
               have HI182 := n4_
               have HB := n5_
               clear n0_ n1_ n2_ n3_ n4_ n5_
               have p235 : 0 ≤ (0 : Int) := (by omega)
               have q235 : 0 < (l0.length : Int) := of_decide_eq_true (by first | (with_reducible assumption) | assumption)
               obtain ⟨ad235, e235, hx235_0⟩ := Kd.at_int HR0.out 0 p235 q235
               have hw235_0 := hx235_0
               (try rw [show ((0 : Int)).toNat = 0 from rfl] at hw235_0)
               (try rw [show 0 * 1 = 0 from rfl] at hw235_0)
               (try rw [Addr.add_zero'] at hw235_0)
               obtain rfl : ad183 = ad235 := (by injection e235)
               have qi235 : (0 < l0.length) = True := eq_true (by omega)
               (try rw [show ((0 : Int)).toNat = 0 from rfl] at hx235_0)
               (try rw [Addr.add_zero'] at hx235_0)
               replace hx235_0 := (HB.out.cell (World.block_lt_of_cell? w _ hx235_0)).trans hx235_0
               replace p235 := eq_true p235
               replace q235 := eq_true q235
               have p236 : 0 ≤ (0 : Int) := (by omega)
               have q236 : 0 < (l1.length : Int) := of_decide_eq_true (by first | (with_reducible assumption) | assumption)
               obtain ⟨ad236, e236, hx236_0⟩ := Kd.at_int HR1.out 0 p236 q236
               have hw236_0 := hx236_0
               (try rw [show ((0 : Int)).toNat = 0 from rfl] at hw236_0)
               (try rw [show 0 * 1 = 0 from rfl] at hw236_0)
               (try rw [Addr.add_zero'] at hw236_0)
               obtain rfl : ad209 = ad236 := (by injection e236)
               have qi236 : (0 < l1.length) = True := eq_true (by omega)
               (try rw [show ((0 : Int)).toNat = 0 from rfl] at hx236_0)
               (try rw [Addr.add_zero'] at hx236_0)
               replace hx236_0 := (HB.out.cell (World.block_lt_of_cell? w _ hx236_0)).trans hx236_0
               replace p236 := eq_true p236
               replace q236 := eq_true q236
               have p237 : 0 ≤ (1 : Int) := (by omega)
               have q237 : 1 < (l0.length : Int) := of_decide_eq_true (by first | (with_reducible assumption) | assumption)
               obtain ⟨ad237, e237, hx237_0⟩ := Kd.at_int HR0.out 1 p237 q237
               have hw237_0 := hx237_0
               (try rw [show ((1 : Int)).toNat = 1 from rfl] at hw237_0)
               (try rw [show 1 * 1 = 1 from rfl] at hw237_0)
               (try simp only [Nat.reduceMul, Nat.reduceEqDiff, Go.Addr.add, ↓reduceIte] at hw237_0)
               obtain rfl : ad183 = ad237 := (by injection e237)
               (try simp only [show (1 : Int).toNat = 1 from rfl, Nat.reduceMul, Nat.reduceEqDiff, Go.Addr.add, ↓reduceIte] at hx237_0)
               have qi237 : (1 < l0.length) = True := eq_true (by omega)
               (try rw [show ((1 : Int)).toNat = 1 from rfl] at hx237_0)
               replace hx237_0 := (HB.out.cell (World.block_lt_of_cell? w _ hx237_0)).trans hx237_0
               replace p237 := eq_true p237
               replace q237 := eq_true q237
               have p238 : 0 ≤ (1 : Int) := (by omega)
               have q238 : 1 < (l1.length : Int) := of_decide_eq_true (by first | (with_reducible assumption) | assumption)
               obtain ⟨ad238, e238, hx238_0⟩ := Kd.at_int HR1.out 1 p238 q238
               have hw238_0 := hx238_0
               (try rw [show ((1 : Int)).toNat = 1 from rfl] at hw238_0)
               (try rw [show 1 * 1 = 1 from rfl] at hw238_0)
               (try simp only [Nat.reduceMul, Nat.reduceEqDiff, Go.Addr.add, ↓reduceIte] at hw238_0)
               obtain rfl : ad209 = ad238 := (by injection e238)
               (try simp only [show (1 : Int).toNat = 1 from rfl, Nat.reduceMul, Nat.reduceEqDiff, Go.Addr.add, ↓reduceIte] at hx238_0)
               have qi238 : (1 < l1.length) = True := eq_true (by omega)
               (try rw [show ((1 : Int)).toNat = 1 from rfl] at hx238_0)
               replace hx238_0 := (HB.out.cell (World.block_lt_of_cell? w _ hx238_0)).trans hx238_0
               replace p238 := eq_true p238
               replace q238 := eq_true q238
               refine start_ (n := 17) (S := fun w' => w'.cell? ad183 = some (.int .i64 (rd l0 0)) ∧ w'.cell? ad209 = some (.int .i64 (rd l1 0)) ∧ w'.cell? ⟨ad183.block, ad183.off + 1, none⟩ = some (.int .i64 (rd l0 1)) ∧ w'.cell? ⟨ad209.block, ad209.off + 1, none⟩ = some (.int .i64 (rd l1 1))) (ds := []) #[false, false, false, false, false, false, false, false, false, false, false, false, false, false, false, false, false] (by kernel_rfl) rfl rfl ⟨((HB.out.cell (World.block_lt_of_cell? w _ hw235_0)).trans hw235_0), ((HB.out.cell (World.block_lt_of_cell? w _ hw236_0)).trans hw236_0), ((HB.out.cell (World.block_lt_of_cell? w _ hw237_0)).trans hw237_0), ((HB.out.cell (World.block_lt_of_cell? w _ hw238_0)).trans hw238_0)⟩ (fun hHeld => ?_); refine with_tabW conclavelaw07_ScheduleApart.tab10 conclavelaw07_ScheduleApart.bits10 (fun HT_ HW_ => ?_)
               generalize w43.drew = w45 at HO188 HO208 HO214 HO234 HI182 HB hx235_0 hx236_0 hx237_0 hx238_0 hHeld ⊢
               refine pure_ (i := 0) (N := some 78) (v := ?_) (a' := ?_) #[true, false, false, false, false, false, false, false, false, false, false, false, false, false, false, false, false] rfl rfl (any_of HT_.out (by kernel_rfl)) (fun _ _ _ h => h) (Or.inl ⟨by rfl, ?_⟩) ?_ ?_
               rotate_left; (intro w'; go_simp; with_reducible rfl); rotate_left; (simp only [Act.put, List.setIfInBounds_toArray, List.set_cons_zero, List.set_cons_succ, i64_w, i32_w]; rfl)
               refine pure_ (i := 1) (N := some 79) (v := ?_) (a' := ?_) #[true, true, false, false, false, false, false, false, false, false, false, false, false, false, false, false, false] rfl rfl (any_of HT_.out (by kernel_rfl)) (fun _ _ _ h => h) (Or.inl ⟨by rfl, ?_⟩) ?_ ?_
               rotate_left; (intro w'; go_simp; with_reducible rfl); rotate_left; (simp only [Act.put, List.setIfInBounds_toArray, List.set_cons_zero, List.set_cons_succ, i64_w, i32_w]; rfl)
               refine pure_ (i := 3) (N := some 81) (v := ?_) (a' := ?_) #[true, true, false, true, false, false, false, false, false, false, false, false, false, false, false, false, false] rfl rfl (any_of HT_.out (by kernel_rfl)) (fun _ _ _ h => h) (Or.inl ⟨by rfl, ?_⟩) ?_ ?_
               rotate_left; (intro w'; go_simp; with_reducible rfl); rotate_left; (simp only [Act.put, List.setIfInBounds_toArray, List.set_cons_zero, List.set_cons_succ, i64_w, i32_w]; rfl)
               refine pure_ (i := 4) (N := some 82) (v := ?_) (a' := ?_) #[true, true, false, true, true, false, false, false, false, false, false, false, false, false, false, false, false] rfl rfl (any_of HT_.out (by kernel_rfl)) (fun _ _ _ h => h) (Or.inl ⟨by rfl, ?_⟩) ?_ ?_
               rotate_left; (intro w'; go_simp; with_reducible rfl); rotate_left; (simp only [Act.put, List.setIfInBounds_toArray, List.set_cons_zero, List.set_cons_succ, i64_w, i32_w]; rfl)
               refine take_ (i := 2) (N := some 80) (v := ?_) (a' := ?_) #[true, true, true, true, true, false, false, false, false, false, false, false, false, false, false, false, false] rfl rfl (take_ofW HT_.out HW_.out (by kernel_rfl)) (fun _ _ _ h => h) (Or.inl ⟨by rfl, ?_⟩) hHeld ?_ ?_
               rotate_left
               ·
                rintro w' ⟨s0, s1, s2, s3⟩
                go_simp
                with_reducible rfl
               rotate_left
               ·
                simp only [Act.put, List.setIfInBounds_toArray, List.set_cons_zero, List.set_cons_succ, i64_w, i32_w]
                rfl
               refine take_ (i := 5) (N := some 83) (v := ?_) (a' := ?_) #[true, true, true, true, true, true, false, false, false, false, false, false, false, false, false, false, false] rfl rfl (take_ofW HT_.out HW_.out (by kernel_rfl)) (fun _ _ _ h => h) (Or.inl ⟨by rfl, ?_⟩) hHeld ?_ ?_
               rotate_left
               ·
                rintro w' ⟨s0, s1, s2, s3⟩
                go_simp
                with_reducible rfl
               rotate_left
               ·
                simp only [Act.put, List.setIfInBounds_toArray, List.set_cons_zero, List.set_cons_succ, i64_w, i32_w]
                rfl
               refine pure_ (i := 6) (N := some 84) (v := ?_) (a' := ?_) #[true, true, true, true, true, true, true, false, false, false, false, false, false, false, false, false, false] rfl rfl (any_of HT_.out (by kernel_rfl)) (fun _ _ _ h => h) (Or.inl ⟨by rfl, ?_⟩) ?_ ?_
               rotate_left; (intro w'; go_simp; with_reducible rfl); rotate_left; (simp only [Act.put, List.setIfInBounds_toArray, List.set_cons_zero, List.set_cons_succ, i64_w, i32_w]; rfl)
               refine pure_ (i := 7) (N := some 85) (v := ?_) (a' := ?_) #[true, true, true, true, true, true, true, true, false, false, false, false, false, false, false, false, false] rfl rfl (any_of HT_.out (by kernel_rfl)) (fun _ _ _ h => h) (Or.inl ⟨by rfl, ?_⟩) ?_ ?_
               rotate_left; (intro w'; go_simp; with_reducible rfl); rotate_left; (simp only [Act.put, List.setIfInBounds_toArray, List.set_cons_zero, List.set_cons_succ, i64_w, i32_w]; rfl)
               refine pure_ (i := 8) (N := some 86) (v := ?_) (a' := ?_) #[true, true, true, true, true, true, true, true, true, false, false, false, false, false, false, false, false] rfl rfl (any_of HT_.out (by kernel_rfl)) (fun _ _ _ h => h) (Or.inl ⟨by rfl, ?_⟩) ?_ ?_
               rotate_left; (intro w'; go_simp; with_reducible rfl); rotate_left; (simp only [Act.put, List.setIfInBounds_toArray, List.set_cons_zero, List.set_cons_succ, i64_w, i32_w]; rfl)
               refine pure_ (i := 9) (N := some 87) (v := ?_) (a' := ?_) #[true, true, true, true, true, true, true, true, true, true, false, false, false, false, false, false, false] rfl rfl (any_of HT_.out (by kernel_rfl)) (fun _ _ _ h => h) (Or.inl ⟨by rfl, ?_⟩) ?_ ?_
               rotate_left; (intro w'; go_simp; with_reducible rfl); rotate_left; (simp only [Act.put, List.setIfInBounds_toArray, List.set_cons_zero, List.set_cons_succ, i64_w, i32_w]; rfl)
               refine pure_ (i := 11) (N := some 89) (v := ?_) (a' := ?_) #[true, true, true, true, true, true, true, true, true, true, false, true, false, false, false, false, false] rfl rfl (any_of HT_.out (by kernel_rfl)) (fun _ _ _ h => h) (Or.inl ⟨by rfl, ?_⟩) ?_ ?_
               rotate_left; (intro w'; go_simp; with_reducible rfl); rotate_left; (simp only [Act.put, List.setIfInBounds_toArray, List.set_cons_zero, List.set_cons_succ, i64_w, i32_w]; rfl)
               refine pure_ (i := 12) (N := some 90) (v := ?_) (a' := ?_) #[true, true, true, true, true, true, true, true, true, true, false, true, true, false, false, false, false] rfl rfl (any_of HT_.out (by kernel_rfl)) (fun _ _ _ h => h) (Or.inl ⟨by rfl, ?_⟩) ?_ ?_
               rotate_left; (intro w'; go_simp; with_reducible rfl); rotate_left; (simp only [Act.put, List.setIfInBounds_toArray, List.set_cons_zero, List.set_cons_succ, i64_w, i32_w]; rfl)
               refine take_ (i := 10) (N := some 88) (v := ?_) (a' := ?_) #[true, true, true, true, true, true, true, true, true, true, true, true, true, false, false, false, false] rfl rfl (take_ofW HT_.out HW_.out (by kernel_rfl)) (fun _ _ _ h => h) (Or.inl ⟨by rfl, ?_⟩) hHeld ?_ ?_
               rotate_left
               ·
                rintro w' ⟨s0, s1, s2, s3⟩
                go_simp
                with_reducible rfl
               rotate_left
               ·
                simp only [Act.put, List.setIfInBounds_toArray, List.set_cons_zero, List.set_cons_succ, i64_w, i32_w]
                rfl
               refine take_ (i := 13) (N := some 91) (v := ?_) (a' := ?_) #[true, true, true, true, true, true, true, true, true, true, true, true, true, true, false, false, false] rfl rfl (take_ofW HT_.out HW_.out (by kernel_rfl)) (fun _ _ _ h => h) (Or.inl ⟨by rfl, ?_⟩) hHeld ?_ ?_
               rotate_left
               ·
                rintro w' ⟨s0, s1, s2, s3⟩
                go_simp
                with_reducible rfl
               rotate_left
               ·
                simp only [Act.put, List.setIfInBounds_toArray, List.set_cons_zero, List.set_cons_succ, i64_w, i32_w]
                rfl
               refine pure_ (i := 14) (N := some 92) (v := ?_) (a' := ?_) #[true, true, true, true, true, true, true, true, true, true, true, true, true, true, true, false, false] rfl rfl (any_of HT_.out (by kernel_rfl)) (fun _ _ _ h => h) (Or.inl ⟨by rfl, ?_⟩) ?_ ?_
               rotate_left; (intro w'; go_simp; with_reducible rfl); rotate_left; (simp only [Act.put, List.setIfInBounds_toArray, List.set_cons_zero, List.set_cons_succ, i64_w, i32_w]; rfl)
               refine pure_ (i := 15) (N := some 93) (v := ?_) (a' := ?_) #[true, true, true, true, true, true, true, true, true, true, true, true, true, true, true, true, false] rfl rfl (any_of HT_.out (by kernel_rfl)) (fun _ _ _ h => h) (Or.inl ⟨by rfl, ?_⟩) ?_ ?_
               rotate_left; (intro w'; go_simp; with_reducible rfl); rotate_left; (simp only [Act.put, List.setIfInBounds_toArray, List.set_cons_zero, List.set_cons_succ, i64_w, i32_w]; rfl)
               refine pure_ (i := 16) (N := some 9) (v := ?_) (a' := ?_) #[true, true, true, true, true, true, true, true, true, true, true, true, true, true, true, true, true] rfl rfl (any_of HT_.out (by kernel_rfl)) (fun _ _ _ h => h) (Or.inl ⟨by rfl, ?_⟩) ?_ ?_
               rotate_left; (intro w'; go_simp; with_reducible rfl); rotate_left; (simp only [Act.put, List.setIfInBounds_toArray, List.set_cons_zero, List.set_cons_succ, i64_w, i32_w]; rfl)
               refine done_ (done_of HT_.out (by kernel_rfl)) ?_
               try go_wp2
               go_meet
               case rel => exact ⟨_, (((rd l0 1) == (rd l1 1))), (by first | rfl | (simp; done) | (simp [*]; done)), H', ⟨by have := HJ4.out; first | omega | exact Nat.le_refl _⟩, ⟨by (with_reducible repeat (first | apply Kd.R_alloc | apply Kd.R_drewN | apply Kd.R_drew)); exact Kd.R_mono HO208.out (fun _ hk => hk.2)⟩, ⟨by (with_reducible repeat (first | apply Kd.R_alloc | apply Kd.R_drewN | apply Kd.R_drew)); exact Kd.R_mono HO234.out (fun _ hk => hk.1.2)⟩, ⟨by repeat (first | (with_reducible first | exact HB.out | apply below_alloc | apply pw_below_drewN | apply below_drew1 | refine below_set ?_ (IsS53.ge HI182.out)) | exact HB.out)⟩⟩
              ·
               rw [if_neg c44] at H
               have c44b0 : ((rd l0 0) == (rd l1 0)) = false := beq_eq_false_iff_ne.mpr c44
               have c44b1 : ((rd l0 0) != (rd l1 0)) = true := bne_iff_ne.mpr c44
               (first | rw [c44b0] | (simp only [i64_w, i32_w]; rw [c44b0]) | skip)
               have H' := Aside0.mk H
               clear H
               try go_wp2
               have n0_ := Aside0.mk (Kd.R_drew HO188.out)
               have n1_ := Aside0.mk (Kd.R_drew HO208.out)
               have n2_ := Aside0.mk (Kd.R_drew HO214.out)
               have n3_ := Aside0.mk (Kd.R_drew HO234.out)
               have n4_ := Aside0.mk (IsS53.drew HI182.out)
               have n5_ := Aside0.mk (below_drew1 HB.out)
               clear HO188
               clear HO208
               clear HO214
               clear HO234
               clear HI182
               clear HB
               have HO188 := n0_
               have HO208 := n1_
               have HO214 := n2_
               have HO234 := n3_
               have HI182 := n4_
               have HB := n5_
               clear n0_ n1_ n2_ n3_ n4_ n5_
               have p235 : 0 ≤ (0 : Int) := (by omega)
               have q235 : 0 < (l0.length : Int) := of_decide_eq_true (by first | (with_reducible assumption) | assumption)
               obtain ⟨ad235, e235, hx235_0⟩ := Kd.at_int HR0.out 0 p235 q235
               have hw235_0 := hx235_0
               (try rw [show ((0 : Int)).toNat = 0 from rfl] at hw235_0)
               (try rw [show 0 * 1 = 0 from rfl] at hw235_0)
               (try rw [Addr.add_zero'] at hw235_0)
               obtain rfl : ad183 = ad235 := (by injection e235)
               have qi235 : (0 < l0.length) = True := eq_true (by omega)
               (try rw [show ((0 : Int)).toNat = 0 from rfl] at hx235_0)
               (try rw [Addr.add_zero'] at hx235_0)
               replace hx235_0 := (HB.out.cell (World.block_lt_of_cell? w _ hx235_0)).trans hx235_0
               replace p235 := eq_true p235
               replace q235 := eq_true q235
               have p236 : 0 ≤ (0 : Int) := (by omega)
               have q236 : 0 < (l1.length : Int) := of_decide_eq_true (by first | (with_reducible assumption) | assumption)
               obtain ⟨ad236, e236, hx236_0⟩ := Kd.at_int HR1.out 0 p236 q236
               have hw236_0 := hx236_0
               (try rw [show ((0 : Int)).toNat = 0 from rfl] at hw236_0)
               (try rw [show 0 * 1 = 0 from rfl] at hw236_0)
               (try rw [Addr.add_zero'] at hw236_0)
               obtain rfl : ad209 = ad236 := (by injection e236)
               have qi236 : (0 < l1.length) = True := eq_true (by omega)
               (try rw [show ((0 : Int)).toNat = 0 from rfl] at hx236_0)
               (try rw [Addr.add_zero'] at hx236_0)
               replace hx236_0 := (HB.out.cell (World.block_lt_of_cell? w _ hx236_0)).trans hx236_0
               replace p236 := eq_true p236
               replace q236 := eq_true q236
               refine start_ (n := 17) (S := fun w' => w'.cell? ad183 = some (.int .i64 (rd l0 0)) ∧ w'.cell? ad209 = some (.int .i64 (rd l1 0))) (ds := []) #[false, false, false, false, false, false, false, false, false, false, false, false, false, false, false, false, false] (by kernel_rfl) rfl rfl ⟨((HB.out.cell (World.block_lt_of_cell? w _ hw235_0)).trans hw235_0), ((HB.out.cell (World.block_lt_of_cell? w _ hw236_0)).trans hw236_0)⟩ (fun hHeld => ?_); refine with_tabW conclavelaw07_ScheduleApart.tab10 conclavelaw07_ScheduleApart.bits10 (fun HT_ HW_ => ?_)
               generalize w43.drew = w46 at HO188 HO208 HO214 HO234 HI182 HB hx235_0 hx236_0 hHeld ⊢
               refine pure_ (i := 0) (N := some 78) (v := ?_) (a' := ?_) #[true, false, false, false, false, false, false, false, false, false, false, false, false, false, false, false, false] rfl rfl (any_of HT_.out (by kernel_rfl)) (fun _ _ _ h => h) (Or.inl ⟨by rfl, ?_⟩) ?_ ?_
               rotate_left; (intro w'; go_simp; with_reducible rfl); rotate_left; (simp only [Act.put, List.setIfInBounds_toArray, List.set_cons_zero, List.set_cons_succ, i64_w, i32_w]; rfl)
               refine pure_ (i := 1) (N := some 79) (v := ?_) (a' := ?_) #[true, true, false, false, false, false, false, false, false, false, false, false, false, false, false, false, false] rfl rfl (any_of HT_.out (by kernel_rfl)) (fun _ _ _ h => h) (Or.inl ⟨by rfl, ?_⟩) ?_ ?_
               rotate_left; (intro w'; go_simp; with_reducible rfl); rotate_left; (simp only [Act.put, List.setIfInBounds_toArray, List.set_cons_zero, List.set_cons_succ, i64_w, i32_w]; rfl)
               refine pure_ (i := 3) (N := some 81) (v := ?_) (a' := ?_) #[true, true, false, true, false, false, false, false, false, false, false, false, false, false, false, false, false] rfl rfl (any_of HT_.out (by kernel_rfl)) (fun _ _ _ h => h) (Or.inl ⟨by rfl, ?_⟩) ?_ ?_
               rotate_left; (intro w'; go_simp; with_reducible rfl); rotate_left; (simp only [Act.put, List.setIfInBounds_toArray, List.set_cons_zero, List.set_cons_succ, i64_w, i32_w]; rfl)
               refine pure_ (i := 4) (N := some 82) (v := ?_) (a' := ?_) #[true, true, false, true, true, false, false, false, false, false, false, false, false, false, false, false, false] rfl rfl (any_of HT_.out (by kernel_rfl)) (fun _ _ _ h => h) (Or.inl ⟨by rfl, ?_⟩) ?_ ?_
               rotate_left; (intro w'; go_simp; with_reducible rfl); rotate_left; (simp only [Act.put, List.setIfInBounds_toArray, List.set_cons_zero, List.set_cons_succ, i64_w, i32_w]; rfl)
               refine take_ (i := 2) (N := some 80) (v := ?_) (a' := ?_) #[true, true, true, true, true, false, false, false, false, false, false, false, false, false, false, false, false] rfl rfl (take_ofW HT_.out HW_.out (by kernel_rfl)) (fun _ _ _ h => h) (Or.inl ⟨by rfl, ?_⟩) hHeld ?_ ?_
               rotate_left
               ·
                rintro w' ⟨s0, s1⟩
                go_simp
                with_reducible rfl
               rotate_left
               ·
                simp only [Act.put, List.setIfInBounds_toArray, List.set_cons_zero, List.set_cons_succ, i64_w, i32_w]
                rfl
               refine take_ (i := 5) (N := some 83) (v := ?_) (a' := ?_) #[true, true, true, true, true, true, false, false, false, false, false, false, false, false, false, false, false] rfl rfl (take_ofW HT_.out HW_.out (by kernel_rfl)) (fun _ _ _ h => h) (Or.inl ⟨by rfl, ?_⟩) hHeld ?_ ?_
               rotate_left
               ·
                rintro w' ⟨s0, s1⟩
                go_simp
                with_reducible rfl
               rotate_left
               ·
                simp only [Act.put, List.setIfInBounds_toArray, List.set_cons_zero, List.set_cons_succ, i64_w, i32_w]
                rfl
               refine pure_ (i := 6) (N := some 84) (v := ?_) (a' := ?_) #[true, true, true, true, true, true, true, false, false, false, false, false, false, false, false, false, false] rfl rfl (any_of HT_.out (by kernel_rfl)) (fun _ _ _ h => h) (Or.inl ⟨by rfl, ?_⟩) ?_ ?_
               rotate_left; (intro w'; go_simp; with_reducible rfl); rotate_left; (simp only [Act.put, List.setIfInBounds_toArray, List.set_cons_zero, List.set_cons_succ, i64_w, i32_w]; rfl)
               refine pure_ (i := 7) (N := some 85) (v := ?_) (a' := ?_) #[true, true, true, true, true, true, true, true, false, false, false, false, false, false, false, false, false] rfl rfl (any_of HT_.out (by kernel_rfl)) (fun _ _ _ h => h) (Or.inl ⟨by rfl, ?_⟩) ?_ ?_
               rotate_left; (intro w'; go_simp; with_reducible rfl); rotate_left; (simp only [Act.put, List.setIfInBounds_toArray, List.set_cons_zero, List.set_cons_succ, i64_w, i32_w]; rfl)
               refine pure_ (i := 8) (N := some 86) (v := undef) (a' := ?_) #[true, true, true, true, true, true, true, true, true, false, false, false, false, false, false, false, false] rfl rfl (any_of HT_.out (by kernel_rfl)) (fun _ _ _ h => h) (Or.inr ⟨by rfl, rfl⟩) ?_ ?_
               rotate_left
               ·
                simp only [Act.put, List.setIfInBounds_toArray, List.set_cons_zero, List.set_cons_succ, i64_w, i32_w]
                rfl
               refine pure_ (i := 9) (N := some 87) (v := undef) (a' := ?_) #[true, true, true, true, true, true, true, true, true, true, false, false, false, false, false, false, false] rfl rfl (any_of HT_.out (by kernel_rfl)) (fun _ _ _ h => h) (Or.inr ⟨by rfl, rfl⟩) ?_ ?_
               rotate_left
               ·
                simp only [Act.put, List.setIfInBounds_toArray, List.set_cons_zero, List.set_cons_succ, i64_w, i32_w]
                rfl
               refine pure_ (i := 10) (N := some 88) (v := undef) (a' := ?_) #[true, true, true, true, true, true, true, true, true, true, true, false, false, false, false, false, false] rfl rfl (any_of HT_.out (by kernel_rfl)) (fun _ _ _ h => h) (Or.inr ⟨by rfl, rfl⟩) ?_ ?_
               rotate_left
               ·
                simp only [Act.put, List.setIfInBounds_toArray, List.set_cons_zero, List.set_cons_succ, i64_w, i32_w]
                rfl
               refine pure_ (i := 11) (N := some 89) (v := undef) (a' := ?_) #[true, true, true, true, true, true, true, true, true, true, true, true, false, false, false, false, false] rfl rfl (any_of HT_.out (by kernel_rfl)) (fun _ _ _ h => h) (Or.inr ⟨by rfl, rfl⟩) ?_ ?_
               rotate_left
               ·
                simp only [Act.put, List.setIfInBounds_toArray, List.set_cons_zero, List.set_cons_succ, i64_w, i32_w]
                rfl
               refine pure_ (i := 12) (N := some 90) (v := undef) (a' := ?_) #[true, true, true, true, true, true, true, true, true, true, true, true, true, false, false, false, false] rfl rfl (any_of HT_.out (by kernel_rfl)) (fun _ _ _ h => h) (Or.inr ⟨by rfl, rfl⟩) ?_ ?_
               rotate_left
               ·
                simp only [Act.put, List.setIfInBounds_toArray, List.set_cons_zero, List.set_cons_succ, i64_w, i32_w]
                rfl
               refine pure_ (i := 13) (N := some 91) (v := undef) (a' := ?_) #[true, true, true, true, true, true, true, true, true, true, true, true, true, true, false, false, false] rfl rfl (any_of HT_.out (by kernel_rfl)) (fun _ _ _ h => h) (Or.inr ⟨by rfl, rfl⟩) ?_ ?_
               rotate_left
               ·
                simp only [Act.put, List.setIfInBounds_toArray, List.set_cons_zero, List.set_cons_succ, i64_w, i32_w]
                rfl
               refine pure_ (i := 14) (N := some 92) (v := undef) (a' := ?_) #[true, true, true, true, true, true, true, true, true, true, true, true, true, true, true, false, false] rfl rfl (any_of HT_.out (by kernel_rfl)) (fun _ _ _ h => h) (Or.inr ⟨by rfl, rfl⟩) ?_ ?_
               rotate_left
               ·
                simp only [Act.put, List.setIfInBounds_toArray, List.set_cons_zero, List.set_cons_succ, i64_w, i32_w]
                rfl
               refine pure_ (i := 15) (N := some 93) (v := ?_) (a' := ?_) #[true, true, true, true, true, true, true, true, true, true, true, true, true, true, true, true, false] rfl rfl (any_of HT_.out (by kernel_rfl)) (fun _ _ _ h => h) (Or.inl ⟨by rfl, ?_⟩) ?_ ?_
               rotate_left; (intro w'; go_simp; with_reducible rfl); rotate_left; (simp only [Act.put, List.setIfInBounds_toArray, List.set_cons_zero, List.set_cons_succ, i64_w, i32_w]; rfl)
               refine pure_ (i := 16) (N := some 9) (v := ?_) (a' := ?_) #[true, true, true, true, true, true, true, true, true, true, true, true, true, true, true, true, true] rfl rfl (any_of HT_.out (by kernel_rfl)) (fun _ _ _ h => h) (Or.inl ⟨by rfl, ?_⟩) ?_ ?_
               rotate_left; (intro w'; go_simp; with_reducible rfl); rotate_left; (simp only [Act.put, List.setIfInBounds_toArray, List.set_cons_zero, List.set_cons_succ, i64_w, i32_w]; rfl)
               refine done_ (done_of HT_.out (by kernel_rfl)) ?_
               try go_wp2
               go_meet
               case rel => exact ⟨_, (false), (by first | rfl | (simp; done) | (simp [*]; done)), H', ⟨by have := HJ4.out; first | omega | exact Nat.le_refl _⟩, ⟨by (with_reducible repeat (first | apply Kd.R_alloc | apply Kd.R_drewN | apply Kd.R_drew)); exact Kd.R_mono HO208.out (fun _ hk => hk.2)⟩, ⟨by (with_reducible repeat (first | apply Kd.R_alloc | apply Kd.R_drewN | apply Kd.R_drew)); exact Kd.R_mono HO234.out (fun _ hk => hk.1.2)⟩, ⟨by repeat (first | (with_reducible first | exact HB.out | apply below_alloc | apply pw_below_drewN | apply below_drew1 | refine below_set ?_ (IsS53.ge HI182.out)) | exact HB.out)⟩⟩
             case rest =>
              clear HC28
              try clear c1
              try clear p2
              try clear q2
              try clear hx2
              try clear qi2
              try clear c4
              try clear c9
              try clear c10
              try clear c11
              try clear p23
              try clear q23
              try clear hx23
              try clear qi23
              try clear c44
              try clear c44b0
              try clear c44b1
              try clear hx235_0
              try clear hx236_0
              try clear hx237_0
              try clear hx238_0
              try clear p235
              try clear p236
              try clear p237
              try clear p238
              try clear q235
              try clear q236
              try clear q237
              try clear q238
              obtain ⟨kq, x9_27, rfl, HA, HJ27, HO_7, HO_8, HB⟩ := hcut
              cases kq with
              | zero => exact absurd HA.out (by simp [conclavelaw07_ScheduleApart.j1])
              | succ kj27 =>
               have H := HA.out
               clear HA
               simp only [conclavelaw07_ScheduleApart.j1] at H
               have HC47 := Aside0.mk H
               clear H
               go_upto_region 11 with (fail)
               go_cut [10] (fun v10 wc => ∃ (kq : Nat) (x10_46 : Bool), v10 = .bool x10_46 ∧ Aside0 (conclavelaw07_ScheduleApart.j2 kq l0 l1 t206 t232 x9_27 x10_46 = some r) ∧ Aside0 (kq ≤ kj27) ∧ Aside0 (Kd.R (Kd.int .i64) 3 wc w.heap.size (fun k_ => some k_ ≠ (v233 : Value).ownBlock) v207 t206) ∧ Aside0 (Kd.R (Kd.int .i64) 3 wc w.heap.size (fun k_ => some k_ ≠ (v207 : Value).ownBlock) v233 t232) ∧ Aside0 (Below w.heap.size w wc))
               case first =>
                have H := HC47.out
                clear HC47
                by_cases c48 : x9_27 = true
                ·
                 subst c48
                 have H1 : (if 2 < (l0.length : Int) then (if 2 < (l1.length : Int) then (conclavelaw07_ScheduleApart.j2 kj27 l0 l1 t206 t232 true ((rd l0 2) == (rd l1 2))) else (none)) else (none)) = some r := by rw [if_pos rfl] at H; exact H
                 clear H
                 have H := H1
                 clear H1
                 by_cases c49 : 2 < (l0.length : Int)
                 ·
                  rw [if_pos c49] at H
                  have c49b0 : decide (2 < (l0.length : Int)) = true := decide_eq_true c49
                  have c49b1 : decide (2 < l0.length) = true := decide_eq_true (by omega)
                  clear c49
                  (first | rw [c49b0] | (simp only [i64_w, i32_w]; rw [c49b0]) | skip)
                  by_cases c50 : 2 < (l1.length : Int)
                  ·
                   rw [if_pos c50] at H
                   have c50b0 : decide (2 < (l1.length : Int)) = true := decide_eq_true c50
                   have c50b1 : decide (2 < l1.length) = true := decide_eq_true (by omega)
                   clear c50
                   have H' := Aside0.mk H
                   clear H
                   try go_wp2
                   have n0_ := Aside0.mk (Kd.R_drew HO_7.out)
                   have n1_ := Aside0.mk (Kd.R_drew HO_8.out)
                   have n2_ := Aside0.mk (below_drew1 HB.out)
                   clear HO_7
                   clear HO_8
                   clear HB
                   have HO_7 := n0_
                   have HO_8 := n1_
                   have HB := n2_
                   clear n0_ n1_ n2_
                   have p239 : 0 ≤ (2 : Int) := (by omega)
                   have q239 : 2 < (l0.length : Int) := of_decide_eq_true (by first | (with_reducible assumption) | assumption)
                   obtain ⟨ad239, e239, hx239_0⟩ := Kd.at_int HR0.out 2 p239 q239
                   have hw239_0 := hx239_0
                   (try rw [show ((2 : Int)).toNat = 2 from rfl] at hw239_0)
                   (try rw [show 2 * 1 = 2 from rfl] at hw239_0)
                   (try simp only [Nat.reduceMul, Nat.reduceEqDiff, Go.Addr.add, ↓reduceIte] at hw239_0)
                   obtain rfl : ad183 = ad239 := (by injection e239)
                   (try simp only [show (2 : Int).toNat = 2 from rfl, Nat.reduceMul, Nat.reduceEqDiff, Go.Addr.add, ↓reduceIte] at hx239_0)
                   have qi239 : (2 < l0.length) = True := eq_true (by omega)
                   (try rw [show ((2 : Int)).toNat = 2 from rfl] at hx239_0)
                   replace hx239_0 := (HB.out.cell (World.block_lt_of_cell? w _ hx239_0)).trans hx239_0
                   replace p239 := eq_true p239
                   replace q239 := eq_true q239
                   have p240 : 0 ≤ (2 : Int) := (by omega)
                   have q240 : 2 < (l1.length : Int) := of_decide_eq_true (by first | (with_reducible assumption) | assumption)
                   obtain ⟨ad240, e240, hx240_0⟩ := Kd.at_int HR1.out 2 p240 q240
                   have hw240_0 := hx240_0
                   (try rw [show ((2 : Int)).toNat = 2 from rfl] at hw240_0)
                   (try rw [show 2 * 1 = 2 from rfl] at hw240_0)
                   (try simp only [Nat.reduceMul, Nat.reduceEqDiff, Go.Addr.add, ↓reduceIte] at hw240_0)
                   obtain rfl : ad209 = ad240 := (by injection e240)
                   (try simp only [show (2 : Int).toNat = 2 from rfl, Nat.reduceMul, Nat.reduceEqDiff, Go.Addr.add, ↓reduceIte] at hx240_0)
                   have qi240 : (2 < l1.length) = True := eq_true (by omega)
                   (try rw [show ((2 : Int)).toNat = 2 from rfl] at hx240_0)
                   replace hx240_0 := (HB.out.cell (World.block_lt_of_cell? w _ hx240_0)).trans hx240_0
                   replace p240 := eq_true p240
                   replace q240 := eq_true q240
                   refine start_ (n := 11) (S := fun w' => w'.cell? ⟨ad183.block, ad183.off + 2, none⟩ = some (.int .i64 (rd l0 2)) ∧ w'.cell? ⟨ad209.block, ad209.off + 2, none⟩ = some (.int .i64 (rd l1 2))) (ds := []) #[false, false, false, false, false, false, false, false, false, false, false] (by kernel_rfl) rfl rfl ⟨((HB.out.cell (World.block_lt_of_cell? w _ hw239_0)).trans hw239_0), ((HB.out.cell (World.block_lt_of_cell? w _ hw240_0)).trans hw240_0)⟩ (fun hHeld => ?_); refine with_tabW conclavelaw07_ScheduleApart.tab11 conclavelaw07_ScheduleApart.bits11 (fun HT_ HW_ => ?_)
                   generalize wc.drew = w51 at HO_7 HO_8 HB hx239_0 hx240_0 hHeld ⊢
                   refine pure_ (i := 0) (N := some 94) (v := ?_) (a' := ?_) #[true, false, false, false, false, false, false, false, false, false, false] rfl rfl (any_of HT_.out (by kernel_rfl)) (fun _ _ _ h => h) (Or.inl ⟨by rfl, ?_⟩) ?_ ?_
                   rotate_left; (intro w'; go_simp; with_reducible rfl); rotate_left; (simp only [Act.put, List.setIfInBounds_toArray, List.set_cons_zero, List.set_cons_succ, i64_w, i32_w]; rfl)
                   refine pure_ (i := 1) (N := some 95) (v := ?_) (a' := ?_) #[true, true, false, false, false, false, false, false, false, false, false] rfl rfl (any_of HT_.out (by kernel_rfl)) (fun _ _ _ h => h) (Or.inl ⟨by rfl, ?_⟩) ?_ ?_
                   rotate_left; (intro w'; go_simp; with_reducible rfl); rotate_left; (simp only [Act.put, List.setIfInBounds_toArray, List.set_cons_zero, List.set_cons_succ, i64_w, i32_w]; rfl)
                   refine pure_ (i := 2) (N := some 96) (v := ?_) (a' := ?_) #[true, true, true, false, false, false, false, false, false, false, false] rfl rfl (any_of HT_.out (by kernel_rfl)) (fun _ _ _ h => h) (Or.inl ⟨by rfl, ?_⟩) ?_ ?_
                   rotate_left; (intro w'; go_simp; with_reducible rfl); rotate_left; (simp only [Act.put, List.setIfInBounds_toArray, List.set_cons_zero, List.set_cons_succ, i64_w, i32_w]; rfl)
                   refine pure_ (i := 3) (N := some 97) (v := ?_) (a' := ?_) #[true, true, true, true, false, false, false, false, false, false, false] rfl rfl (any_of HT_.out (by kernel_rfl)) (fun _ _ _ h => h) (Or.inl ⟨by rfl, ?_⟩) ?_ ?_
                   rotate_left; (intro w'; go_simp; with_reducible rfl); rotate_left; (simp only [Act.put, List.setIfInBounds_toArray, List.set_cons_zero, List.set_cons_succ, i64_w, i32_w]; rfl)
                   refine pure_ (i := 5) (N := some 99) (v := ?_) (a' := ?_) #[true, true, true, true, false, true, false, false, false, false, false] rfl rfl (any_of HT_.out (by kernel_rfl)) (fun _ _ _ h => h) (Or.inl ⟨by rfl, ?_⟩) ?_ ?_
                   rotate_left; (intro w'; go_simp; with_reducible rfl); rotate_left; (simp only [Act.put, List.setIfInBounds_toArray, List.set_cons_zero, List.set_cons_succ, i64_w, i32_w]; rfl)
                   refine pure_ (i := 6) (N := some 100) (v := ?_) (a' := ?_) #[true, true, true, true, false, true, true, false, false, false, false] rfl rfl (any_of HT_.out (by kernel_rfl)) (fun _ _ _ h => h) (Or.inl ⟨by rfl, ?_⟩) ?_ ?_
                   rotate_left; (intro w'; go_simp; with_reducible rfl); rotate_left; (simp only [Act.put, List.setIfInBounds_toArray, List.set_cons_zero, List.set_cons_succ, i64_w, i32_w]; rfl)
                   refine take_ (i := 4) (N := some 98) (v := ?_) (a' := ?_) #[true, true, true, true, true, true, true, false, false, false, false] rfl rfl (take_ofW HT_.out HW_.out (by kernel_rfl)) (fun _ _ _ h => h) (Or.inl ⟨by rfl, ?_⟩) hHeld ?_ ?_
                   rotate_left
                   ·
                    rintro w' ⟨s0, s1⟩
                    go_simp
                    with_reducible rfl
                   rotate_left
                   ·
                    simp only [Act.put, List.setIfInBounds_toArray, List.set_cons_zero, List.set_cons_succ, i64_w, i32_w]
                    rfl
                   refine take_ (i := 7) (N := some 101) (v := ?_) (a' := ?_) #[true, true, true, true, true, true, true, true, false, false, false] rfl rfl (take_ofW HT_.out HW_.out (by kernel_rfl)) (fun _ _ _ h => h) (Or.inl ⟨by rfl, ?_⟩) hHeld ?_ ?_
                   rotate_left
                   ·
                    rintro w' ⟨s0, s1⟩
                    go_simp
                    with_reducible rfl
                   rotate_left
                   ·
                    simp only [Act.put, List.setIfInBounds_toArray, List.set_cons_zero, List.set_cons_succ, i64_w, i32_w]
                    rfl
                   refine pure_ (i := 8) (N := some 102) (v := ?_) (a' := ?_) #[true, true, true, true, true, true, true, true, true, false, false] rfl rfl (any_of HT_.out (by kernel_rfl)) (fun _ _ _ h => h) (Or.inl ⟨by rfl, ?_⟩) ?_ ?_
                   rotate_left; (intro w'; go_simp; with_reducible rfl); rotate_left; (simp only [Act.put, List.setIfInBounds_toArray, List.set_cons_zero, List.set_cons_succ, i64_w, i32_w]; rfl)
                   refine pure_ (i := 9) (N := some 103) (v := ?_) (a' := ?_) #[true, true, true, true, true, true, true, true, true, true, false] rfl rfl (any_of HT_.out (by kernel_rfl)) (fun _ _ _ h => h) (Or.inl ⟨by rfl, ?_⟩) ?_ ?_
                   rotate_left; (intro w'; go_simp; with_reducible rfl); rotate_left; (simp only [Act.put, List.setIfInBounds_toArray, List.set_cons_zero, List.set_cons_succ, i64_w, i32_w]; rfl)
                   refine pure_ (i := 10) (N := some 10) (v := ?_) (a' := ?_) #[true, true, true, true, true, true, true, true, true, true, true] rfl rfl (any_of HT_.out (by kernel_rfl)) (fun _ _ _ h => h) (Or.inl ⟨by rfl, ?_⟩) ?_ ?_
                   rotate_left; (intro w'; go_simp; with_reducible rfl); rotate_left; (simp only [Act.put, List.setIfInBounds_toArray, List.set_cons_zero, List.set_cons_succ, i64_w, i32_w]; rfl)
                   refine done_ (done_of HT_.out (by kernel_rfl)) ?_
                   try go_wp2
                   go_meet
                   case rel => exact ⟨_, (((rd l0 2) == (rd l1 2))), (by first | rfl | (simp; done) | (simp [*]; done)), H', ⟨by have := HJ4.out; have := HJ27.out; first | omega | exact Nat.le_refl _⟩, ⟨by (with_reducible repeat (first | apply Kd.R_alloc | apply Kd.R_drewN | apply Kd.R_drew)); exact HO_7.out⟩, ⟨by (with_reducible repeat (first | apply Kd.R_alloc | apply Kd.R_drewN | apply Kd.R_drew)); exact HO_8.out⟩, ⟨by repeat (first | (with_reducible first | exact HB.out | apply below_alloc | apply pw_below_drewN | apply below_drew1) | exact HB.out)⟩⟩
                  ·
                   rw [if_neg c50] at H
                   exact absurd H (by simp)
                 ·
                  rw [if_neg c49] at H
                  exact absurd H (by simp)
                ·
                 replace c48 := Bool.eq_false_iff.mpr c48
                 subst c48
                 have H1 : (conclavelaw07_ScheduleApart.j2 kj27 l0 l1 t206 t232 false false) = some r := by rw [if_neg (show ¬ (false = true) by decide)] at H; exact H
                 clear H
                 have H := H1
                 clear H1
                 have H' := Aside0.mk H
                 clear H
                 try go_wp2
                 have n0_ := Aside0.mk (Kd.R_drew HO_7.out)
                 have n1_ := Aside0.mk (Kd.R_drew HO_8.out)
                 have n2_ := Aside0.mk (below_drew1 HB.out)
                 clear HO_7
                 clear HO_8
                 clear HB
                 have HO_7 := n0_
                 have HO_8 := n1_
                 have HB := n2_
                 clear n0_ n1_ n2_
                 refine start_ (n := 11) (S := fun w' => True) (ds := []) #[false, false, false, false, false, false, false, false, false, false, false] (by kernel_rfl) rfl rfl trivial (fun hHeld => ?_); refine with_tabW conclavelaw07_ScheduleApart.tab11 conclavelaw07_ScheduleApart.bits11 (fun HT_ HW_ => ?_)
                 generalize wc.drew = w52 at HO_7 HO_8 HB hHeld ⊢
                 refine pure_ (i := 0) (N := some 94) (v := ?_) (a' := ?_) #[true, false, false, false, false, false, false, false, false, false, false] rfl rfl (any_of HT_.out (by kernel_rfl)) (fun _ _ _ h => h) (Or.inl ⟨by rfl, ?_⟩) ?_ ?_
                 rotate_left; (intro w'; go_simp; with_reducible rfl); rotate_left; (simp only [Act.put, List.setIfInBounds_toArray, List.set_cons_zero, List.set_cons_succ, i64_w, i32_w]; rfl)
                 refine pure_ (i := 1) (N := some 95) (v := ?_) (a' := ?_) #[true, true, false, false, false, false, false, false, false, false, false] rfl rfl (any_of HT_.out (by kernel_rfl)) (fun _ _ _ h => h) (Or.inl ⟨by rfl, ?_⟩) ?_ ?_
                 rotate_left; (intro w'; go_simp; with_reducible rfl); rotate_left; (simp only [Act.put, List.setIfInBounds_toArray, List.set_cons_zero, List.set_cons_succ, i64_w, i32_w]; rfl)
                 refine pure_ (i := 2) (N := some 96) (v := undef) (a' := ?_) #[true, true, true, false, false, false, false, false, false, false, false] rfl rfl (any_of HT_.out (by kernel_rfl)) (fun _ _ _ h => h) (Or.inr ⟨by rfl, rfl⟩) ?_ ?_
                 rotate_left
                 ·
                  simp only [Act.put, List.setIfInBounds_toArray, List.set_cons_zero, List.set_cons_succ, i64_w, i32_w]
                  rfl
                 refine pure_ (i := 3) (N := some 97) (v := undef) (a' := ?_) #[true, true, true, true, false, false, false, false, false, false, false] rfl rfl (any_of HT_.out (by kernel_rfl)) (fun _ _ _ h => h) (Or.inr ⟨by rfl, rfl⟩) ?_ ?_
                 rotate_left
                 ·
                  simp only [Act.put, List.setIfInBounds_toArray, List.set_cons_zero, List.set_cons_succ, i64_w, i32_w]
                  rfl
                 refine pure_ (i := 4) (N := some 98) (v := undef) (a' := ?_) #[true, true, true, true, true, false, false, false, false, false, false] rfl rfl (any_of HT_.out (by kernel_rfl)) (fun _ _ _ h => h) (Or.inr ⟨by rfl, rfl⟩) ?_ ?_
                 rotate_left
                 ·
                  simp only [Act.put, List.setIfInBounds_toArray, List.set_cons_zero, List.set_cons_succ, i64_w, i32_w]
                  rfl
                 refine pure_ (i := 5) (N := some 99) (v := undef) (a' := ?_) #[true, true, true, true, true, true, false, false, false, false, false] rfl rfl (any_of HT_.out (by kernel_rfl)) (fun _ _ _ h => h) (Or.inr ⟨by rfl, rfl⟩) ?_ ?_
                 rotate_left
                 ·
                  simp only [Act.put, List.setIfInBounds_toArray, List.set_cons_zero, List.set_cons_succ, i64_w, i32_w]
                  rfl
                 refine pure_ (i := 6) (N := some 100) (v := undef) (a' := ?_) #[true, true, true, true, true, true, true, false, false, false, false] rfl rfl (any_of HT_.out (by kernel_rfl)) (fun _ _ _ h => h) (Or.inr ⟨by rfl, rfl⟩) ?_ ?_
                 rotate_left
                 ·
                  simp only [Act.put, List.setIfInBounds_toArray, List.set_cons_zero, List.set_cons_succ, i64_w, i32_w]
                  rfl
                 refine pure_ (i := 7) (N := some 101) (v := undef) (a' := ?_) #[true, true, true, true, true, true, true, true, false, false, false] rfl rfl (any_of HT_.out (by kernel_rfl)) (fun _ _ _ h => h) (Or.inr ⟨by rfl, rfl⟩) ?_ ?_
                 rotate_left
                 ·
                  simp only [Act.put, List.setIfInBounds_toArray, List.set_cons_zero, List.set_cons_succ, i64_w, i32_w]
                  rfl
                 refine pure_ (i := 8) (N := some 102) (v := undef) (a' := ?_) #[true, true, true, true, true, true, true, true, true, false, false] rfl rfl (any_of HT_.out (by kernel_rfl)) (fun _ _ _ h => h) (Or.inr ⟨by rfl, rfl⟩) ?_ ?_
                 rotate_left
                 ·
                  simp only [Act.put, List.setIfInBounds_toArray, List.set_cons_zero, List.set_cons_succ, i64_w, i32_w]
                  rfl
                 refine pure_ (i := 9) (N := some 103) (v := ?_) (a' := ?_) #[true, true, true, true, true, true, true, true, true, true, false] rfl rfl (any_of HT_.out (by kernel_rfl)) (fun _ _ _ h => h) (Or.inl ⟨by rfl, ?_⟩) ?_ ?_
                 rotate_left; (intro w'; go_simp; with_reducible rfl); rotate_left; (simp only [Act.put, List.setIfInBounds_toArray, List.set_cons_zero, List.set_cons_succ, i64_w, i32_w]; rfl)
                 refine pure_ (i := 10) (N := some 10) (v := ?_) (a' := ?_) #[true, true, true, true, true, true, true, true, true, true, true] rfl rfl (any_of HT_.out (by kernel_rfl)) (fun _ _ _ h => h) (Or.inl ⟨by rfl, ?_⟩) ?_ ?_
                 rotate_left; (intro w'; go_simp; with_reducible rfl); rotate_left; (simp only [Act.put, List.setIfInBounds_toArray, List.set_cons_zero, List.set_cons_succ, i64_w, i32_w]; rfl)
                 refine done_ (done_of HT_.out (by kernel_rfl)) ?_
                 try go_wp2
                 go_meet
                 case rel => exact ⟨_, (false), (by first | rfl | (simp; done) | (simp [*]; done)), H', ⟨by have := HJ4.out; have := HJ27.out; first | omega | exact Nat.le_refl _⟩, ⟨by (with_reducible repeat (first | apply Kd.R_alloc | apply Kd.R_drewN | apply Kd.R_drew)); exact HO_7.out⟩, ⟨by (with_reducible repeat (first | apply Kd.R_alloc | apply Kd.R_drewN | apply Kd.R_drew)); exact HO_8.out⟩, ⟨by repeat (first | (with_reducible first | exact HB.out | apply below_alloc | apply pw_below_drewN | apply below_drew1) | exact HB.out)⟩⟩
               case rest =>
                clear HC47
                try clear c1
                try clear p2
                try clear q2
                try clear hx2
                try clear qi2
                try clear c4
                try clear c5
                try clear c9
                try clear c10
                try clear c11
                try clear p23
                try clear q23
                try clear hx23
                try clear qi23
                try clear p24
                try clear q24
                try clear hx24
                try clear qi24
                try clear c44
                try clear c44b0
                try clear c44b1
                try clear c48
                try clear c49
                try clear c49b0
                try clear c49b1
                try clear c50
                try clear c50b0
                try clear c50b1
                try clear hx235_0
                try clear hx236_0
                try clear hx237_0
                try clear hx238_0
                try clear hx239_0
                try clear hx240_0
                try clear p2
                try clear p23
                try clear p235
                try clear p236
                try clear p237
                try clear p238
                try clear p239
                try clear p240
                try clear q2
                try clear q23
                try clear q235
                try clear q236
                try clear q237
                try clear q238
                try clear q239
                try clear q240
                obtain ⟨kq, x10_46, rfl, HA, HJ46, HO_7, HO_8, HB⟩ := hcut
                cases kq with
                | zero => exact absurd HA.out (by simp [conclavelaw07_ScheduleApart.j2])
                | succ kj46 =>
                 have H := HA.out
                 clear HA
                 simp only [conclavelaw07_ScheduleApart.j2] at H
                 have HC53 := Aside0.mk H
                 clear H
                 go_upto_region 12 with (fail)
                 go_cut [11] (fun v11 wc => ∃ (kq : Nat) (x11_52 : Bool), v11 = .bool x11_52 ∧ Aside0 (conclavelaw07_ScheduleApart.j3 kq t206 t232 x9_27 x10_46 x11_52 = some r) ∧ Aside0 (kq ≤ kj46) ∧ Aside0 (Kd.R (Kd.int .i64) 3 wc w.heap.size (fun k_ => some k_ ≠ (v233 : Value).ownBlock) v207 t206) ∧ Aside0 (Kd.R (Kd.int .i64) 3 wc w.heap.size (fun k_ => some k_ ≠ (v207 : Value).ownBlock) v233 t232) ∧ Aside0 (Below w.heap.size w wc))
                 case first =>
                  have H := HC53.out
                  clear HC53
                  by_cases c54 : x10_46 = true
                  ·
                   subst c54
                   have H1 : (if 3 < (l0.length : Int) then (if 3 < (l1.length : Int) then (conclavelaw07_ScheduleApart.j3 kj46 t206 t232 x9_27 true ((rd l0 3) == (rd l1 3))) else (none)) else (none)) = some r := by rw [if_pos rfl] at H; exact H
                   clear H
                   have H := H1
                   clear H1
                   by_cases c55 : 3 < (l0.length : Int)
                   ·
                    rw [if_pos c55] at H
                    have c55b0 : decide (3 < (l0.length : Int)) = true := decide_eq_true c55
                    have c55b1 : decide (3 < l0.length) = true := decide_eq_true (by omega)
                    clear c55
                    (first | rw [c55b0] | (simp only [i64_w, i32_w]; rw [c55b0]) | skip)
                    by_cases c56 : 3 < (l1.length : Int)
                    ·
                     rw [if_pos c56] at H
                     have c56b0 : decide (3 < (l1.length : Int)) = true := decide_eq_true c56
                     have c56b1 : decide (3 < l1.length) = true := decide_eq_true (by omega)
                     clear c56
                     have H' := Aside0.mk H
                     clear H
                     try go_wp2
                     have n0_ := Aside0.mk (Kd.R_drew HO_7.out)
                     have n1_ := Aside0.mk (Kd.R_drew HO_8.out)
                     have n2_ := Aside0.mk (below_drew1 HB.out)
                     clear HO_7
                     clear HO_8
                     clear HB
                     have HO_7 := n0_
                     have HO_8 := n1_
                     have HB := n2_
                     clear n0_ n1_ n2_
                     have p241 : 0 ≤ (3 : Int) := (by omega)
                     have q241 : 3 < (l0.length : Int) := of_decide_eq_true (by first | (with_reducible assumption) | assumption)
                     obtain ⟨ad241, e241, hx241_0⟩ := Kd.at_int HR0.out 3 p241 q241
                     have hw241_0 := hx241_0
                     (try rw [show ((3 : Int)).toNat = 3 from rfl] at hw241_0)
                     (try rw [show 3 * 1 = 3 from rfl] at hw241_0)
                     (try simp only [Nat.reduceMul, Nat.reduceEqDiff, Go.Addr.add, ↓reduceIte] at hw241_0)
                     obtain rfl : ad183 = ad241 := (by injection e241)
                     (try simp only [show (3 : Int).toNat = 3 from rfl, Nat.reduceMul, Nat.reduceEqDiff, Go.Addr.add, ↓reduceIte] at hx241_0)
                     have qi241 : (3 < l0.length) = True := eq_true (by omega)
                     (try rw [show ((3 : Int)).toNat = 3 from rfl] at hx241_0)
                     replace hx241_0 := (HB.out.cell (World.block_lt_of_cell? w _ hx241_0)).trans hx241_0
                     replace p241 := eq_true p241
                     replace q241 := eq_true q241
                     have p242 : 0 ≤ (3 : Int) := (by omega)
                     have q242 : 3 < (l1.length : Int) := of_decide_eq_true (by first | (with_reducible assumption) | assumption)
                     obtain ⟨ad242, e242, hx242_0⟩ := Kd.at_int HR1.out 3 p242 q242
                     have hw242_0 := hx242_0
                     (try rw [show ((3 : Int)).toNat = 3 from rfl] at hw242_0)
                     (try rw [show 3 * 1 = 3 from rfl] at hw242_0)
                     (try simp only [Nat.reduceMul, Nat.reduceEqDiff, Go.Addr.add, ↓reduceIte] at hw242_0)
                     obtain rfl : ad209 = ad242 := (by injection e242)
                     (try simp only [show (3 : Int).toNat = 3 from rfl, Nat.reduceMul, Nat.reduceEqDiff, Go.Addr.add, ↓reduceIte] at hx242_0)
                     have qi242 : (3 < l1.length) = True := eq_true (by omega)
                     (try rw [show ((3 : Int)).toNat = 3 from rfl] at hx242_0)
                     replace hx242_0 := (HB.out.cell (World.block_lt_of_cell? w _ hx242_0)).trans hx242_0
                     replace p242 := eq_true p242
                     replace q242 := eq_true q242
                     refine start_ (n := 11) (S := fun w' => w'.cell? ⟨ad183.block, ad183.off + 3, none⟩ = some (.int .i64 (rd l0 3)) ∧ w'.cell? ⟨ad209.block, ad209.off + 3, none⟩ = some (.int .i64 (rd l1 3))) (ds := []) #[false, false, false, false, false, false, false, false, false, false, false] (by kernel_rfl) rfl rfl ⟨((HB.out.cell (World.block_lt_of_cell? w _ hw241_0)).trans hw241_0), ((HB.out.cell (World.block_lt_of_cell? w _ hw242_0)).trans hw242_0)⟩ (fun hHeld => ?_); refine with_tabW conclavelaw07_ScheduleApart.tab12 conclavelaw07_ScheduleApart.bits12 (fun HT_ HW_ => ?_)
                     generalize wc.drew = w57 at HO_7 HO_8 HB hx241_0 hx242_0 hHeld ⊢
                     refine pure_ (i := 0) (N := some 104) (v := ?_) (a' := ?_) #[true, false, false, false, false, false, false, false, false, false, false] rfl rfl (any_of HT_.out (by kernel_rfl)) (fun _ _ _ h => h) (Or.inl ⟨by rfl, ?_⟩) ?_ ?_
                     rotate_left; (intro w'; go_simp; with_reducible rfl); rotate_left; (simp only [Act.put, List.setIfInBounds_toArray, List.set_cons_zero, List.set_cons_succ, i64_w, i32_w]; rfl)
                     refine pure_ (i := 1) (N := some 105) (v := ?_) (a' := ?_) #[true, true, false, false, false, false, false, false, false, false, false] rfl rfl (any_of HT_.out (by kernel_rfl)) (fun _ _ _ h => h) (Or.inl ⟨by rfl, ?_⟩) ?_ ?_
                     rotate_left; (intro w'; go_simp; with_reducible rfl); rotate_left; (simp only [Act.put, List.setIfInBounds_toArray, List.set_cons_zero, List.set_cons_succ, i64_w, i32_w]; rfl)
                     refine pure_ (i := 2) (N := some 106) (v := ?_) (a' := ?_) #[true, true, true, false, false, false, false, false, false, false, false] rfl rfl (any_of HT_.out (by kernel_rfl)) (fun _ _ _ h => h) (Or.inl ⟨by rfl, ?_⟩) ?_ ?_
                     rotate_left; (intro w'; go_simp; with_reducible rfl); rotate_left; (simp only [Act.put, List.setIfInBounds_toArray, List.set_cons_zero, List.set_cons_succ, i64_w, i32_w]; rfl)
                     refine pure_ (i := 3) (N := some 107) (v := ?_) (a' := ?_) #[true, true, true, true, false, false, false, false, false, false, false] rfl rfl (any_of HT_.out (by kernel_rfl)) (fun _ _ _ h => h) (Or.inl ⟨by rfl, ?_⟩) ?_ ?_
                     rotate_left; (intro w'; go_simp; with_reducible rfl); rotate_left; (simp only [Act.put, List.setIfInBounds_toArray, List.set_cons_zero, List.set_cons_succ, i64_w, i32_w]; rfl)
                     refine pure_ (i := 5) (N := some 109) (v := ?_) (a' := ?_) #[true, true, true, true, false, true, false, false, false, false, false] rfl rfl (any_of HT_.out (by kernel_rfl)) (fun _ _ _ h => h) (Or.inl ⟨by rfl, ?_⟩) ?_ ?_
                     rotate_left; (intro w'; go_simp; with_reducible rfl); rotate_left; (simp only [Act.put, List.setIfInBounds_toArray, List.set_cons_zero, List.set_cons_succ, i64_w, i32_w]; rfl)
                     refine pure_ (i := 6) (N := some 110) (v := ?_) (a' := ?_) #[true, true, true, true, false, true, true, false, false, false, false] rfl rfl (any_of HT_.out (by kernel_rfl)) (fun _ _ _ h => h) (Or.inl ⟨by rfl, ?_⟩) ?_ ?_
                     rotate_left; (intro w'; go_simp; with_reducible rfl); rotate_left; (simp only [Act.put, List.setIfInBounds_toArray, List.set_cons_zero, List.set_cons_succ, i64_w, i32_w]; rfl)
                     refine take_ (i := 4) (N := some 108) (v := ?_) (a' := ?_) #[true, true, true, true, true, true, true, false, false, false, false] rfl rfl (take_ofW HT_.out HW_.out (by kernel_rfl)) (fun _ _ _ h => h) (Or.inl ⟨by rfl, ?_⟩) hHeld ?_ ?_
                     rotate_left
                     ·
                      rintro w' ⟨s0, s1⟩
                      go_simp
                      with_reducible rfl
                     rotate_left
                     ·
                      simp only [Act.put, List.setIfInBounds_toArray, List.set_cons_zero, List.set_cons_succ, i64_w, i32_w]
                      rfl
                     refine take_ (i := 7) (N := some 111) (v := ?_) (a' := ?_) #[true, true, true, true, true, true, true, true, false, false, false] rfl rfl (take_ofW HT_.out HW_.out (by kernel_rfl)) (fun _ _ _ h => h) (Or.inl ⟨by rfl, ?_⟩) hHeld ?_ ?_
                     rotate_left
                     ·
                      rintro w' ⟨s0, s1⟩
                      go_simp
                      with_reducible rfl
                     rotate_left
                     ·
                      simp only [Act.put, List.setIfInBounds_toArray, List.set_cons_zero, List.set_cons_succ, i64_w, i32_w]
                      rfl
                     refine pure_ (i := 8) (N := some 112) (v := ?_) (a' := ?_) #[true, true, true, true, true, true, true, true, true, false, false] rfl rfl (any_of HT_.out (by kernel_rfl)) (fun _ _ _ h => h) (Or.inl ⟨by rfl, ?_⟩) ?_ ?_
                     rotate_left; (intro w'; go_simp; with_reducible rfl); rotate_left; (simp only [Act.put, List.setIfInBounds_toArray, List.set_cons_zero, List.set_cons_succ, i64_w, i32_w]; rfl)
                     refine pure_ (i := 9) (N := some 113) (v := ?_) (a' := ?_) #[true, true, true, true, true, true, true, true, true, true, false] rfl rfl (any_of HT_.out (by kernel_rfl)) (fun _ _ _ h => h) (Or.inl ⟨by rfl, ?_⟩) ?_ ?_
                     rotate_left; (intro w'; go_simp; with_reducible rfl); rotate_left; (simp only [Act.put, List.setIfInBounds_toArray, List.set_cons_zero, List.set_cons_succ, i64_w, i32_w]; rfl)
                     refine pure_ (i := 10) (N := some 11) (v := ?_) (a' := ?_) #[true, true, true, true, true, true, true, true, true, true, true] rfl rfl (any_of HT_.out (by kernel_rfl)) (fun _ _ _ h => h) (Or.inl ⟨by rfl, ?_⟩) ?_ ?_
                     rotate_left; (intro w'; go_simp; with_reducible rfl); rotate_left; (simp only [Act.put, List.setIfInBounds_toArray, List.set_cons_zero, List.set_cons_succ, i64_w, i32_w]; rfl)
                     refine done_ (done_of HT_.out (by kernel_rfl)) ?_
                     try go_wp2
                     go_meet
                     case rel => exact ⟨_, (((rd l0 3) == (rd l1 3))), (by first | rfl | (simp; done) | (simp [*]; done)), H', ⟨by have := HJ4.out; have := HJ27.out; have := HJ46.out; first | omega | exact Nat.le_refl _⟩, ⟨by (with_reducible repeat (first | apply Kd.R_alloc | apply Kd.R_drewN | apply Kd.R_drew)); exact HO_7.out⟩, ⟨by (with_reducible repeat (first | apply Kd.R_alloc | apply Kd.R_drewN | apply Kd.R_drew)); exact HO_8.out⟩, ⟨by repeat (first | (with_reducible first | exact HB.out | apply below_alloc | apply pw_below_drewN | apply below_drew1) | exact HB.out)⟩⟩
                    ·
                     rw [if_neg c56] at H
                     exact absurd H (by simp)
                   ·
                    rw [if_neg c55] at H
                    exact absurd H (by simp)
                  ·
                   replace c54 := Bool.eq_false_iff.mpr c54
                   subst c54
                   have H1 : (conclavelaw07_ScheduleApart.j3 kj46 t206 t232 x9_27 false false) = some r := by rw [if_neg (show ¬ (false = true) by decide)] at H; exact H
                   clear H
                   have H := H1
                   clear H1
                   have H' := Aside0.mk H
                   clear H
                   try go_wp2
                   have n0_ := Aside0.mk (Kd.R_drew HO_7.out)
                   have n1_ := Aside0.mk (Kd.R_drew HO_8.out)
                   have n2_ := Aside0.mk (below_drew1 HB.out)
                   clear HO_7
                   clear HO_8
                   clear HB
                   have HO_7 := n0_
                   have HO_8 := n1_
                   have HB := n2_
                   clear n0_ n1_ n2_
                   refine start_ (n := 11) (S := fun w' => True) (ds := []) #[false, false, false, false, false, false, false, false, false, false, false] (by kernel_rfl) rfl rfl trivial (fun hHeld => ?_); refine with_tabW conclavelaw07_ScheduleApart.tab12 conclavelaw07_ScheduleApart.bits12 (fun HT_ HW_ => ?_)
                   generalize wc.drew = w58 at HO_7 HO_8 HB hHeld ⊢
                   refine pure_ (i := 0) (N := some 104) (v := ?_) (a' := ?_) #[true, false, false, false, false, false, false, false, false, false, false] rfl rfl (any_of HT_.out (by kernel_rfl)) (fun _ _ _ h => h) (Or.inl ⟨by rfl, ?_⟩) ?_ ?_
                   rotate_left; (intro w'; go_simp; with_reducible rfl); rotate_left; (simp only [Act.put, List.setIfInBounds_toArray, List.set_cons_zero, List.set_cons_succ, i64_w, i32_w]; rfl)
                   refine pure_ (i := 1) (N := some 105) (v := ?_) (a' := ?_) #[true, true, false, false, false, false, false, false, false, false, false] rfl rfl (any_of HT_.out (by kernel_rfl)) (fun _ _ _ h => h) (Or.inl ⟨by rfl, ?_⟩) ?_ ?_
                   rotate_left; (intro w'; go_simp; with_reducible rfl); rotate_left; (simp only [Act.put, List.setIfInBounds_toArray, List.set_cons_zero, List.set_cons_succ, i64_w, i32_w]; rfl)
                   refine pure_ (i := 2) (N := some 106) (v := undef) (a' := ?_) #[true, true, true, false, false, false, false, false, false, false, false] rfl rfl (any_of HT_.out (by kernel_rfl)) (fun _ _ _ h => h) (Or.inr ⟨by rfl, rfl⟩) ?_ ?_
                   rotate_left
                   ·
                    simp only [Act.put, List.setIfInBounds_toArray, List.set_cons_zero, List.set_cons_succ, i64_w, i32_w]
                    rfl
                   refine pure_ (i := 3) (N := some 107) (v := undef) (a' := ?_) #[true, true, true, true, false, false, false, false, false, false, false] rfl rfl (any_of HT_.out (by kernel_rfl)) (fun _ _ _ h => h) (Or.inr ⟨by rfl, rfl⟩) ?_ ?_
                   rotate_left
                   ·
                    simp only [Act.put, List.setIfInBounds_toArray, List.set_cons_zero, List.set_cons_succ, i64_w, i32_w]
                    rfl
                   refine pure_ (i := 4) (N := some 108) (v := undef) (a' := ?_) #[true, true, true, true, true, false, false, false, false, false, false] rfl rfl (any_of HT_.out (by kernel_rfl)) (fun _ _ _ h => h) (Or.inr ⟨by rfl, rfl⟩) ?_ ?_
                   rotate_left
                   ·
                    simp only [Act.put, List.setIfInBounds_toArray, List.set_cons_zero, List.set_cons_succ, i64_w, i32_w]
                    rfl
                   refine pure_ (i := 5) (N := some 109) (v := undef) (a' := ?_) #[true, true, true, true, true, true, false, false, false, false, false] rfl rfl (any_of HT_.out (by kernel_rfl)) (fun _ _ _ h => h) (Or.inr ⟨by rfl, rfl⟩) ?_ ?_
                   rotate_left
                   ·
                    simp only [Act.put, List.setIfInBounds_toArray, List.set_cons_zero, List.set_cons_succ, i64_w, i32_w]
                    rfl
                   refine pure_ (i := 6) (N := some 110) (v := undef) (a' := ?_) #[true, true, true, true, true, true, true, false, false, false, false] rfl rfl (any_of HT_.out (by kernel_rfl)) (fun _ _ _ h => h) (Or.inr ⟨by rfl, rfl⟩) ?_ ?_
                   rotate_left
                   ·
                    simp only [Act.put, List.setIfInBounds_toArray, List.set_cons_zero, List.set_cons_succ, i64_w, i32_w]
                    rfl
                   refine pure_ (i := 7) (N := some 111) (v := undef) (a' := ?_) #[true, true, true, true, true, true, true, true, false, false, false] rfl rfl (any_of HT_.out (by kernel_rfl)) (fun _ _ _ h => h) (Or.inr ⟨by rfl, rfl⟩) ?_ ?_
                   rotate_left
                   ·
                    simp only [Act.put, List.setIfInBounds_toArray, List.set_cons_zero, List.set_cons_succ, i64_w, i32_w]
                    rfl
                   refine pure_ (i := 8) (N := some 112) (v := undef) (a' := ?_) #[true, true, true, true, true, true, true, true, true, false, false] rfl rfl (any_of HT_.out (by kernel_rfl)) (fun _ _ _ h => h) (Or.inr ⟨by rfl, rfl⟩) ?_ ?_
                   rotate_left
                   ·
                    simp only [Act.put, List.setIfInBounds_toArray, List.set_cons_zero, List.set_cons_succ, i64_w, i32_w]
                    rfl
                   refine pure_ (i := 9) (N := some 113) (v := ?_) (a' := ?_) #[true, true, true, true, true, true, true, true, true, true, false] rfl rfl (any_of HT_.out (by kernel_rfl)) (fun _ _ _ h => h) (Or.inl ⟨by rfl, ?_⟩) ?_ ?_
                   rotate_left; (intro w'; go_simp; with_reducible rfl); rotate_left; (simp only [Act.put, List.setIfInBounds_toArray, List.set_cons_zero, List.set_cons_succ, i64_w, i32_w]; rfl)
                   refine pure_ (i := 10) (N := some 11) (v := ?_) (a' := ?_) #[true, true, true, true, true, true, true, true, true, true, true] rfl rfl (any_of HT_.out (by kernel_rfl)) (fun _ _ _ h => h) (Or.inl ⟨by rfl, ?_⟩) ?_ ?_
                   rotate_left; (intro w'; go_simp; with_reducible rfl); rotate_left; (simp only [Act.put, List.setIfInBounds_toArray, List.set_cons_zero, List.set_cons_succ, i64_w, i32_w]; rfl)
                   refine done_ (done_of HT_.out (by kernel_rfl)) ?_
                   try go_wp2
                   go_meet
                   case rel => exact ⟨_, (false), (by first | rfl | (simp; done) | (simp [*]; done)), H', ⟨by have := HJ4.out; have := HJ27.out; have := HJ46.out; first | omega | exact Nat.le_refl _⟩, ⟨by (with_reducible repeat (first | apply Kd.R_alloc | apply Kd.R_drewN | apply Kd.R_drew)); exact HO_7.out⟩, ⟨by (with_reducible repeat (first | apply Kd.R_alloc | apply Kd.R_drewN | apply Kd.R_drew)); exact HO_8.out⟩, ⟨by repeat (first | (with_reducible first | exact HB.out | apply below_alloc | apply pw_below_drewN | apply below_drew1) | exact HB.out)⟩⟩
                 case rest =>
                  clear HC53
                  try clear c1
                  try clear p2
                  try clear q2
                  try clear hx2
                  try clear qi2
                  try clear c4
                  try clear c5
                  try clear c9
                  try clear c10
                  try clear c11
                  try clear p23
                  try clear q23
                  try clear hx23
                  try clear qi23
                  try clear p24
                  try clear q24
                  try clear hx24
                  try clear qi24
                  try clear c44
                  try clear c44b0
                  try clear c44b1
                  try clear c48
                  try clear c49
                  try clear c49b0
                  try clear c49b1
                  try clear c50
                  try clear c50b0
                  try clear c50b1
                  try clear c54
                  try clear c55
                  try clear c55b0
                  try clear c55b1
                  try clear c56
                  try clear c56b0
                  try clear c56b1
                  try clear hx235_0
                  try clear hx236_0
                  try clear hx237_0
                  try clear hx238_0
                  try clear hx239_0
                  try clear hx240_0
                  try clear hx241_0
                  try clear hx242_0
                  try clear p2
                  try clear p23
                  try clear p235
                  try clear p236
                  try clear p237
                  try clear p238
                  try clear p239
                  try clear p24
                  try clear p240
                  try clear p241
                  try clear p242
                  try clear q2
                  try clear q23
                  try clear q235
                  try clear q236
                  try clear q237
                  try clear q238
                  try clear q239
                  try clear q24
                  try clear q240
                  try clear q241
                  try clear q242
                  obtain ⟨kq, x11_52, rfl, HA, HJ52, HO_7, HO_8, HB⟩ := hcut
                  cases kq with
                  | zero => exact absurd HA.out (by simp [conclavelaw07_ScheduleApart.j3])
                  | succ kj52 =>
                   have H := HA.out
                   clear HA
                   simp only [conclavelaw07_ScheduleApart.j3] at H
                   have H' := Aside0.mk H
                   clear H
                   obtain ⟨Ao59, co59, eo59⟩ := Kd.R_slice HO_7.out
                   subst eo59
                   go_wp2
                   go_loopg [116] kj52 (fun kq v116 w' => ∃ (x116_5 : Int), v116 = .int .i64 x116_5 ∧ Aside0 (conclavelaw07_ScheduleApart.l0 kq t206 t232 x9_27 x10_46 x11_52 (t206.length : Int) x116_5 = some r) ∧ Aside0 (kq ≤ kj52) ∧ Aside0 (Kd.R (Kd.int .i64) 3 w' w.heap.size (fun k_ => some k_ ≠ (v233 : Value).ownBlock) (.slice Ao59 t206.length co59) t206) ∧ Aside0 (Kd.R (Kd.int .i64) 3 w' w.heap.size (fun k_ => some k_ ≠ ((.slice Ao59 t206.length co59) : Value).ownBlock) v233 t232) ∧ Aside0 (Below w.heap.size w w'))
                   case atStart => exact ⟨(0), (by first | rfl | (simp; done) | (simp [*]; done)), H', ⟨Nat.le_refl _⟩, ⟨by (with_reducible repeat (first | apply Kd.R_alloc | apply Kd.R_drewN | apply Kd.R_drew)); exact HO_7.out⟩, ⟨by (with_reducible repeat (first | apply Kd.R_alloc | apply Kd.R_drewN | apply Kd.R_drew)); exact HO_8.out⟩, ⟨by repeat (first | (with_reducible first | exact HB.out | apply below_alloc | apply pw_below_drewN | apply below_drew1) | exact HB.out)⟩⟩
                   case round =>
                    clear H'
                    try clear c1
                    try clear p2
                    try clear q2
                    try clear hx2
                    try clear qi2
                    try clear c4
                    try clear c5
                    try clear c9
                    try clear c10
                    try clear c11
                    try clear p23
                    try clear q23
                    try clear hx23
                    try clear qi23
                    try clear p24
                    try clear q24
                    try clear hx24
                    try clear qi24
                    try clear c44
                    try clear c44b0
                    try clear c44b1
                    try clear c48
                    try clear c49
                    try clear c49b0
                    try clear c49b1
                    try clear c50
                    try clear c50b0
                    try clear c50b1
                    try clear c54
                    try clear c55
                    try clear c55b0
                    try clear c55b1
                    try clear c56
                    try clear c56b0
                    try clear c56b1
                    try clear hx235_0
                    try clear hx236_0
                    try clear hx237_0
                    try clear hx238_0
                    try clear hx239_0
                    try clear hx240_0
                    try clear hx241_0
                    try clear hx242_0
                    try clear p2
                    try clear p23
                    try clear p235
                    try clear p236
                    try clear p237
                    try clear p238
                    try clear p239
                    try clear p24
                    try clear p240
                    try clear p241
                    try clear p242
                    try clear q2
                    try clear q23
                    try clear q235
                    try clear q236
                    try clear q237
                    try clear q238
                    try clear q239
                    try clear q24
                    try clear q240
                    try clear q241
                    try clear q242
                    obtain ⟨x116_5, rfl, HA, HK5, HO_7, HO_8, HB⟩ := hrel
                    cases gk with
                    | zero => exact absurd HA.out (by simp [conclavelaw07_ScheduleApart.l0])
                    | succ k5 =>
                     have H := HA.out
                     clear HA
                     simp only [conclavelaw07_ScheduleApart.l0] at H
                     by_cases c60 : x116_5 < (t206.length : Int)
                     ·
                      rw [if_pos c60] at H
                      have c60b0 : decide (x116_5 < (t206.length : Int)) = true := decide_eq_true c60
                      clear c60
                      have HC61 := Aside0.mk H
                      clear H
                      go_upto_if 121 with (fail)
                      go_cut [13] (fun v13 wc => ∃ (kq : Nat) (x13_60 : Bool), v13 = .bool x13_60 ∧ Aside0 (conclavelaw07_ScheduleApart.j5 kq t206 t232 x9_27 x10_46 x11_52 x116_5 x13_60 (t206.length : Int) x116_5 = some r) ∧ Aside0 (kq ≤ k5) ∧ Aside0 (Kd.R (Kd.int .i64) 3 wc w.heap.size (fun k_ => some k_ ≠ (v233 : Value).ownBlock) (.slice Ao59 t206.length co59) t206) ∧ Aside0 (Kd.R (Kd.int .i64) 3 wc w.heap.size (fun k_ => some k_ ≠ ((.slice Ao59 t206.length co59) : Value).ownBlock) v233 t232) ∧ Aside0 (Below w.heap.size w wc))
                      case first =>
                       have H := HC61.out
                       clear HC61
                       by_cases c62 : x116_5 = 0
                       ·
                        rw [if_pos c62] at H
                        have c62b0 : (x116_5 == 0) = true := beq_iff_eq.mpr c62
                        have c62b1 : (x116_5 != 0) = false := bne_eq_false_iff_eq.mpr c62
                        clear c62
                        (first | rw [c62b0] | (simp only [i64_w, i32_w]; rw [c62b0]) | skip)
                        have H' := Aside0.mk H
                        clear H
                        go_wp2
                        go_meet
                        case rel => exact ⟨_, (x9_27), (by first | rfl | (simp; done) | (simp [*]; done)), H', ⟨by have := HJ4.out; have := HJ27.out; have := HJ46.out; have := HJ52.out; have := HK5.out; first | omega | exact Nat.le_refl _⟩, ⟨by (with_reducible repeat (first | apply Kd.R_alloc | apply Kd.R_drewN | apply Kd.R_drew)); exact HO_7.out⟩, ⟨by (with_reducible repeat (first | apply Kd.R_alloc | apply Kd.R_drewN | apply Kd.R_drew)); exact HO_8.out⟩, ⟨by repeat (first | (with_reducible first | exact HB.out | apply below_alloc | apply pw_below_drewN | apply below_drew1) | exact HB.out)⟩⟩
                       ·
                        rw [if_neg c62] at H
                        have c62b0 : (x116_5 == 0) = false := beq_eq_false_iff_ne.mpr c62
                        have c62b1 : (x116_5 != 0) = true := bne_iff_ne.mpr c62
                        (first | rw [c62b0] | (simp only [i64_w, i32_w]; rw [c62b0]) | skip)
                        have H' := Aside0.mk H
                        clear H
                        go_wp2
                        go_meet
                        case rel => exact ⟨_, (x11_52), (by first | rfl | (simp; done) | (simp [*]; done)), H', ⟨by have := HJ4.out; have := HJ27.out; have := HJ46.out; have := HJ52.out; have := HK5.out; first | omega | exact Nat.le_refl _⟩, ⟨by (with_reducible repeat (first | apply Kd.R_alloc | apply Kd.R_drewN | apply Kd.R_drew)); exact HO_7.out⟩, ⟨by (with_reducible repeat (first | apply Kd.R_alloc | apply Kd.R_drewN | apply Kd.R_drew)); exact HO_8.out⟩, ⟨by repeat (first | (with_reducible first | exact HB.out | apply below_alloc | apply pw_below_drewN | apply below_drew1) | exact HB.out)⟩⟩
                      case rest =>
                       clear HC61
                       try clear c1
                       try clear p2
                       try clear q2
                       try clear hx2
                       try clear qi2
                       try clear c4
                       try clear c5
                       try clear c6
                       try clear c9
                       try clear c10
                       try clear c11
                       try clear p23
                       try clear q23
                       try clear hx23
                       try clear qi23
                       try clear p24
                       try clear q24
                       try clear hx24
                       try clear qi24
                       try clear c44
                       try clear c44b0
                       try clear c44b1
                       try clear c48
                       try clear c49
                       try clear c49b0
                       try clear c49b1
                       try clear c50
                       try clear c50b0
                       try clear c50b1
                       try clear c54
                       try clear c55
                       try clear c55b0
                       try clear c55b1
                       try clear c56
                       try clear c56b0
                       try clear c56b1
                       try clear c60
                       try clear c60b0
                       try clear c62
                       try clear c62b0
                       try clear c62b1
                       try clear hx235_0
                       try clear hx236_0
                       try clear hx237_0
                       try clear hx238_0
                       try clear hx239_0
                       try clear hx240_0
                       try clear hx241_0
                       try clear hx242_0
                       try clear p2
                       try clear p23
                       try clear p235
                       try clear p236
                       try clear p237
                       try clear p238
                       try clear p239
                       try clear p24
                       try clear p240
                       try clear p241
                       try clear p242
                       try clear q2
                       try clear q23
                       try clear q235
                       try clear q236
                       try clear q237
                       try clear q238
                       try clear q239
                       try clear q24
                       try clear q240
                       try clear q241
                       try clear q242
                       obtain ⟨kq, x13_60, rfl, HA, HJ60, HO_7, HO_8, HB⟩ := hcut
                       cases kq with
                       | zero => exact absurd HA.out (by simp [conclavelaw07_ScheduleApart.j5])
                       | succ kj60 =>
                        have H := HA.out
                        clear HA
                        simp only [conclavelaw07_ScheduleApart.j5] at H
                        have HC63 := Aside0.mk H
                        clear H
                        go_upto_region 19 with (fail)
                        go_cut [128] (fun v128 wc => ∃ (kq : Nat) (x128_62 : Bool), v128 = .bool x128_62 ∧ Aside0 (conclavelaw07_ScheduleApart.j6 kq t206 t232 x9_27 x10_46 x11_52 x116_5 x13_60 (t206.length : Int) x116_5 x128_62 = some r) ∧ Aside0 (kq ≤ kj60) ∧ Aside0 (Kd.R (Kd.int .i64) 3 wc w.heap.size (fun k_ => some k_ ≠ (v233 : Value).ownBlock) (.slice Ao59 t206.length co59) t206) ∧ Aside0 (Kd.R (Kd.int .i64) 3 wc w.heap.size (fun k_ => some k_ ≠ ((.slice Ao59 t206.length co59) : Value).ownBlock) v233 t232) ∧ Aside0 (Below w.heap.size w wc))
                        case first =>
                         have H := HC63.out
                         clear HC63
                         by_cases c64 : x116_5 = 1
                         ·
                          rw [if_pos c64] at H
                          have c64b0 : (x116_5 == 1) = true := beq_iff_eq.mpr c64
                          have c64b1 : (x116_5 != 1) = false := bne_eq_false_iff_eq.mpr c64
                          clear c64
                          (first | rw [c64b0] | (simp only [i64_w, i32_w]; rw [c64b0]) | skip)
                          have H' := Aside0.mk H
                          clear H
                          go_wp2
                          go_meet
                          case rel => exact ⟨_, (true), (by first | rfl | (simp; done) | (simp [*]; done)), H', ⟨by have := HJ4.out; have := HJ27.out; have := HJ46.out; have := HJ52.out; have := HK5.out; have := HJ60.out; first | omega | exact Nat.le_refl _⟩, ⟨by (with_reducible repeat (first | apply Kd.R_alloc | apply Kd.R_drewN | apply Kd.R_drew)); exact HO_7.out⟩, ⟨by (with_reducible repeat (first | apply Kd.R_alloc | apply Kd.R_drewN | apply Kd.R_drew)); exact HO_8.out⟩, ⟨by repeat (first | (with_reducible first | exact HB.out | apply below_alloc | apply pw_below_drewN | apply below_drew1) | exact HB.out)⟩⟩
                         ·
                          rw [if_neg c64] at H
                          have c64b0 : (x116_5 == 1) = false := beq_eq_false_iff_ne.mpr c64
                          have c64b1 : (x116_5 != 1) = true := bne_iff_ne.mpr c64
                          (first | rw [c64b0] | (simp only [i64_w, i32_w]; rw [c64b0]) | skip)
                          have H' := Aside0.mk H
                          clear H
                          go_wp2
                          go_meet
                          case rel => exact ⟨_, ((x116_5 == 2)), (by first | rfl | (simp; done) | (simp [*]; done)), H', ⟨by have := HJ4.out; have := HJ27.out; have := HJ46.out; have := HJ52.out; have := HK5.out; have := HJ60.out; first | omega | exact Nat.le_refl _⟩, ⟨by (with_reducible repeat (first | apply Kd.R_alloc | apply Kd.R_drewN | apply Kd.R_drew)); exact HO_7.out⟩, ⟨by (with_reducible repeat (first | apply Kd.R_alloc | apply Kd.R_drewN | apply Kd.R_drew)); exact HO_8.out⟩, ⟨by repeat (first | (with_reducible first | exact HB.out | apply below_alloc | apply pw_below_drewN | apply below_drew1) | exact HB.out)⟩⟩
                        case rest =>
                         clear HC63
                         try clear c1
                         try clear p2
                         try clear q2
                         try clear hx2
                         try clear qi2
                         try clear c4
                         try clear c5
                         try clear c6
                         try clear c9
                         try clear c10
                         try clear c11
                         try clear p23
                         try clear q23
                         try clear hx23
                         try clear qi23
                         try clear p24
                         try clear q24
                         try clear hx24
                         try clear qi24
                         try clear c44
                         try clear c44b0
                         try clear c44b1
                         try clear c48
                         try clear c49
                         try clear c49b0
                         try clear c49b1
                         try clear c50
                         try clear c50b0
                         try clear c50b1
                         try clear c54
                         try clear c55
                         try clear c55b0
                         try clear c55b1
                         try clear c56
                         try clear c56b0
                         try clear c56b1
                         try clear c60
                         try clear c60b0
                         try clear c62
                         try clear c62b0
                         try clear c62b1
                         try clear c64
                         try clear c64b0
                         try clear c64b1
                         try clear hx235_0
                         try clear hx236_0
                         try clear hx237_0
                         try clear hx238_0
                         try clear hx239_0
                         try clear hx240_0
                         try clear hx241_0
                         try clear hx242_0
                         try clear p2
                         try clear p23
                         try clear p235
                         try clear p236
                         try clear p237
                         try clear p238
                         try clear p239
                         try clear p24
                         try clear p240
                         try clear p241
                         try clear p242
                         try clear q2
                         try clear q23
                         try clear q235
                         try clear q236
                         try clear q237
                         try clear q238
                         try clear q239
                         try clear q24
                         try clear q240
                         try clear q241
                         try clear q242
                         obtain ⟨kq, x128_62, rfl, HA, HJ62, HO_7, HO_8, HB⟩ := hcut
                         cases kq with
                         | zero => exact absurd HA.out (by simp [conclavelaw07_ScheduleApart.j6])
                         | succ kj62 =>
                          have H := HA.out
                          clear HA
                          simp only [conclavelaw07_ScheduleApart.j6] at H
                          by_cases c65 : x128_62 = true
                          ·
                           subst c65
                           have H1 : (if 0 ≤ x116_5 then (if x116_5 < (t206.length : Int) then (if (rd t206 x116_5) = 0 then (some false) else (if x116_5 < (t232.length : Int) then (if (((rd t206 x116_5) == (rd t232 x116_5)) != x10_46) = true then (some false) else (conclavelaw07_ScheduleApart.l0 kj62 t206 t232 x9_27 x10_46 x11_52 (t206.length : Int) (wrap64 (x116_5 + 1)))) else (none))) else (none)) else (none)) = some r := by rw [if_pos rfl] at H; exact H
                           clear H
                           have H := H1
                           clear H1
                           by_cases c66 : 0 ≤ x116_5
                           ·
                            rw [if_pos c66] at H
                            have c66b0 : decide (0 ≤ x116_5) = true := decide_eq_true c66
                            clear c66
                            by_cases c67 : x116_5 < (t206.length : Int)
                            ·
                             rw [if_pos c67] at H
                             have c67b0 : decide (x116_5 < (t206.length : Int)) = true := decide_eq_true c67
                             clear c67
                             by_cases c68 : (rd t206 x116_5) = 0
                             ·
                              rw [if_pos c68] at H
                              have c68b0 : ((rd t206 x116_5) == 0) = true := beq_iff_eq.mpr c68
                              have c68b1 : ((rd t206 x116_5) != 0) = false := bne_eq_false_iff_eq.mpr c68
                              clear c68
                              obtain rfl := Option.some.inj H
                              try go_wp2
                              have n0_ := Aside0.mk (Kd.R_drew HO_7.out)
                              have n1_ := Aside0.mk (Kd.R_drew HO_8.out)
                              have n2_ := Aside0.mk (below_drew1 HB.out)
                              clear HO_7
                              clear HO_8
                              clear HB
                              have HO_7 := n0_
                              have HO_8 := n1_
                              have HB := n2_
                              clear n0_ n1_ n2_
                              have p243 : 0 ≤ (x116_5 : Int) := of_decide_eq_true (by first | (with_reducible assumption) | assumption)
                              have q243 : x116_5 < (t206.length : Int) := of_decide_eq_true (by first | (with_reducible assumption) | assumption)
                              obtain ⟨ad243, e243, hx243_0⟩ := Kd.at_int (Kd.R_reads' HO_7.out).2.2 x116_5 p243 q243
                              cases e243
                              replace p243 := eq_true p243
                              replace q243 := eq_true q243
                              refine start_ (n := 18) (S := fun w' => w'.cell? (ad243.add (x116_5).toNat) = some (.int .i64 (rd t206 x116_5))) (ds := []) #[false, false, false, false, false, false, false, false, false, false, false, false, false, false, false, false, false, false] (by kernel_rfl) rfl rfl (hx243_0) (fun hHeld => ?_); refine with_tabW conclavelaw07_ScheduleApart.tab21 conclavelaw07_ScheduleApart.bits21 (fun HT_ HW_ => ?_)
                              generalize wc.drew = w69 at HO_7 HO_8 HB hx243_0 hHeld ⊢
                              refine pure_ (i := 0) (N := some 130) (v := ?_) (a' := ?_) #[true, false, false, false, false, false, false, false, false, false, false, false, false, false, false, false, false, false] rfl rfl (any_of HT_.out (by kernel_rfl)) (fun _ _ _ h => h) (Or.inl ⟨by rfl, ?_⟩) ?_ ?_
                              rotate_left; (intro w'; go_simp; with_reducible rfl); rotate_left; (simp only [Act.put, List.setIfInBounds_toArray, List.set_cons_zero, List.set_cons_succ, i64_w, i32_w]; rfl)
                              refine pure_ (i := 1) (N := some 131) (v := ?_) (a' := ?_) #[true, true, false, false, false, false, false, false, false, false, false, false, false, false, false, false, false, false] rfl rfl (any_of HT_.out (by kernel_rfl)) (fun _ _ _ h => h) (Or.inl ⟨by rfl, ?_⟩) ?_ ?_
                              rotate_left; (intro w'; go_simp; with_reducible rfl); rotate_left; (simp only [Act.put, List.setIfInBounds_toArray, List.set_cons_zero, List.set_cons_succ, i64_w, i32_w]; rfl)
                              refine pure_ (i := 2) (N := some 132) (v := ?_) (a' := ?_) #[true, true, true, false, false, false, false, false, false, false, false, false, false, false, false, false, false, false] rfl rfl (any_of HT_.out (by kernel_rfl)) (fun _ _ _ h => h) (Or.inl ⟨by rfl, ?_⟩) ?_ ?_
                              rotate_left; (intro w'; go_simp; with_reducible rfl); rotate_left; (simp only [Act.put, List.setIfInBounds_toArray, List.set_cons_zero, List.set_cons_succ, i64_w, i32_w]; rfl)
                              refine take_ (i := 3) (N := some 133) (v := ?_) (a' := ?_) #[true, true, true, true, false, false, false, false, false, false, false, false, false, false, false, false, false, false] rfl rfl (take_ofW HT_.out HW_.out (by kernel_rfl)) (fun _ _ _ h => h) (Or.inl ⟨by rfl, ?_⟩) hHeld ?_ ?_
                              rotate_left
                              ·
                               intro w' s0
                               go_simp
                               with_reducible rfl
                              rotate_left
                              ·
                               simp only [Act.put, List.setIfInBounds_toArray, List.set_cons_zero, List.set_cons_succ, i64_w, i32_w]
                               rfl
                              refine pure_ (i := 4) (N := some 134) (v := ?_) (a' := ?_) #[true, true, true, true, true, false, false, false, false, false, false, false, false, false, false, false, false, false] rfl rfl (any_of HT_.out (by kernel_rfl)) (fun _ _ _ h => h) (Or.inl ⟨by rfl, ?_⟩) ?_ ?_
                              rotate_left; (intro w'; go_simp; with_reducible rfl); rotate_left; (simp only [Act.put, List.setIfInBounds_toArray, List.set_cons_zero, List.set_cons_succ, i64_w, i32_w]; rfl)
                              refine pure_ (i := 5) (N := some 135) (v := ?_) (a' := ?_) #[true, true, true, true, true, true, false, false, false, false, false, false, false, false, false, false, false, false] rfl rfl (any_of HT_.out (by kernel_rfl)) (fun _ _ _ h => h) (Or.inl ⟨by rfl, ?_⟩) ?_ ?_
                              rotate_left; (intro w'; go_simp; with_reducible rfl); rotate_left; (simp only [Act.put, List.setIfInBounds_toArray, List.set_cons_zero, List.set_cons_succ, i64_w, i32_w]; rfl)
                              refine pure_ (i := 6) (N := some 136) (v := undef) (a' := ?_) #[true, true, true, true, true, true, true, false, false, false, false, false, false, false, false, false, false, false] rfl rfl (any_of HT_.out (by kernel_rfl)) (fun _ _ _ h => h) (Or.inr ⟨by rfl, rfl⟩) ?_ ?_
                              rotate_left
                              ·
                               simp only [Act.put, List.setIfInBounds_toArray, List.set_cons_zero, List.set_cons_succ, i64_w, i32_w]
                               rfl
                              refine pure_ (i := 7) (N := some 137) (v := undef) (a' := ?_) #[true, true, true, true, true, true, true, true, false, false, false, false, false, false, false, false, false, false] rfl rfl (any_of HT_.out (by kernel_rfl)) (fun _ _ _ h => h) (Or.inr ⟨by rfl, rfl⟩) ?_ ?_
                              rotate_left
                              ·
                               simp only [Act.put, List.setIfInBounds_toArray, List.set_cons_zero, List.set_cons_succ, i64_w, i32_w]
                               rfl
                              refine pure_ (i := 8) (N := some 138) (v := undef) (a' := ?_) #[true, true, true, true, true, true, true, true, true, false, false, false, false, false, false, false, false, false] rfl rfl (any_of HT_.out (by kernel_rfl)) (fun _ _ _ h => h) (Or.inr ⟨by rfl, rfl⟩) ?_ ?_
                              rotate_left
                              ·
                               simp only [Act.put, List.setIfInBounds_toArray, List.set_cons_zero, List.set_cons_succ, i64_w, i32_w]
                               rfl
                              refine pure_ (i := 9) (N := some 139) (v := undef) (a' := ?_) #[true, true, true, true, true, true, true, true, true, true, false, false, false, false, false, false, false, false] rfl rfl (any_of HT_.out (by kernel_rfl)) (fun _ _ _ h => h) (Or.inr ⟨by rfl, rfl⟩) ?_ ?_
                              rotate_left
                              ·
                               simp only [Act.put, List.setIfInBounds_toArray, List.set_cons_zero, List.set_cons_succ, i64_w, i32_w]
                               rfl
                              refine pure_ (i := 10) (N := some 140) (v := undef) (a' := ?_) #[true, true, true, true, true, true, true, true, true, true, true, false, false, false, false, false, false, false] rfl rfl (any_of HT_.out (by kernel_rfl)) (fun _ _ _ h => h) (Or.inr ⟨by rfl, rfl⟩) ?_ ?_
                              rotate_left
                              ·
                               simp only [Act.put, List.setIfInBounds_toArray, List.set_cons_zero, List.set_cons_succ, i64_w, i32_w]
                               rfl
                              refine pure_ (i := 11) (N := some 141) (v := undef) (a' := ?_) #[true, true, true, true, true, true, true, true, true, true, true, true, false, false, false, false, false, false] rfl rfl (any_of HT_.out (by kernel_rfl)) (fun _ _ _ h => h) (Or.inr ⟨by rfl, rfl⟩) ?_ ?_
                              rotate_left
                              ·
                               simp only [Act.put, List.setIfInBounds_toArray, List.set_cons_zero, List.set_cons_succ, i64_w, i32_w]
                               rfl
                              refine pure_ (i := 12) (N := some 142) (v := undef) (a' := ?_) #[true, true, true, true, true, true, true, true, true, true, true, true, true, false, false, false, false, false] rfl rfl (any_of HT_.out (by kernel_rfl)) (fun _ _ _ h => h) (Or.inr ⟨by rfl, rfl⟩) ?_ ?_
                              rotate_left
                              ·
                               simp only [Act.put, List.setIfInBounds_toArray, List.set_cons_zero, List.set_cons_succ, i64_w, i32_w]
                               rfl
                              refine pure_ (i := 13) (N := some 143) (v := undef) (a' := ?_) #[true, true, true, true, true, true, true, true, true, true, true, true, true, true, false, false, false, false] rfl rfl (any_of HT_.out (by kernel_rfl)) (fun _ _ _ h => h) (Or.inr ⟨by rfl, rfl⟩) ?_ ?_
                              rotate_left
                              ·
                               simp only [Act.put, List.setIfInBounds_toArray, List.set_cons_zero, List.set_cons_succ, i64_w, i32_w]
                               rfl
                              refine pure_ (i := 14) (N := some 144) (v := undef) (a' := ?_) #[true, true, true, true, true, true, true, true, true, true, true, true, true, true, true, false, false, false] rfl rfl (any_of HT_.out (by kernel_rfl)) (fun _ _ _ h => h) (Or.inr ⟨by rfl, rfl⟩) ?_ ?_
                              rotate_left
                              ·
                               simp only [Act.put, List.setIfInBounds_toArray, List.set_cons_zero, List.set_cons_succ, i64_w, i32_w]
                               rfl
                              refine pure_ (i := 15) (N := some 145) (v := undef) (a' := ?_) #[true, true, true, true, true, true, true, true, true, true, true, true, true, true, true, true, false, false] rfl rfl (any_of HT_.out (by kernel_rfl)) (fun _ _ _ h => h) (Or.inr ⟨by rfl, rfl⟩) ?_ ?_
                              rotate_left
                              ·
                               simp only [Act.put, List.setIfInBounds_toArray, List.set_cons_zero, List.set_cons_succ, i64_w, i32_w]
                               rfl
                              refine pure_ (i := 16) (N := some 146) (v := undef) (a' := ?_) #[true, true, true, true, true, true, true, true, true, true, true, true, true, true, true, true, true, false] rfl rfl (any_of HT_.out (by kernel_rfl)) (fun _ _ _ h => h) (Or.inr ⟨by rfl, rfl⟩) ?_ ?_
                              rotate_left
                              ·
                               simp only [Act.put, List.setIfInBounds_toArray, List.set_cons_zero, List.set_cons_succ, i64_w, i32_w]
                               rfl
                              refine pure_ (i := 17) (N := some 147) (v := ?_) (a' := ?_) #[true, true, true, true, true, true, true, true, true, true, true, true, true, true, true, true, true, true] rfl rfl (any_of HT_.out (by kernel_rfl)) (fun _ _ _ h => h) (Or.inl ⟨by rfl, ?_⟩) ?_ ?_
                              rotate_left; (intro w'; go_simp; with_reducible rfl); rotate_left; (simp only [Act.put, List.setIfInBounds_toArray, List.set_cons_zero, List.set_cons_succ, i64_w, i32_w]; rfl)
                              refine done_ (done_of HT_.out (by kernel_rfl)) ?_
                              try go_wp2
                              go_ret
                              exact ⟨by first | rfl | (simp [errW_none, errW_some] <;> rfl) | (simp [*, errW_none, errW_some] <;> rfl), by repeat (first | (with_reducible first | exact HB.out | apply below_alloc | apply pw_below_drewN | apply below_drew1) | exact HB.out)⟩
                             ·
                              rw [if_neg c68] at H
                              have c68b0 : ((rd t206 x116_5) == 0) = false := beq_eq_false_iff_ne.mpr c68
                              have c68b1 : ((rd t206 x116_5) != 0) = true := bne_iff_ne.mpr c68
                              by_cases c70 : x116_5 < (t232.length : Int)
                              ·
                               rw [if_pos c70] at H
                               have c70b0 : decide (x116_5 < (t232.length : Int)) = true := decide_eq_true c70
                               clear c70
                               by_cases c71 : (((rd t206 x116_5) == (rd t232 x116_5)) != x10_46) = true
                               ·
                                rw [if_pos c71] at H
                                have c71b0 : (((rd t206 x116_5) == (rd t232 x116_5)) != x10_46) = true := c71
                                (try (have c71b1 : decide (((rd t206 x116_5) == (rd t232 x116_5)) = x10_46) = false := by simpa using c71))
                                (try (have c71b2 : (((rd t206 x116_5) == (rd t232 x116_5)) == x10_46) = false := by simpa using c71))
                                (try (have c71b3 : ¬ (((rd t206 x116_5) == (rd t232 x116_5)) = x10_46) := by simpa using c71))
                                clear c71
                                obtain rfl := Option.some.inj H
                                try go_wp2
                                have n0_ := Aside0.mk (Kd.R_drew HO_7.out)
                                have n1_ := Aside0.mk (Kd.R_drew HO_8.out)
                                have n2_ := Aside0.mk (below_drew1 HB.out)
                                clear HO_7
                                clear HO_8
                                clear HB
                                have HO_7 := n0_
                                have HO_8 := n1_
                                have HB := n2_
                                clear n0_ n1_ n2_
                                have p243 : 0 ≤ (x116_5 : Int) := of_decide_eq_true (by first | (with_reducible assumption) | assumption)
                                have q243 : x116_5 < (t206.length : Int) := of_decide_eq_true (by first | (with_reducible assumption) | assumption)
                                obtain ⟨ad243, e243, hx243_0⟩ := Kd.at_int (Kd.R_reads' HO_7.out).2.2 x116_5 p243 q243
                                cases e243
                                replace p243 := eq_true p243
                                replace q243 := eq_true q243
                                have p244 : 0 ≤ (x116_5 : Int) := of_decide_eq_true (by first | (with_reducible assumption) | assumption)
                                have q244 : x116_5 < (t206.length : Int) := of_decide_eq_true (by first | (with_reducible assumption) | assumption)
                                obtain ⟨ad244, e244, hx244_0⟩ := Kd.at_int (Kd.R_reads' HO_7.out).2.2 x116_5 p244 q244
                                obtain rfl : ad243 = ad244 := (by injection e244)
                                replace p244 := eq_true p244
                                replace q244 := eq_true q244
                                obtain ⟨Ao73, co73, eo73⟩ := Kd.R_slice HO_8.out
                                (first | subst eo73 | (injection eo73 with f1_ f2_ f3_; have f4_ := f1_.symm; have f5_ := f3_.symm; clear f1_ f2_ f3_; subst f4_; subst f5_))
                                have p245 : 0 ≤ (x116_5 : Int) := of_decide_eq_true (by first | (with_reducible assumption) | assumption)
                                have q245 : x116_5 < (t232.length : Int) := of_decide_eq_true (by first | (with_reducible assumption) | assumption)
                                obtain ⟨ad245, e245, hx245_0⟩ := Kd.at_int (Kd.R_reads' HO_8.out).2.2 x116_5 p245 q245
                                cases e245
                                replace p245 := eq_true p245
                                replace q245 := eq_true q245
                                refine start_ (n := 18) (S := fun w' => w'.cell? (ad243.add (x116_5).toNat) = some (.int .i64 (rd t206 x116_5)) ∧ w'.cell? (ad243.add (x116_5).toNat) = some (.int .i64 (rd t206 x116_5)) ∧ w'.cell? (ad245.add (x116_5).toNat) = some (.int .i64 (rd t232 x116_5))) (ds := []) #[false, false, false, false, false, false, false, false, false, false, false, false, false, false, false, false, false, false] (by kernel_rfl) rfl rfl ⟨hx243_0, hx244_0, hx245_0⟩ (fun hHeld => ?_); refine with_tabW conclavelaw07_ScheduleApart.tab21 conclavelaw07_ScheduleApart.bits21 (fun HT_ HW_ => ?_)
                                generalize wc.drew = w72 at HO_7 HO_8 HB hx243_0 hx244_0 hx245_0 hHeld ⊢
                                refine pure_ (i := 0) (N := some 130) (v := ?_) (a' := ?_) #[true, false, false, false, false, false, false, false, false, false, false, false, false, false, false, false, false, false] rfl rfl (any_of HT_.out (by kernel_rfl)) (fun _ _ _ h => h) (Or.inl ⟨by rfl, ?_⟩) ?_ ?_
                                rotate_left; (intro w'; go_simp; with_reducible rfl); rotate_left; (simp only [Act.put, List.setIfInBounds_toArray, List.set_cons_zero, List.set_cons_succ, i64_w, i32_w]; rfl)
                                refine pure_ (i := 1) (N := some 131) (v := ?_) (a' := ?_) #[true, true, false, false, false, false, false, false, false, false, false, false, false, false, false, false, false, false] rfl rfl (any_of HT_.out (by kernel_rfl)) (fun _ _ _ h => h) (Or.inl ⟨by rfl, ?_⟩) ?_ ?_
                                rotate_left; (intro w'; go_simp; with_reducible rfl); rotate_left; (simp only [Act.put, List.setIfInBounds_toArray, List.set_cons_zero, List.set_cons_succ, i64_w, i32_w]; rfl)
                                refine pure_ (i := 2) (N := some 132) (v := ?_) (a' := ?_) #[true, true, true, false, false, false, false, false, false, false, false, false, false, false, false, false, false, false] rfl rfl (any_of HT_.out (by kernel_rfl)) (fun _ _ _ h => h) (Or.inl ⟨by rfl, ?_⟩) ?_ ?_
                                rotate_left; (intro w'; go_simp; with_reducible rfl); rotate_left; (simp only [Act.put, List.setIfInBounds_toArray, List.set_cons_zero, List.set_cons_succ, i64_w, i32_w]; rfl)
                                refine take_ (i := 3) (N := some 133) (v := ?_) (a' := ?_) #[true, true, true, true, false, false, false, false, false, false, false, false, false, false, false, false, false, false] rfl rfl (take_ofW HT_.out HW_.out (by kernel_rfl)) (fun _ _ _ h => h) (Or.inl ⟨by rfl, ?_⟩) hHeld ?_ ?_
                                rotate_left
                                ·
                                 rintro w' ⟨s0, s1, s2⟩
                                 go_simp
                                 with_reducible rfl
                                rotate_left
                                ·
                                 simp only [Act.put, List.setIfInBounds_toArray, List.set_cons_zero, List.set_cons_succ, i64_w, i32_w]
                                 rfl
                                refine pure_ (i := 4) (N := some 134) (v := ?_) (a' := ?_) #[true, true, true, true, true, false, false, false, false, false, false, false, false, false, false, false, false, false] rfl rfl (any_of HT_.out (by kernel_rfl)) (fun _ _ _ h => h) (Or.inl ⟨by rfl, ?_⟩) ?_ ?_
                                rotate_left; (intro w'; go_simp; with_reducible rfl); rotate_left; (simp only [Act.put, List.setIfInBounds_toArray, List.set_cons_zero, List.set_cons_succ, i64_w, i32_w]; rfl)
                                refine pure_ (i := 5) (N := some 135) (v := ?_) (a' := ?_) #[true, true, true, true, true, true, false, false, false, false, false, false, false, false, false, false, false, false] rfl rfl (any_of HT_.out (by kernel_rfl)) (fun _ _ _ h => h) (Or.inl ⟨by rfl, ?_⟩) ?_ ?_
                                rotate_left; (intro w'; go_simp; with_reducible rfl); rotate_left; (simp only [Act.put, List.setIfInBounds_toArray, List.set_cons_zero, List.set_cons_succ, i64_w, i32_w]; rfl)
                                refine pure_ (i := 6) (N := some 136) (v := ?_) (a' := ?_) #[true, true, true, true, true, true, true, false, false, false, false, false, false, false, false, false, false, false] rfl rfl (any_of HT_.out (by kernel_rfl)) (fun _ _ _ h => h) (Or.inl ⟨by rfl, ?_⟩) ?_ ?_
                                rotate_left; (intro w'; go_simp; with_reducible rfl); rotate_left; (simp only [Act.put, List.setIfInBounds_toArray, List.set_cons_zero, List.set_cons_succ, i64_w, i32_w]; rfl)
                                refine pure_ (i := 7) (N := some 137) (v := ?_) (a' := ?_) #[true, true, true, true, true, true, true, true, false, false, false, false, false, false, false, false, false, false] rfl rfl (any_of HT_.out (by kernel_rfl)) (fun _ _ _ h => h) (Or.inl ⟨by rfl, ?_⟩) ?_ ?_
                                rotate_left; (intro w'; go_simp; with_reducible rfl); rotate_left; (simp only [Act.put, List.setIfInBounds_toArray, List.set_cons_zero, List.set_cons_succ, i64_w, i32_w]; rfl)
                                refine pure_ (i := 8) (N := some 138) (v := ?_) (a' := ?_) #[true, true, true, true, true, true, true, true, true, false, false, false, false, false, false, false, false, false] rfl rfl (any_of HT_.out (by kernel_rfl)) (fun _ _ _ h => h) (Or.inl ⟨by rfl, ?_⟩) ?_ ?_
                                rotate_left; (intro w'; go_simp; with_reducible rfl); rotate_left; (simp only [Act.put, List.setIfInBounds_toArray, List.set_cons_zero, List.set_cons_succ, i64_w, i32_w]; rfl)
                                refine pure_ (i := 10) (N := some 140) (v := ?_) (a' := ?_) #[true, true, true, true, true, true, true, true, true, false, true, false, false, false, false, false, false, false] rfl rfl (any_of HT_.out (by kernel_rfl)) (fun _ _ _ h => h) (Or.inl ⟨by rfl, ?_⟩) ?_ ?_
                                rotate_left; (intro w'; go_simp; with_reducible rfl); rotate_left; (simp only [Act.put, List.setIfInBounds_toArray, List.set_cons_zero, List.set_cons_succ, i64_w, i32_w]; rfl)
                                refine pure_ (i := 11) (N := some 141) (v := ?_) (a' := ?_) #[true, true, true, true, true, true, true, true, true, false, true, true, false, false, false, false, false, false] rfl rfl (any_of HT_.out (by kernel_rfl)) (fun _ _ _ h => h) (Or.inl ⟨by rfl, ?_⟩) ?_ ?_
                                rotate_left; (intro w'; go_simp; with_reducible rfl); rotate_left; (simp only [Act.put, List.setIfInBounds_toArray, List.set_cons_zero, List.set_cons_succ, i64_w, i32_w]; rfl)
                                refine pure_ (i := 12) (N := some 142) (v := ?_) (a' := ?_) #[true, true, true, true, true, true, true, true, true, false, true, true, true, false, false, false, false, false] rfl rfl (any_of HT_.out (by kernel_rfl)) (fun _ _ _ h => h) (Or.inl ⟨by rfl, ?_⟩) ?_ ?_
                                rotate_left; (intro w'; go_simp; with_reducible rfl); rotate_left; (simp only [Act.put, List.setIfInBounds_toArray, List.set_cons_zero, List.set_cons_succ, i64_w, i32_w]; rfl)
                                refine pure_ (i := 15) (N := some 145) (v := ?_) (a' := ?_) #[true, true, true, true, true, true, true, true, true, false, true, true, true, false, false, true, false, false] rfl rfl (any_of HT_.out (by kernel_rfl)) (fun _ _ _ h => h) (Or.inl ⟨by rfl, ?_⟩) ?_ ?_
                                rotate_left; (intro w'; go_simp; with_reducible rfl); rotate_left; (simp only [Act.put, List.setIfInBounds_toArray, List.set_cons_zero, List.set_cons_succ, i64_w, i32_w]; rfl)
                                refine take_ (i := 9) (N := some 139) (v := ?_) (a' := ?_) #[true, true, true, true, true, true, true, true, true, true, true, true, true, false, false, true, false, false] rfl rfl (take_ofW HT_.out HW_.out (by kernel_rfl)) (fun _ _ _ h => h) (Or.inl ⟨by rfl, ?_⟩) hHeld ?_ ?_
                                rotate_left
                                ·
                                 rintro w' ⟨s0, s1, s2⟩
                                 go_simp
                                 with_reducible rfl
                                rotate_left
                                ·
                                 simp only [Act.put, List.setIfInBounds_toArray, List.set_cons_zero, List.set_cons_succ, i64_w, i32_w]
                                 rfl
                                refine take_ (i := 13) (N := some 143) (v := ?_) (a' := ?_) #[true, true, true, true, true, true, true, true, true, true, true, true, true, true, false, true, false, false] rfl rfl (take_ofW HT_.out HW_.out (by kernel_rfl)) (fun _ _ _ h => h) (Or.inl ⟨by rfl, ?_⟩) hHeld ?_ ?_
                                rotate_left
                                ·
                                 rintro w' ⟨s0, s1, s2⟩
                                 go_simp
                                 with_reducible rfl
                                rotate_left
                                ·
                                 simp only [Act.put, List.setIfInBounds_toArray, List.set_cons_zero, List.set_cons_succ, i64_w, i32_w]
                                 rfl
                                refine pure_ (i := 14) (N := some 144) (v := ?_) (a' := ?_) #[true, true, true, true, true, true, true, true, true, true, true, true, true, true, true, true, false, false] rfl rfl (any_of HT_.out (by kernel_rfl)) (fun _ _ _ h => h) (Or.inl ⟨by rfl, ?_⟩) ?_ ?_
                                rotate_left; (intro w'; go_simp; with_reducible rfl); rotate_left; (simp only [Act.put, List.setIfInBounds_toArray, List.set_cons_zero, List.set_cons_succ, i64_w, i32_w]; rfl)
                                refine pure_ (i := 16) (N := some 146) (v := ?_) (a' := ?_) #[true, true, true, true, true, true, true, true, true, true, true, true, true, true, true, true, true, false] rfl rfl (any_of HT_.out (by kernel_rfl)) (fun _ _ _ h => h) (Or.inl ⟨by rfl, ?_⟩) ?_ ?_
                                rotate_left; (intro w'; go_simp; with_reducible rfl); rotate_left; (simp only [Act.put, List.setIfInBounds_toArray, List.set_cons_zero, List.set_cons_succ, i64_w, i32_w]; rfl)
                                refine pure_ (i := 17) (N := some 147) (v := ?_) (a' := ?_) #[true, true, true, true, true, true, true, true, true, true, true, true, true, true, true, true, true, true] rfl rfl (any_of HT_.out (by kernel_rfl)) (fun _ _ _ h => h) (Or.inl ⟨by rfl, ?_⟩) ?_ ?_
                                rotate_left; (intro w'; go_simp; with_reducible rfl); rotate_left; (simp only [Act.put, List.setIfInBounds_toArray, List.set_cons_zero, List.set_cons_succ, i64_w, i32_w]; rfl)
                                refine done_ (done_of HT_.out (by kernel_rfl)) ?_
                                try go_wp2
                                go_ret
                                exact ⟨by first | rfl | (simp [errW_none, errW_some] <;> rfl) | (simp [*, errW_none, errW_some] <;> rfl), by repeat (first | (with_reducible first | exact HB.out | apply below_alloc | apply pw_below_drewN | apply below_drew1) | exact HB.out)⟩
                               ·
                                rw [if_neg c71] at H
                                have c71b0 : (((rd t206 x116_5) == (rd t232 x116_5)) != x10_46) = false := by simpa using c71
                                (try (have c71b1 : decide (((rd t206 x116_5) == (rd t232 x116_5)) = x10_46) = true := by simpa using c71))
                                (try (have c71b2 : (((rd t206 x116_5) == (rd t232 x116_5)) == x10_46) = true := by simpa using c71))
                                clear c71
                                have H' := Aside0.mk H
                                clear H
                                try go_wp2
                                have n0_ := Aside0.mk (Kd.R_drew HO_7.out)
                                have n1_ := Aside0.mk (Kd.R_drew HO_8.out)
                                have n2_ := Aside0.mk (below_drew1 HB.out)
                                clear HO_7
                                clear HO_8
                                clear HB
                                have HO_7 := n0_
                                have HO_8 := n1_
                                have HB := n2_
                                clear n0_ n1_ n2_
                                have p243 : 0 ≤ (x116_5 : Int) := of_decide_eq_true (by first | (with_reducible assumption) | assumption)
                                have q243 : x116_5 < (t206.length : Int) := of_decide_eq_true (by first | (with_reducible assumption) | assumption)
                                obtain ⟨ad243, e243, hx243_0⟩ := Kd.at_int (Kd.R_reads' HO_7.out).2.2 x116_5 p243 q243
                                cases e243
                                replace p243 := eq_true p243
                                replace q243 := eq_true q243
                                have p244 : 0 ≤ (x116_5 : Int) := of_decide_eq_true (by first | (with_reducible assumption) | assumption)
                                have q244 : x116_5 < (t206.length : Int) := of_decide_eq_true (by first | (with_reducible assumption) | assumption)
                                obtain ⟨ad244, e244, hx244_0⟩ := Kd.at_int (Kd.R_reads' HO_7.out).2.2 x116_5 p244 q244
                                obtain rfl : ad243 = ad244 := (by injection e244)
                                replace p244 := eq_true p244
                                replace q244 := eq_true q244
                                obtain ⟨Ao75, co75, eo75⟩ := Kd.R_slice HO_8.out
                                (first | subst eo75 | (injection eo75 with f1_ f2_ f3_; have f4_ := f1_.symm; have f5_ := f3_.symm; clear f1_ f2_ f3_; subst f4_; subst f5_))
                                have p245 : 0 ≤ (x116_5 : Int) := of_decide_eq_true (by first | (with_reducible assumption) | assumption)
                                have q245 : x116_5 < (t232.length : Int) := of_decide_eq_true (by first | (with_reducible assumption) | assumption)
                                obtain ⟨ad245, e245, hx245_0⟩ := Kd.at_int (Kd.R_reads' HO_8.out).2.2 x116_5 p245 q245
                                cases e245
                                replace p245 := eq_true p245
                                replace q245 := eq_true q245
                                refine start_ (n := 18) (S := fun w' => w'.cell? (ad243.add (x116_5).toNat) = some (.int .i64 (rd t206 x116_5)) ∧ w'.cell? (ad243.add (x116_5).toNat) = some (.int .i64 (rd t206 x116_5)) ∧ w'.cell? (ad245.add (x116_5).toNat) = some (.int .i64 (rd t232 x116_5))) (ds := []) #[false, false, false, false, false, false, false, false, false, false, false, false, false, false, false, false, false, false] (by kernel_rfl) rfl rfl ⟨hx243_0, hx244_0, hx245_0⟩ (fun hHeld => ?_); refine with_tabW conclavelaw07_ScheduleApart.tab21 conclavelaw07_ScheduleApart.bits21 (fun HT_ HW_ => ?_)
                                generalize wc.drew = w74 at HO_7 HO_8 HB hx243_0 hx244_0 hx245_0 hHeld ⊢
                                refine pure_ (i := 0) (N := some 130) (v := ?_) (a' := ?_) #[true, false, false, false, false, false, false, false, false, false, false, false, false, false, false, false, false, false] rfl rfl (any_of HT_.out (by kernel_rfl)) (fun _ _ _ h => h) (Or.inl ⟨by rfl, ?_⟩) ?_ ?_
                                rotate_left; (intro w'; go_simp; with_reducible rfl); rotate_left; (simp only [Act.put, List.setIfInBounds_toArray, List.set_cons_zero, List.set_cons_succ, i64_w, i32_w]; rfl)
                                refine pure_ (i := 1) (N := some 131) (v := ?_) (a' := ?_) #[true, true, false, false, false, false, false, false, false, false, false, false, false, false, false, false, false, false] rfl rfl (any_of HT_.out (by kernel_rfl)) (fun _ _ _ h => h) (Or.inl ⟨by rfl, ?_⟩) ?_ ?_
                                rotate_left; (intro w'; go_simp; with_reducible rfl); rotate_left; (simp only [Act.put, List.setIfInBounds_toArray, List.set_cons_zero, List.set_cons_succ, i64_w, i32_w]; rfl)
                                refine pure_ (i := 2) (N := some 132) (v := ?_) (a' := ?_) #[true, true, true, false, false, false, false, false, false, false, false, false, false, false, false, false, false, false] rfl rfl (any_of HT_.out (by kernel_rfl)) (fun _ _ _ h => h) (Or.inl ⟨by rfl, ?_⟩) ?_ ?_
                                rotate_left; (intro w'; go_simp; with_reducible rfl); rotate_left; (simp only [Act.put, List.setIfInBounds_toArray, List.set_cons_zero, List.set_cons_succ, i64_w, i32_w]; rfl)
                                refine take_ (i := 3) (N := some 133) (v := ?_) (a' := ?_) #[true, true, true, true, false, false, false, false, false, false, false, false, false, false, false, false, false, false] rfl rfl (take_ofW HT_.out HW_.out (by kernel_rfl)) (fun _ _ _ h => h) (Or.inl ⟨by rfl, ?_⟩) hHeld ?_ ?_
                                rotate_left
                                ·
                                 rintro w' ⟨s0, s1, s2⟩
                                 go_simp
                                 with_reducible rfl
                                rotate_left
                                ·
                                 simp only [Act.put, List.setIfInBounds_toArray, List.set_cons_zero, List.set_cons_succ, i64_w, i32_w]
                                 rfl
                                refine pure_ (i := 4) (N := some 134) (v := ?_) (a' := ?_) #[true, true, true, true, true, false, false, false, false, false, false, false, false, false, false, false, false, false] rfl rfl (any_of HT_.out (by kernel_rfl)) (fun _ _ _ h => h) (Or.inl ⟨by rfl, ?_⟩) ?_ ?_
                                rotate_left; (intro w'; go_simp; with_reducible rfl); rotate_left; (simp only [Act.put, List.setIfInBounds_toArray, List.set_cons_zero, List.set_cons_succ, i64_w, i32_w]; rfl)
                                refine pure_ (i := 5) (N := some 135) (v := ?_) (a' := ?_) #[true, true, true, true, true, true, false, false, false, false, false, false, false, false, false, false, false, false] rfl rfl (any_of HT_.out (by kernel_rfl)) (fun _ _ _ h => h) (Or.inl ⟨by rfl, ?_⟩) ?_ ?_
                                rotate_left; (intro w'; go_simp; with_reducible rfl); rotate_left; (simp only [Act.put, List.setIfInBounds_toArray, List.set_cons_zero, List.set_cons_succ, i64_w, i32_w]; rfl)
                                refine pure_ (i := 6) (N := some 136) (v := ?_) (a' := ?_) #[true, true, true, true, true, true, true, false, false, false, false, false, false, false, false, false, false, false] rfl rfl (any_of HT_.out (by kernel_rfl)) (fun _ _ _ h => h) (Or.inl ⟨by rfl, ?_⟩) ?_ ?_
                                rotate_left; (intro w'; go_simp; with_reducible rfl); rotate_left; (simp only [Act.put, List.setIfInBounds_toArray, List.set_cons_zero, List.set_cons_succ, i64_w, i32_w]; rfl)
                                refine pure_ (i := 7) (N := some 137) (v := ?_) (a' := ?_) #[true, true, true, true, true, true, true, true, false, false, false, false, false, false, false, false, false, false] rfl rfl (any_of HT_.out (by kernel_rfl)) (fun _ _ _ h => h) (Or.inl ⟨by rfl, ?_⟩) ?_ ?_
                                rotate_left; (intro w'; go_simp; with_reducible rfl); rotate_left; (simp only [Act.put, List.setIfInBounds_toArray, List.set_cons_zero, List.set_cons_succ, i64_w, i32_w]; rfl)
                                refine pure_ (i := 8) (N := some 138) (v := ?_) (a' := ?_) #[true, true, true, true, true, true, true, true, true, false, false, false, false, false, false, false, false, false] rfl rfl (any_of HT_.out (by kernel_rfl)) (fun _ _ _ h => h) (Or.inl ⟨by rfl, ?_⟩) ?_ ?_
                                rotate_left; (intro w'; go_simp; with_reducible rfl); rotate_left; (simp only [Act.put, List.setIfInBounds_toArray, List.set_cons_zero, List.set_cons_succ, i64_w, i32_w]; rfl)
                                refine pure_ (i := 10) (N := some 140) (v := ?_) (a' := ?_) #[true, true, true, true, true, true, true, true, true, false, true, false, false, false, false, false, false, false] rfl rfl (any_of HT_.out (by kernel_rfl)) (fun _ _ _ h => h) (Or.inl ⟨by rfl, ?_⟩) ?_ ?_
                                rotate_left; (intro w'; go_simp; with_reducible rfl); rotate_left; (simp only [Act.put, List.setIfInBounds_toArray, List.set_cons_zero, List.set_cons_succ, i64_w, i32_w]; rfl)
                                refine pure_ (i := 11) (N := some 141) (v := ?_) (a' := ?_) #[true, true, true, true, true, true, true, true, true, false, true, true, false, false, false, false, false, false] rfl rfl (any_of HT_.out (by kernel_rfl)) (fun _ _ _ h => h) (Or.inl ⟨by rfl, ?_⟩) ?_ ?_
                                rotate_left; (intro w'; go_simp; with_reducible rfl); rotate_left; (simp only [Act.put, List.setIfInBounds_toArray, List.set_cons_zero, List.set_cons_succ, i64_w, i32_w]; rfl)
                                refine pure_ (i := 12) (N := some 142) (v := ?_) (a' := ?_) #[true, true, true, true, true, true, true, true, true, false, true, true, true, false, false, false, false, false] rfl rfl (any_of HT_.out (by kernel_rfl)) (fun _ _ _ h => h) (Or.inl ⟨by rfl, ?_⟩) ?_ ?_
                                rotate_left; (intro w'; go_simp; with_reducible rfl); rotate_left; (simp only [Act.put, List.setIfInBounds_toArray, List.set_cons_zero, List.set_cons_succ, i64_w, i32_w]; rfl)
                                refine pure_ (i := 15) (N := some 145) (v := ?_) (a' := ?_) #[true, true, true, true, true, true, true, true, true, false, true, true, true, false, false, true, false, false] rfl rfl (any_of HT_.out (by kernel_rfl)) (fun _ _ _ h => h) (Or.inl ⟨by rfl, ?_⟩) ?_ ?_
                                rotate_left; (intro w'; go_simp; with_reducible rfl); rotate_left; (simp only [Act.put, List.setIfInBounds_toArray, List.set_cons_zero, List.set_cons_succ, i64_w, i32_w]; rfl)
                                refine take_ (i := 9) (N := some 139) (v := ?_) (a' := ?_) #[true, true, true, true, true, true, true, true, true, true, true, true, true, false, false, true, false, false] rfl rfl (take_ofW HT_.out HW_.out (by kernel_rfl)) (fun _ _ _ h => h) (Or.inl ⟨by rfl, ?_⟩) hHeld ?_ ?_
                                rotate_left
                                ·
                                 rintro w' ⟨s0, s1, s2⟩
                                 go_simp
                                 with_reducible rfl
                                rotate_left
                                ·
                                 simp only [Act.put, List.setIfInBounds_toArray, List.set_cons_zero, List.set_cons_succ, i64_w, i32_w]
                                 rfl
                                refine take_ (i := 13) (N := some 143) (v := ?_) (a' := ?_) #[true, true, true, true, true, true, true, true, true, true, true, true, true, true, false, true, false, false] rfl rfl (take_ofW HT_.out HW_.out (by kernel_rfl)) (fun _ _ _ h => h) (Or.inl ⟨by rfl, ?_⟩) hHeld ?_ ?_
                                rotate_left
                                ·
                                 rintro w' ⟨s0, s1, s2⟩
                                 go_simp
                                 with_reducible rfl
                                rotate_left
                                ·
                                 simp only [Act.put, List.setIfInBounds_toArray, List.set_cons_zero, List.set_cons_succ, i64_w, i32_w]
                                 rfl
                                refine pure_ (i := 14) (N := some 144) (v := ?_) (a' := ?_) #[true, true, true, true, true, true, true, true, true, true, true, true, true, true, true, true, false, false] rfl rfl (any_of HT_.out (by kernel_rfl)) (fun _ _ _ h => h) (Or.inl ⟨by rfl, ?_⟩) ?_ ?_
                                rotate_left; (intro w'; go_simp; with_reducible rfl); rotate_left; (simp only [Act.put, List.setIfInBounds_toArray, List.set_cons_zero, List.set_cons_succ, i64_w, i32_w]; rfl)
                                refine pure_ (i := 16) (N := some 146) (v := ?_) (a' := ?_) #[true, true, true, true, true, true, true, true, true, true, true, true, true, true, true, true, true, false] rfl rfl (any_of HT_.out (by kernel_rfl)) (fun _ _ _ h => h) (Or.inl ⟨by rfl, ?_⟩) ?_ ?_
                                rotate_left; (intro w'; go_simp; with_reducible rfl); rotate_left; (simp only [Act.put, List.setIfInBounds_toArray, List.set_cons_zero, List.set_cons_succ, i64_w, i32_w]; rfl)
                                refine pure_ (i := 17) (N := some 147) (v := ?_) (a' := ?_) #[true, true, true, true, true, true, true, true, true, true, true, true, true, true, true, true, true, true] rfl rfl (any_of HT_.out (by kernel_rfl)) (fun _ _ _ h => h) (Or.inl ⟨by rfl, ?_⟩) ?_ ?_
                                rotate_left; (intro w'; go_simp; with_reducible rfl); rotate_left; (simp only [Act.put, List.setIfInBounds_toArray, List.set_cons_zero, List.set_cons_succ, i64_w, i32_w]; rfl)
                                refine done_ (done_of HT_.out (by kernel_rfl)) ?_
                                try go_wp2
                                go_roundg kj62
                                case measure => have := HJ4.out; have := HJ27.out; have := HJ46.out; have := HJ52.out; have := HK5.out; have := HJ60.out; have := HJ62.out; omega
                                case rel => exact ⟨(wrap64 (x116_5 + 1)), (by first | rfl | (simp; done) | (simp [*]; done)), H', ⟨by have := HJ4.out; have := HJ27.out; have := HJ46.out; have := HJ52.out; have := HK5.out; have := HJ60.out; have := HJ62.out; omega⟩, ⟨by (with_reducible repeat (first | apply Kd.R_alloc | apply Kd.R_drewN | apply Kd.R_drew)); exact HO_7.out⟩, ⟨by (with_reducible repeat (first | apply Kd.R_alloc | apply Kd.R_drewN | apply Kd.R_drew)); exact HO_8.out⟩, ⟨by repeat (first | (with_reducible first | exact HB.out | apply below_alloc | apply pw_below_drewN | apply below_drew1) | exact HB.out)⟩⟩
                              ·
                               rw [if_neg c70] at H
                               exact absurd H (by simp)
                            ·
                             rw [if_neg c67] at H
                             exact absurd H (by simp)
                           ·
                            rw [if_neg c66] at H
                            exact absurd H (by simp)
                          ·
                           replace c65 := Bool.eq_false_iff.mpr c65
                           subst c65
                           have H1 : (if 0 ≤ x116_5 then (if x116_5 < (t206.length : Int) then (if (rd t206 x116_5) = 0 then (some false) else (if x116_5 < (t232.length : Int) then (if (((rd t206 x116_5) == (rd t232 x116_5)) != x13_60) = true then (some false) else (conclavelaw07_ScheduleApart.l0 kj62 t206 t232 x9_27 x10_46 x11_52 (t206.length : Int) (wrap64 (x116_5 + 1)))) else (none))) else (none)) else (none)) = some r := by rw [if_neg (show ¬ (false = true) by decide)] at H; exact H
                           clear H
                           have H := H1
                           clear H1
                           by_cases c76 : 0 ≤ x116_5
                           ·
                            rw [if_pos c76] at H
                            have c76b0 : decide (0 ≤ x116_5) = true := decide_eq_true c76
                            clear c76
                            by_cases c77 : x116_5 < (t206.length : Int)
                            ·
                             rw [if_pos c77] at H
                             have c77b0 : decide (x116_5 < (t206.length : Int)) = true := decide_eq_true c77
                             clear c77
                             by_cases c78 : (rd t206 x116_5) = 0
                             ·
                              rw [if_pos c78] at H
                              have c78b0 : ((rd t206 x116_5) == 0) = true := beq_iff_eq.mpr c78
                              have c78b1 : ((rd t206 x116_5) != 0) = false := bne_eq_false_iff_eq.mpr c78
                              clear c78
                              obtain rfl := Option.some.inj H
                              try go_wp2
                              have n0_ := Aside0.mk (Kd.R_drew HO_7.out)
                              have n1_ := Aside0.mk (Kd.R_drew HO_8.out)
                              have n2_ := Aside0.mk (below_drew1 HB.out)
                              clear HO_7
                              clear HO_8
                              clear HB
                              have HO_7 := n0_
                              have HO_8 := n1_
                              have HB := n2_
                              clear n0_ n1_ n2_
                              have p246 : 0 ≤ (x116_5 : Int) := of_decide_eq_true (by first | (with_reducible assumption) | assumption)
                              have q246 : x116_5 < (t206.length : Int) := of_decide_eq_true (by first | (with_reducible assumption) | assumption)
                              obtain ⟨ad246, e246, hx246_0⟩ := Kd.at_int (Kd.R_reads' HO_7.out).2.2 x116_5 p246 q246
                              cases e246
                              replace p246 := eq_true p246
                              replace q246 := eq_true q246
                              refine start_ (n := 18) (S := fun w' => w'.cell? (ad246.add (x116_5).toNat) = some (.int .i64 (rd t206 x116_5))) (ds := []) #[false, false, false, false, false, false, false, false, false, false, false, false, false, false, false, false, false, false] (by kernel_rfl) rfl rfl (hx246_0) (fun hHeld => ?_); refine with_tabW conclavelaw07_ScheduleApart.tab21 conclavelaw07_ScheduleApart.bits21 (fun HT_ HW_ => ?_)
                              generalize wc.drew = w79 at HO_7 HO_8 HB hx246_0 hHeld ⊢
                              refine pure_ (i := 0) (N := some 130) (v := ?_) (a' := ?_) #[true, false, false, false, false, false, false, false, false, false, false, false, false, false, false, false, false, false] rfl rfl (any_of HT_.out (by kernel_rfl)) (fun _ _ _ h => h) (Or.inl ⟨by rfl, ?_⟩) ?_ ?_
                              rotate_left; (intro w'; go_simp; with_reducible rfl); rotate_left; (simp only [Act.put, List.setIfInBounds_toArray, List.set_cons_zero, List.set_cons_succ, i64_w, i32_w]; rfl)
                              refine pure_ (i := 1) (N := some 131) (v := ?_) (a' := ?_) #[true, true, false, false, false, false, false, false, false, false, false, false, false, false, false, false, false, false] rfl rfl (any_of HT_.out (by kernel_rfl)) (fun _ _ _ h => h) (Or.inl ⟨by rfl, ?_⟩) ?_ ?_
                              rotate_left; (intro w'; go_simp; with_reducible rfl); rotate_left; (simp only [Act.put, List.setIfInBounds_toArray, List.set_cons_zero, List.set_cons_succ, i64_w, i32_w]; rfl)
                              refine pure_ (i := 2) (N := some 132) (v := ?_) (a' := ?_) #[true, true, true, false, false, false, false, false, false, false, false, false, false, false, false, false, false, false] rfl rfl (any_of HT_.out (by kernel_rfl)) (fun _ _ _ h => h) (Or.inl ⟨by rfl, ?_⟩) ?_ ?_
                              rotate_left; (intro w'; go_simp; with_reducible rfl); rotate_left; (simp only [Act.put, List.setIfInBounds_toArray, List.set_cons_zero, List.set_cons_succ, i64_w, i32_w]; rfl)
                              refine take_ (i := 3) (N := some 133) (v := ?_) (a' := ?_) #[true, true, true, true, false, false, false, false, false, false, false, false, false, false, false, false, false, false] rfl rfl (take_ofW HT_.out HW_.out (by kernel_rfl)) (fun _ _ _ h => h) (Or.inl ⟨by rfl, ?_⟩) hHeld ?_ ?_
                              rotate_left
                              ·
                               intro w' s0
                               go_simp
                               with_reducible rfl
                              rotate_left
                              ·
                               simp only [Act.put, List.setIfInBounds_toArray, List.set_cons_zero, List.set_cons_succ, i64_w, i32_w]
                               rfl
                              refine pure_ (i := 4) (N := some 134) (v := ?_) (a' := ?_) #[true, true, true, true, true, false, false, false, false, false, false, false, false, false, false, false, false, false] rfl rfl (any_of HT_.out (by kernel_rfl)) (fun _ _ _ h => h) (Or.inl ⟨by rfl, ?_⟩) ?_ ?_
                              rotate_left; (intro w'; go_simp; with_reducible rfl); rotate_left; (simp only [Act.put, List.setIfInBounds_toArray, List.set_cons_zero, List.set_cons_succ, i64_w, i32_w]; rfl)
                              refine pure_ (i := 5) (N := some 135) (v := ?_) (a' := ?_) #[true, true, true, true, true, true, false, false, false, false, false, false, false, false, false, false, false, false] rfl rfl (any_of HT_.out (by kernel_rfl)) (fun _ _ _ h => h) (Or.inl ⟨by rfl, ?_⟩) ?_ ?_
                              rotate_left; (intro w'; go_simp; with_reducible rfl); rotate_left; (simp only [Act.put, List.setIfInBounds_toArray, List.set_cons_zero, List.set_cons_succ, i64_w, i32_w]; rfl)
                              refine pure_ (i := 6) (N := some 136) (v := undef) (a' := ?_) #[true, true, true, true, true, true, true, false, false, false, false, false, false, false, false, false, false, false] rfl rfl (any_of HT_.out (by kernel_rfl)) (fun _ _ _ h => h) (Or.inr ⟨by rfl, rfl⟩) ?_ ?_
                              rotate_left
                              ·
                               simp only [Act.put, List.setIfInBounds_toArray, List.set_cons_zero, List.set_cons_succ, i64_w, i32_w]
                               rfl
                              refine pure_ (i := 7) (N := some 137) (v := undef) (a' := ?_) #[true, true, true, true, true, true, true, true, false, false, false, false, false, false, false, false, false, false] rfl rfl (any_of HT_.out (by kernel_rfl)) (fun _ _ _ h => h) (Or.inr ⟨by rfl, rfl⟩) ?_ ?_
                              rotate_left
                              ·
                               simp only [Act.put, List.setIfInBounds_toArray, List.set_cons_zero, List.set_cons_succ, i64_w, i32_w]
                               rfl
                              refine pure_ (i := 8) (N := some 138) (v := undef) (a' := ?_) #[true, true, true, true, true, true, true, true, true, false, false, false, false, false, false, false, false, false] rfl rfl (any_of HT_.out (by kernel_rfl)) (fun _ _ _ h => h) (Or.inr ⟨by rfl, rfl⟩) ?_ ?_
                              rotate_left
                              ·
                               simp only [Act.put, List.setIfInBounds_toArray, List.set_cons_zero, List.set_cons_succ, i64_w, i32_w]
                               rfl
                              refine pure_ (i := 9) (N := some 139) (v := undef) (a' := ?_) #[true, true, true, true, true, true, true, true, true, true, false, false, false, false, false, false, false, false] rfl rfl (any_of HT_.out (by kernel_rfl)) (fun _ _ _ h => h) (Or.inr ⟨by rfl, rfl⟩) ?_ ?_
                              rotate_left
                              ·
                               simp only [Act.put, List.setIfInBounds_toArray, List.set_cons_zero, List.set_cons_succ, i64_w, i32_w]
                               rfl
                              refine pure_ (i := 10) (N := some 140) (v := undef) (a' := ?_) #[true, true, true, true, true, true, true, true, true, true, true, false, false, false, false, false, false, false] rfl rfl (any_of HT_.out (by kernel_rfl)) (fun _ _ _ h => h) (Or.inr ⟨by rfl, rfl⟩) ?_ ?_
                              rotate_left
                              ·
                               simp only [Act.put, List.setIfInBounds_toArray, List.set_cons_zero, List.set_cons_succ, i64_w, i32_w]
                               rfl
                              refine pure_ (i := 11) (N := some 141) (v := undef) (a' := ?_) #[true, true, true, true, true, true, true, true, true, true, true, true, false, false, false, false, false, false] rfl rfl (any_of HT_.out (by kernel_rfl)) (fun _ _ _ h => h) (Or.inr ⟨by rfl, rfl⟩) ?_ ?_
                              rotate_left
                              ·
                               simp only [Act.put, List.setIfInBounds_toArray, List.set_cons_zero, List.set_cons_succ, i64_w, i32_w]
                               rfl
                              refine pure_ (i := 12) (N := some 142) (v := undef) (a' := ?_) #[true, true, true, true, true, true, true, true, true, true, true, true, true, false, false, false, false, false] rfl rfl (any_of HT_.out (by kernel_rfl)) (fun _ _ _ h => h) (Or.inr ⟨by rfl, rfl⟩) ?_ ?_
                              rotate_left
                              ·
                               simp only [Act.put, List.setIfInBounds_toArray, List.set_cons_zero, List.set_cons_succ, i64_w, i32_w]
                               rfl
                              refine pure_ (i := 13) (N := some 143) (v := undef) (a' := ?_) #[true, true, true, true, true, true, true, true, true, true, true, true, true, true, false, false, false, false] rfl rfl (any_of HT_.out (by kernel_rfl)) (fun _ _ _ h => h) (Or.inr ⟨by rfl, rfl⟩) ?_ ?_
                              rotate_left
                              ·
                               simp only [Act.put, List.setIfInBounds_toArray, List.set_cons_zero, List.set_cons_succ, i64_w, i32_w]
                               rfl
                              refine pure_ (i := 14) (N := some 144) (v := undef) (a' := ?_) #[true, true, true, true, true, true, true, true, true, true, true, true, true, true, true, false, false, false] rfl rfl (any_of HT_.out (by kernel_rfl)) (fun _ _ _ h => h) (Or.inr ⟨by rfl, rfl⟩) ?_ ?_
                              rotate_left
                              ·
                               simp only [Act.put, List.setIfInBounds_toArray, List.set_cons_zero, List.set_cons_succ, i64_w, i32_w]
                               rfl
                              refine pure_ (i := 15) (N := some 145) (v := undef) (a' := ?_) #[true, true, true, true, true, true, true, true, true, true, true, true, true, true, true, true, false, false] rfl rfl (any_of HT_.out (by kernel_rfl)) (fun _ _ _ h => h) (Or.inr ⟨by rfl, rfl⟩) ?_ ?_
                              rotate_left
                              ·
                               simp only [Act.put, List.setIfInBounds_toArray, List.set_cons_zero, List.set_cons_succ, i64_w, i32_w]
                               rfl
                              refine pure_ (i := 16) (N := some 146) (v := undef) (a' := ?_) #[true, true, true, true, true, true, true, true, true, true, true, true, true, true, true, true, true, false] rfl rfl (any_of HT_.out (by kernel_rfl)) (fun _ _ _ h => h) (Or.inr ⟨by rfl, rfl⟩) ?_ ?_
                              rotate_left
                              ·
                               simp only [Act.put, List.setIfInBounds_toArray, List.set_cons_zero, List.set_cons_succ, i64_w, i32_w]
                               rfl
                              refine pure_ (i := 17) (N := some 147) (v := ?_) (a' := ?_) #[true, true, true, true, true, true, true, true, true, true, true, true, true, true, true, true, true, true] rfl rfl (any_of HT_.out (by kernel_rfl)) (fun _ _ _ h => h) (Or.inl ⟨by rfl, ?_⟩) ?_ ?_
                              rotate_left; (intro w'; go_simp; with_reducible rfl); rotate_left; (simp only [Act.put, List.setIfInBounds_toArray, List.set_cons_zero, List.set_cons_succ, i64_w, i32_w]; rfl)
                              refine done_ (done_of HT_.out (by kernel_rfl)) ?_
                              try go_wp2
                              go_ret
                              exact ⟨by first | rfl | (simp [errW_none, errW_some] <;> rfl) | (simp [*, errW_none, errW_some] <;> rfl), by repeat (first | (with_reducible first | exact HB.out | apply below_alloc | apply pw_below_drewN | apply below_drew1) | exact HB.out)⟩
                             ·
                              rw [if_neg c78] at H
                              have c78b0 : ((rd t206 x116_5) == 0) = false := beq_eq_false_iff_ne.mpr c78
                              have c78b1 : ((rd t206 x116_5) != 0) = true := bne_iff_ne.mpr c78
                              by_cases c80 : x116_5 < (t232.length : Int)
                              ·
                               rw [if_pos c80] at H
                               have c80b0 : decide (x116_5 < (t232.length : Int)) = true := decide_eq_true c80
                               clear c80
                               by_cases c81 : (((rd t206 x116_5) == (rd t232 x116_5)) != x13_60) = true
                               ·
                                rw [if_pos c81] at H
                                have c81b0 : (((rd t206 x116_5) == (rd t232 x116_5)) != x13_60) = true := c81
                                (try (have c81b1 : decide (((rd t206 x116_5) == (rd t232 x116_5)) = x13_60) = false := by simpa using c81))
                                (try (have c81b2 : (((rd t206 x116_5) == (rd t232 x116_5)) == x13_60) = false := by simpa using c81))
                                (try (have c81b3 : ¬ (((rd t206 x116_5) == (rd t232 x116_5)) = x13_60) := by simpa using c81))
                                clear c81
                                obtain rfl := Option.some.inj H
                                try go_wp2
                                have n0_ := Aside0.mk (Kd.R_drew HO_7.out)
                                have n1_ := Aside0.mk (Kd.R_drew HO_8.out)
                                have n2_ := Aside0.mk (below_drew1 HB.out)
                                clear HO_7
                                clear HO_8
                                clear HB
                                have HO_7 := n0_
                                have HO_8 := n1_
                                have HB := n2_
                                clear n0_ n1_ n2_
                                have p246 : 0 ≤ (x116_5 : Int) := of_decide_eq_true (by first | (with_reducible assumption) | assumption)
                                have q246 : x116_5 < (t206.length : Int) := of_decide_eq_true (by first | (with_reducible assumption) | assumption)
                                obtain ⟨ad246, e246, hx246_0⟩ := Kd.at_int (Kd.R_reads' HO_7.out).2.2 x116_5 p246 q246
                                cases e246
                                replace p246 := eq_true p246
                                replace q246 := eq_true q246
                                have p247 : 0 ≤ (x116_5 : Int) := of_decide_eq_true (by first | (with_reducible assumption) | assumption)
                                have q247 : x116_5 < (t206.length : Int) := of_decide_eq_true (by first | (with_reducible assumption) | assumption)
                                obtain ⟨ad247, e247, hx247_0⟩ := Kd.at_int (Kd.R_reads' HO_7.out).2.2 x116_5 p247 q247
                                obtain rfl : ad246 = ad247 := (by injection e247)
                                replace p247 := eq_true p247
                                replace q247 := eq_true q247
                                obtain ⟨Ao83, co83, eo83⟩ := Kd.R_slice HO_8.out
                                (first | subst eo83 | (injection eo83 with f1_ f2_ f3_; have f4_ := f1_.symm; have f5_ := f3_.symm; clear f1_ f2_ f3_; subst f4_; subst f5_))
                                have p248 : 0 ≤ (x116_5 : Int) := of_decide_eq_true (by first | (with_reducible assumption) | assumption)
                                have q248 : x116_5 < (t232.length : Int) := of_decide_eq_true (by first | (with_reducible assumption) | assumption)
                                obtain ⟨ad248, e248, hx248_0⟩ := Kd.at_int (Kd.R_reads' HO_8.out).2.2 x116_5 p248 q248
                                cases e248
                                replace p248 := eq_true p248
                                replace q248 := eq_true q248
                                refine start_ (n := 18) (S := fun w' => w'.cell? (ad246.add (x116_5).toNat) = some (.int .i64 (rd t206 x116_5)) ∧ w'.cell? (ad246.add (x116_5).toNat) = some (.int .i64 (rd t206 x116_5)) ∧ w'.cell? (ad248.add (x116_5).toNat) = some (.int .i64 (rd t232 x116_5))) (ds := []) #[false, false, false, false, false, false, false, false, false, false, false, false, false, false, false, false, false, false] (by kernel_rfl) rfl rfl ⟨hx246_0, hx247_0, hx248_0⟩ (fun hHeld => ?_); refine with_tabW conclavelaw07_ScheduleApart.tab21 conclavelaw07_ScheduleApart.bits21 (fun HT_ HW_ => ?_)
                                generalize wc.drew = w82 at HO_7 HO_8 HB hx246_0 hx247_0 hx248_0 hHeld ⊢
                                refine pure_ (i := 0) (N := some 130) (v := ?_) (a' := ?_) #[true, false, false, false, false, false, false, false, false, false, false, false, false, false, false, false, false, false] rfl rfl (any_of HT_.out (by kernel_rfl)) (fun _ _ _ h => h) (Or.inl ⟨by rfl, ?_⟩) ?_ ?_
                                rotate_left; (intro w'; go_simp; with_reducible rfl); rotate_left; (simp only [Act.put, List.setIfInBounds_toArray, List.set_cons_zero, List.set_cons_succ, i64_w, i32_w]; rfl)
                                refine pure_ (i := 1) (N := some 131) (v := ?_) (a' := ?_) #[true, true, false, false, false, false, false, false, false, false, false, false, false, false, false, false, false, false] rfl rfl (any_of HT_.out (by kernel_rfl)) (fun _ _ _ h => h) (Or.inl ⟨by rfl, ?_⟩) ?_ ?_
                                rotate_left; (intro w'; go_simp; with_reducible rfl); rotate_left; (simp only [Act.put, List.setIfInBounds_toArray, List.set_cons_zero, List.set_cons_succ, i64_w, i32_w]; rfl)
                                refine pure_ (i := 2) (N := some 132) (v := ?_) (a' := ?_) #[true, true, true, false, false, false, false, false, false, false, false, false, false, false, false, false, false, false] rfl rfl (any_of HT_.out (by kernel_rfl)) (fun _ _ _ h => h) (Or.inl ⟨by rfl, ?_⟩) ?_ ?_
                                rotate_left; (intro w'; go_simp; with_reducible rfl); rotate_left; (simp only [Act.put, List.setIfInBounds_toArray, List.set_cons_zero, List.set_cons_succ, i64_w, i32_w]; rfl)
                                refine take_ (i := 3) (N := some 133) (v := ?_) (a' := ?_) #[true, true, true, true, false, false, false, false, false, false, false, false, false, false, false, false, false, false] rfl rfl (take_ofW HT_.out HW_.out (by kernel_rfl)) (fun _ _ _ h => h) (Or.inl ⟨by rfl, ?_⟩) hHeld ?_ ?_
                                rotate_left
                                ·
                                 rintro w' ⟨s0, s1, s2⟩
                                 go_simp
                                 with_reducible rfl
                                rotate_left
                                ·
                                 simp only [Act.put, List.setIfInBounds_toArray, List.set_cons_zero, List.set_cons_succ, i64_w, i32_w]
                                 rfl
                                refine pure_ (i := 4) (N := some 134) (v := ?_) (a' := ?_) #[true, true, true, true, true, false, false, false, false, false, false, false, false, false, false, false, false, false] rfl rfl (any_of HT_.out (by kernel_rfl)) (fun _ _ _ h => h) (Or.inl ⟨by rfl, ?_⟩) ?_ ?_
                                rotate_left; (intro w'; go_simp; with_reducible rfl); rotate_left; (simp only [Act.put, List.setIfInBounds_toArray, List.set_cons_zero, List.set_cons_succ, i64_w, i32_w]; rfl)
                                refine pure_ (i := 5) (N := some 135) (v := ?_) (a' := ?_) #[true, true, true, true, true, true, false, false, false, false, false, false, false, false, false, false, false, false] rfl rfl (any_of HT_.out (by kernel_rfl)) (fun _ _ _ h => h) (Or.inl ⟨by rfl, ?_⟩) ?_ ?_
                                rotate_left; (intro w'; go_simp; with_reducible rfl); rotate_left; (simp only [Act.put, List.setIfInBounds_toArray, List.set_cons_zero, List.set_cons_succ, i64_w, i32_w]; rfl)
                                refine pure_ (i := 6) (N := some 136) (v := ?_) (a' := ?_) #[true, true, true, true, true, true, true, false, false, false, false, false, false, false, false, false, false, false] rfl rfl (any_of HT_.out (by kernel_rfl)) (fun _ _ _ h => h) (Or.inl ⟨by rfl, ?_⟩) ?_ ?_
                                rotate_left; (intro w'; go_simp; with_reducible rfl); rotate_left; (simp only [Act.put, List.setIfInBounds_toArray, List.set_cons_zero, List.set_cons_succ, i64_w, i32_w]; rfl)
                                refine pure_ (i := 7) (N := some 137) (v := ?_) (a' := ?_) #[true, true, true, true, true, true, true, true, false, false, false, false, false, false, false, false, false, false] rfl rfl (any_of HT_.out (by kernel_rfl)) (fun _ _ _ h => h) (Or.inl ⟨by rfl, ?_⟩) ?_ ?_
                                rotate_left; (intro w'; go_simp; with_reducible rfl); rotate_left; (simp only [Act.put, List.setIfInBounds_toArray, List.set_cons_zero, List.set_cons_succ, i64_w, i32_w]; rfl)
                                refine pure_ (i := 8) (N := some 138) (v := ?_) (a' := ?_) #[true, true, true, true, true, true, true, true, true, false, false, false, false, false, false, false, false, false] rfl rfl (any_of HT_.out (by kernel_rfl)) (fun _ _ _ h => h) (Or.inl ⟨by rfl, ?_⟩) ?_ ?_
                                rotate_left; (intro w'; go_simp; with_reducible rfl); rotate_left; (simp only [Act.put, List.setIfInBounds_toArray, List.set_cons_zero, List.set_cons_succ, i64_w, i32_w]; rfl)
                                refine pure_ (i := 10) (N := some 140) (v := ?_) (a' := ?_) #[true, true, true, true, true, true, true, true, true, false, true, false, false, false, false, false, false, false] rfl rfl (any_of HT_.out (by kernel_rfl)) (fun _ _ _ h => h) (Or.inl ⟨by rfl, ?_⟩) ?_ ?_
                                rotate_left; (intro w'; go_simp; with_reducible rfl); rotate_left; (simp only [Act.put, List.setIfInBounds_toArray, List.set_cons_zero, List.set_cons_succ, i64_w, i32_w]; rfl)
                                refine pure_ (i := 11) (N := some 141) (v := ?_) (a' := ?_) #[true, true, true, true, true, true, true, true, true, false, true, true, false, false, false, false, false, false] rfl rfl (any_of HT_.out (by kernel_rfl)) (fun _ _ _ h => h) (Or.inl ⟨by rfl, ?_⟩) ?_ ?_
                                rotate_left; (intro w'; go_simp; with_reducible rfl); rotate_left; (simp only [Act.put, List.setIfInBounds_toArray, List.set_cons_zero, List.set_cons_succ, i64_w, i32_w]; rfl)
                                refine pure_ (i := 12) (N := some 142) (v := ?_) (a' := ?_) #[true, true, true, true, true, true, true, true, true, false, true, true, true, false, false, false, false, false] rfl rfl (any_of HT_.out (by kernel_rfl)) (fun _ _ _ h => h) (Or.inl ⟨by rfl, ?_⟩) ?_ ?_
                                rotate_left; (intro w'; go_simp; with_reducible rfl); rotate_left; (simp only [Act.put, List.setIfInBounds_toArray, List.set_cons_zero, List.set_cons_succ, i64_w, i32_w]; rfl)
                                refine pure_ (i := 15) (N := some 145) (v := ?_) (a' := ?_) #[true, true, true, true, true, true, true, true, true, false, true, true, true, false, false, true, false, false] rfl rfl (any_of HT_.out (by kernel_rfl)) (fun _ _ _ h => h) (Or.inl ⟨by rfl, ?_⟩) ?_ ?_
                                rotate_left; (intro w'; go_simp; with_reducible rfl); rotate_left; (simp only [Act.put, List.setIfInBounds_toArray, List.set_cons_zero, List.set_cons_succ, i64_w, i32_w]; rfl)
                                refine take_ (i := 9) (N := some 139) (v := ?_) (a' := ?_) #[true, true, true, true, true, true, true, true, true, true, true, true, true, false, false, true, false, false] rfl rfl (take_ofW HT_.out HW_.out (by kernel_rfl)) (fun _ _ _ h => h) (Or.inl ⟨by rfl, ?_⟩) hHeld ?_ ?_
                                rotate_left
                                ·
                                 rintro w' ⟨s0, s1, s2⟩
                                 go_simp
                                 with_reducible rfl
                                rotate_left
                                ·
                                 simp only [Act.put, List.setIfInBounds_toArray, List.set_cons_zero, List.set_cons_succ, i64_w, i32_w]
                                 rfl
                                refine take_ (i := 13) (N := some 143) (v := ?_) (a' := ?_) #[true, true, true, true, true, true, true, true, true, true, true, true, true, true, false, true, false, false] rfl rfl (take_ofW HT_.out HW_.out (by kernel_rfl)) (fun _ _ _ h => h) (Or.inl ⟨by rfl, ?_⟩) hHeld ?_ ?_
                                rotate_left
                                ·
                                 rintro w' ⟨s0, s1, s2⟩
                                 go_simp
                                 with_reducible rfl
                                rotate_left
                                ·
                                 simp only [Act.put, List.setIfInBounds_toArray, List.set_cons_zero, List.set_cons_succ, i64_w, i32_w]
                                 rfl
                                refine pure_ (i := 14) (N := some 144) (v := ?_) (a' := ?_) #[true, true, true, true, true, true, true, true, true, true, true, true, true, true, true, true, false, false] rfl rfl (any_of HT_.out (by kernel_rfl)) (fun _ _ _ h => h) (Or.inl ⟨by rfl, ?_⟩) ?_ ?_
                                rotate_left; (intro w'; go_simp; with_reducible rfl); rotate_left; (simp only [Act.put, List.setIfInBounds_toArray, List.set_cons_zero, List.set_cons_succ, i64_w, i32_w]; rfl)
                                refine pure_ (i := 16) (N := some 146) (v := ?_) (a' := ?_) #[true, true, true, true, true, true, true, true, true, true, true, true, true, true, true, true, true, false] rfl rfl (any_of HT_.out (by kernel_rfl)) (fun _ _ _ h => h) (Or.inl ⟨by rfl, ?_⟩) ?_ ?_
                                rotate_left; (intro w'; go_simp; with_reducible rfl); rotate_left; (simp only [Act.put, List.setIfInBounds_toArray, List.set_cons_zero, List.set_cons_succ, i64_w, i32_w]; rfl)
                                refine pure_ (i := 17) (N := some 147) (v := ?_) (a' := ?_) #[true, true, true, true, true, true, true, true, true, true, true, true, true, true, true, true, true, true] rfl rfl (any_of HT_.out (by kernel_rfl)) (fun _ _ _ h => h) (Or.inl ⟨by rfl, ?_⟩) ?_ ?_
                                rotate_left; (intro w'; go_simp; with_reducible rfl); rotate_left; (simp only [Act.put, List.setIfInBounds_toArray, List.set_cons_zero, List.set_cons_succ, i64_w, i32_w]; rfl)
                                refine done_ (done_of HT_.out (by kernel_rfl)) ?_
                                try go_wp2
                                go_ret
                                exact ⟨by first | rfl | (simp [errW_none, errW_some] <;> rfl) | (simp [*, errW_none, errW_some] <;> rfl), by repeat (first | (with_reducible first | exact HB.out | apply below_alloc | apply pw_below_drewN | apply below_drew1) | exact HB.out)⟩
                               ·
                                rw [if_neg c81] at H
                                have c81b0 : (((rd t206 x116_5) == (rd t232 x116_5)) != x13_60) = false := by simpa using c81
                                (try (have c81b1 : decide (((rd t206 x116_5) == (rd t232 x116_5)) = x13_60) = true := by simpa using c81))
                                (try (have c81b2 : (((rd t206 x116_5) == (rd t232 x116_5)) == x13_60) = true := by simpa using c81))
                                clear c81
                                have H' := Aside0.mk H
                                clear H
                                try go_wp2
                                have n0_ := Aside0.mk (Kd.R_drew HO_7.out)
                                have n1_ := Aside0.mk (Kd.R_drew HO_8.out)
                                have n2_ := Aside0.mk (below_drew1 HB.out)
                                clear HO_7
                                clear HO_8
                                clear HB
                                have HO_7 := n0_
                                have HO_8 := n1_
                                have HB := n2_
                                clear n0_ n1_ n2_
                                have p246 : 0 ≤ (x116_5 : Int) := of_decide_eq_true (by first | (with_reducible assumption) | assumption)
                                have q246 : x116_5 < (t206.length : Int) := of_decide_eq_true (by first | (with_reducible assumption) | assumption)
                                obtain ⟨ad246, e246, hx246_0⟩ := Kd.at_int (Kd.R_reads' HO_7.out).2.2 x116_5 p246 q246
                                cases e246
                                replace p246 := eq_true p246
                                replace q246 := eq_true q246
                                have p247 : 0 ≤ (x116_5 : Int) := of_decide_eq_true (by first | (with_reducible assumption) | assumption)
                                have q247 : x116_5 < (t206.length : Int) := of_decide_eq_true (by first | (with_reducible assumption) | assumption)
                                obtain ⟨ad247, e247, hx247_0⟩ := Kd.at_int (Kd.R_reads' HO_7.out).2.2 x116_5 p247 q247
                                obtain rfl : ad246 = ad247 := (by injection e247)
                                replace p247 := eq_true p247
                                replace q247 := eq_true q247
                                obtain ⟨Ao85, co85, eo85⟩ := Kd.R_slice HO_8.out
                                (first | subst eo85 | (injection eo85 with f1_ f2_ f3_; have f4_ := f1_.symm; have f5_ := f3_.symm; clear f1_ f2_ f3_; subst f4_; subst f5_))
                                have p248 : 0 ≤ (x116_5 : Int) := of_decide_eq_true (by first | (with_reducible assumption) | assumption)
                                have q248 : x116_5 < (t232.length : Int) := of_decide_eq_true (by first | (with_reducible assumption) | assumption)
                                obtain ⟨ad248, e248, hx248_0⟩ := Kd.at_int (Kd.R_reads' HO_8.out).2.2 x116_5 p248 q248
                                cases e248
                                replace p248 := eq_true p248
                                replace q248 := eq_true q248
                                refine start_ (n := 18) (S := fun w' => w'.cell? (ad246.add (x116_5).toNat) = some (.int .i64 (rd t206 x116_5)) ∧ w'.cell? (ad246.add (x116_5).toNat) = some (.int .i64 (rd t206 x116_5)) ∧ w'.cell? (ad248.add (x116_5).toNat) = some (.int .i64 (rd t232 x116_5))) (ds := []) #[false, false, false, false, false, false, false, false, false, false, false, false, false, false, false, false, false, false] (by kernel_rfl) rfl rfl ⟨hx246_0, hx247_0, hx248_0⟩ (fun hHeld => ?_); refine with_tabW conclavelaw07_ScheduleApart.tab21 conclavelaw07_ScheduleApart.bits21 (fun HT_ HW_ => ?_)
                                generalize wc.drew = w84 at HO_7 HO_8 HB hx246_0 hx247_0 hx248_0 hHeld ⊢
                                refine pure_ (i := 0) (N := some 130) (v := ?_) (a' := ?_) #[true, false, false, false, false, false, false, false, false, false, false, false, false, false, false, false, false, false] rfl rfl (any_of HT_.out (by kernel_rfl)) (fun _ _ _ h => h) (Or.inl ⟨by rfl, ?_⟩) ?_ ?_
                                rotate_left; (intro w'; go_simp; with_reducible rfl); rotate_left; (simp only [Act.put, List.setIfInBounds_toArray, List.set_cons_zero, List.set_cons_succ, i64_w, i32_w]; rfl)
                                refine pure_ (i := 1) (N := some 131) (v := ?_) (a' := ?_) #[true, true, false, false, false, false, false, false, false, false, false, false, false, false, false, false, false, false] rfl rfl (any_of HT_.out (by kernel_rfl)) (fun _ _ _ h => h) (Or.inl ⟨by rfl, ?_⟩) ?_ ?_
                                rotate_left; (intro w'; go_simp; with_reducible rfl); rotate_left; (simp only [Act.put, List.setIfInBounds_toArray, List.set_cons_zero, List.set_cons_succ, i64_w, i32_w]; rfl)
                                refine pure_ (i := 2) (N := some 132) (v := ?_) (a' := ?_) #[true, true, true, false, false, false, false, false, false, false, false, false, false, false, false, false, false, false] rfl rfl (any_of HT_.out (by kernel_rfl)) (fun _ _ _ h => h) (Or.inl ⟨by rfl, ?_⟩) ?_ ?_
                                rotate_left; (intro w'; go_simp; with_reducible rfl); rotate_left; (simp only [Act.put, List.setIfInBounds_toArray, List.set_cons_zero, List.set_cons_succ, i64_w, i32_w]; rfl)
                                refine take_ (i := 3) (N := some 133) (v := ?_) (a' := ?_) #[true, true, true, true, false, false, false, false, false, false, false, false, false, false, false, false, false, false] rfl rfl (take_ofW HT_.out HW_.out (by kernel_rfl)) (fun _ _ _ h => h) (Or.inl ⟨by rfl, ?_⟩) hHeld ?_ ?_
                                rotate_left
                                ·
                                 rintro w' ⟨s0, s1, s2⟩
                                 go_simp
                                 with_reducible rfl
                                rotate_left
                                ·
                                 simp only [Act.put, List.setIfInBounds_toArray, List.set_cons_zero, List.set_cons_succ, i64_w, i32_w]
                                 rfl
                                refine pure_ (i := 4) (N := some 134) (v := ?_) (a' := ?_) #[true, true, true, true, true, false, false, false, false, false, false, false, false, false, false, false, false, false] rfl rfl (any_of HT_.out (by kernel_rfl)) (fun _ _ _ h => h) (Or.inl ⟨by rfl, ?_⟩) ?_ ?_
                                rotate_left; (intro w'; go_simp; with_reducible rfl); rotate_left; (simp only [Act.put, List.setIfInBounds_toArray, List.set_cons_zero, List.set_cons_succ, i64_w, i32_w]; rfl)
                                refine pure_ (i := 5) (N := some 135) (v := ?_) (a' := ?_) #[true, true, true, true, true, true, false, false, false, false, false, false, false, false, false, false, false, false] rfl rfl (any_of HT_.out (by kernel_rfl)) (fun _ _ _ h => h) (Or.inl ⟨by rfl, ?_⟩) ?_ ?_
                                rotate_left; (intro w'; go_simp; with_reducible rfl); rotate_left; (simp only [Act.put, List.setIfInBounds_toArray, List.set_cons_zero, List.set_cons_succ, i64_w, i32_w]; rfl)
                                refine pure_ (i := 6) (N := some 136) (v := ?_) (a' := ?_) #[true, true, true, true, true, true, true, false, false, false, false, false, false, false, false, false, false, false] rfl rfl (any_of HT_.out (by kernel_rfl)) (fun _ _ _ h => h) (Or.inl ⟨by rfl, ?_⟩) ?_ ?_
                                rotate_left; (intro w'; go_simp; with_reducible rfl); rotate_left; (simp only [Act.put, List.setIfInBounds_toArray, List.set_cons_zero, List.set_cons_succ, i64_w, i32_w]; rfl)
                                refine pure_ (i := 7) (N := some 137) (v := ?_) (a' := ?_) #[true, true, true, true, true, true, true, true, false, false, false, false, false, false, false, false, false, false] rfl rfl (any_of HT_.out (by kernel_rfl)) (fun _ _ _ h => h) (Or.inl ⟨by rfl, ?_⟩) ?_ ?_
                                rotate_left; (intro w'; go_simp; with_reducible rfl); rotate_left; (simp only [Act.put, List.setIfInBounds_toArray, List.set_cons_zero, List.set_cons_succ, i64_w, i32_w]; rfl)
                                refine pure_ (i := 8) (N := some 138) (v := ?_) (a' := ?_) #[true, true, true, true, true, true, true, true, true, false, false, false, false, false, false, false, false, false] rfl rfl (any_of HT_.out (by kernel_rfl)) (fun _ _ _ h => h) (Or.inl ⟨by rfl, ?_⟩) ?_ ?_
                                rotate_left; (intro w'; go_simp; with_reducible rfl); rotate_left; (simp only [Act.put, List.setIfInBounds_toArray, List.set_cons_zero, List.set_cons_succ, i64_w, i32_w]; rfl)
                                refine pure_ (i := 10) (N := some 140) (v := ?_) (a' := ?_) #[true, true, true, true, true, true, true, true, true, false, true, false, false, false, false, false, false, false] rfl rfl (any_of HT_.out (by kernel_rfl)) (fun _ _ _ h => h) (Or.inl ⟨by rfl, ?_⟩) ?_ ?_
                                rotate_left; (intro w'; go_simp; with_reducible rfl); rotate_left; (simp only [Act.put, List.setIfInBounds_toArray, List.set_cons_zero, List.set_cons_succ, i64_w, i32_w]; rfl)
                                refine pure_ (i := 11) (N := some 141) (v := ?_) (a' := ?_) #[true, true, true, true, true, true, true, true, true, false, true, true, false, false, false, false, false, false] rfl rfl (any_of HT_.out (by kernel_rfl)) (fun _ _ _ h => h) (Or.inl ⟨by rfl, ?_⟩) ?_ ?_
                                rotate_left; (intro w'; go_simp; with_reducible rfl); rotate_left; (simp only [Act.put, List.setIfInBounds_toArray, List.set_cons_zero, List.set_cons_succ, i64_w, i32_w]; rfl)
                                refine pure_ (i := 12) (N := some 142) (v := ?_) (a' := ?_) #[true, true, true, true, true, true, true, true, true, false, true, true, true, false, false, false, false, false] rfl rfl (any_of HT_.out (by kernel_rfl)) (fun _ _ _ h => h) (Or.inl ⟨by rfl, ?_⟩) ?_ ?_
                                rotate_left; (intro w'; go_simp; with_reducible rfl); rotate_left; (simp only [Act.put, List.setIfInBounds_toArray, List.set_cons_zero, List.set_cons_succ, i64_w, i32_w]; rfl)
                                refine pure_ (i := 15) (N := some 145) (v := ?_) (a' := ?_) #[true, true, true, true, true, true, true, true, true, false, true, true, true, false, false, true, false, false] rfl rfl (any_of HT_.out (by kernel_rfl)) (fun _ _ _ h => h) (Or.inl ⟨by rfl, ?_⟩) ?_ ?_
                                rotate_left; (intro w'; go_simp; with_reducible rfl); rotate_left; (simp only [Act.put, List.setIfInBounds_toArray, List.set_cons_zero, List.set_cons_succ, i64_w, i32_w]; rfl)
                                refine take_ (i := 9) (N := some 139) (v := ?_) (a' := ?_) #[true, true, true, true, true, true, true, true, true, true, true, true, true, false, false, true, false, false] rfl rfl (take_ofW HT_.out HW_.out (by kernel_rfl)) (fun _ _ _ h => h) (Or.inl ⟨by rfl, ?_⟩) hHeld ?_ ?_
                                rotate_left
                                ·
                                 rintro w' ⟨s0, s1, s2⟩
                                 go_simp
                                 with_reducible rfl
                                rotate_left
                                ·
                                 simp only [Act.put, List.setIfInBounds_toArray, List.set_cons_zero, List.set_cons_succ, i64_w, i32_w]
                                 rfl
                                refine take_ (i := 13) (N := some 143) (v := ?_) (a' := ?_) #[true, true, true, true, true, true, true, true, true, true, true, true, true, true, false, true, false, false] rfl rfl (take_ofW HT_.out HW_.out (by kernel_rfl)) (fun _ _ _ h => h) (Or.inl ⟨by rfl, ?_⟩) hHeld ?_ ?_
                                rotate_left
                                ·
                                 rintro w' ⟨s0, s1, s2⟩
                                 go_simp
                                 with_reducible rfl
                                rotate_left
                                ·
                                 simp only [Act.put, List.setIfInBounds_toArray, List.set_cons_zero, List.set_cons_succ, i64_w, i32_w]
                                 rfl
                                refine pure_ (i := 14) (N := some 144) (v := ?_) (a' := ?_) #[true, true, true, true, true, true, true, true, true, true, true, true, true, true, true, true, false, false] rfl rfl (any_of HT_.out (by kernel_rfl)) (fun _ _ _ h => h) (Or.inl ⟨by rfl, ?_⟩) ?_ ?_
                                rotate_left; (intro w'; go_simp; with_reducible rfl); rotate_left; (simp only [Act.put, List.setIfInBounds_toArray, List.set_cons_zero, List.set_cons_succ, i64_w, i32_w]; rfl)
                                refine pure_ (i := 16) (N := some 146) (v := ?_) (a' := ?_) #[true, true, true, true, true, true, true, true, true, true, true, true, true, true, true, true, true, false] rfl rfl (any_of HT_.out (by kernel_rfl)) (fun _ _ _ h => h) (Or.inl ⟨by rfl, ?_⟩) ?_ ?_
                                rotate_left; (intro w'; go_simp; with_reducible rfl); rotate_left; (simp only [Act.put, List.setIfInBounds_toArray, List.set_cons_zero, List.set_cons_succ, i64_w, i32_w]; rfl)
                                refine pure_ (i := 17) (N := some 147) (v := ?_) (a' := ?_) #[true, true, true, true, true, true, true, true, true, true, true, true, true, true, true, true, true, true] rfl rfl (any_of HT_.out (by kernel_rfl)) (fun _ _ _ h => h) (Or.inl ⟨by rfl, ?_⟩) ?_ ?_
                                rotate_left; (intro w'; go_simp; with_reducible rfl); rotate_left; (simp only [Act.put, List.setIfInBounds_toArray, List.set_cons_zero, List.set_cons_succ, i64_w, i32_w]; rfl)
                                refine done_ (done_of HT_.out (by kernel_rfl)) ?_
                                try go_wp2
                                go_roundg kj62
                                case measure => have := HJ4.out; have := HJ27.out; have := HJ46.out; have := HJ52.out; have := HK5.out; have := HJ60.out; have := HJ62.out; omega
                                case rel => exact ⟨(wrap64 (x116_5 + 1)), (by first | rfl | (simp; done) | (simp [*]; done)), H', ⟨by have := HJ4.out; have := HJ27.out; have := HJ46.out; have := HJ52.out; have := HK5.out; have := HJ60.out; have := HJ62.out; omega⟩, ⟨by (with_reducible repeat (first | apply Kd.R_alloc | apply Kd.R_drewN | apply Kd.R_drew)); exact HO_7.out⟩, ⟨by (with_reducible repeat (first | apply Kd.R_alloc | apply Kd.R_drewN | apply Kd.R_drew)); exact HO_8.out⟩, ⟨by repeat (first | (with_reducible first | exact HB.out | apply below_alloc | apply pw_below_drewN | apply below_drew1) | exact HB.out)⟩⟩
                              ·
                               rw [if_neg c80] at H
                               exact absurd H (by simp)
                            ·
                             rw [if_neg c77] at H
                             exact absurd H (by simp)
                           ·
                            rw [if_neg c76] at H
                            exact absurd H (by simp)
                     ·
                      rw [if_neg c60] at H
                      have c60b0 : decide (x116_5 < (t206.length : Int)) = false := decide_eq_false c60
                      clear c60
                      have H' := Aside0.mk H
                      clear H
                      go_wp2
                      go_loopg [151] k5 (fun kq v151 w' => ∃ (x151_6 : Int), v151 = .int .i64 x151_6 ∧ Aside0 (conclavelaw07_ScheduleApart.l1 kq t206 (t206.length : Int) x151_6 = some r) ∧ Aside0 (kq ≤ k5) ∧ Aside0 (Kd.R (Kd.int .i64) 3 w' w.heap.size (fun _ => True) (.slice Ao59 t206.length co59) t206) ∧ Aside0 (Below w.heap.size w w'))
                      case atStart => exact ⟨(0), (by first | rfl | (simp; done) | (simp [*]; done)), H', ⟨Nat.le_refl _⟩, ⟨by (with_reducible repeat (first | apply Kd.R_alloc | apply Kd.R_drewN | apply Kd.R_drew)); exact Kd.R_mono HO_7.out (fun _ hk => trivial)⟩, ⟨by repeat (first | (with_reducible first | exact HB.out | apply below_alloc | apply pw_below_drewN | apply below_drew1) | exact HB.out)⟩⟩
                      case round =>
                       clear H'
                       try clear p2
                       try clear q2
                       try clear hx2
                       try clear c6
                       try clear p6
                       try clear c7
                       try clear c8
                       try clear p24
                       try clear q24
                       try clear hx24
                       try clear c60
                       try clear c60b0
                       try clear p64
                       try clear c65
                       try clear c66
                       try clear c67
                       try clear c70
                       try clear c76
                       try clear c76b0
                       try clear c77
                       try clear c77b0
                       try clear c78
                       try clear c78b0
                       try clear c78b1
                       try clear c80
                       try clear c80b0
                       try clear c81
                       try clear c81b0
                       try clear c81b1
                       try clear c81b2
                       try clear hx246_0
                       try clear hx247_0
                       try clear hx248_0
                       try clear p246
                       try clear p247
                       try clear p248
                       try clear q246
                       try clear q247
                       try clear q248
                       obtain ⟨x151_6, rfl, HA, HK6, HO_7, HB⟩ := hrel
                       cases gk with
                       | zero => exact absurd HA.out (by simp [conclavelaw07_ScheduleApart.l1])
                       | succ k6 =>
                        have H := HA.out
                        clear HA
                        simp only [conclavelaw07_ScheduleApart.l1] at H
                        by_cases c86 : x151_6 < (t206.length : Int)
                        ·
                         rw [if_pos c86] at H
                         have c86b0 : decide (x151_6 < (t206.length : Int)) = true := decide_eq_true c86
                         clear c86
                         have H' := Aside0.mk H
                         clear H
                         go_wp2
                         go_loopg [155] k6 (fun kq v155 w' => ∃ (x155_7 : Int), v155 = .int .i64 x155_7 ∧ Aside0 (conclavelaw07_ScheduleApart.l2 kq t206 x151_6 (t206.length : Int) x151_6 x151_6 x155_7 = some r) ∧ Aside0 (kq ≤ k6) ∧ Aside0 (Kd.R (Kd.int .i64) 3 w' w.heap.size (fun _ => True) (.slice Ao59 t206.length co59) t206) ∧ Aside0 (Below w.heap.size w w'))
                         case atStart => exact ⟨(0), (by first | rfl | (simp; done) | (simp [*]; done)), H', ⟨Nat.le_refl _⟩, ⟨by (with_reducible repeat (first | apply Kd.R_alloc | apply Kd.R_drewN | apply Kd.R_drew)); exact HO_7.out⟩, ⟨by repeat (first | (with_reducible first | exact HB.out | apply below_alloc | apply pw_below_drewN | apply below_drew1) | exact HB.out)⟩⟩
                         case round =>
                          clear H'
                          try clear p2
                          try clear q2
                          try clear hx2
                          try clear c6
                          try clear p6
                          try clear c7
                          try clear c8
                          try clear p24
                          try clear q24
                          try clear hx24
                          try clear c60
                          try clear c60b0
                          try clear p64
                          try clear c65
                          try clear c66
                          try clear c67
                          try clear c70
                          try clear c76
                          try clear c76b0
                          try clear c77
                          try clear c77b0
                          try clear c78
                          try clear c78b0
                          try clear c78b1
                          try clear c80
                          try clear c80b0
                          try clear c81
                          try clear c81b0
                          try clear c81b1
                          try clear c81b2
                          try clear c86
                          try clear c86b0
                          try clear hx246_0
                          try clear hx247_0
                          try clear hx248_0
                          try clear p2
                          try clear p24
                          try clear p246
                          try clear p247
                          try clear p248
                          try clear p6
                          try clear p64
                          try clear q2
                          try clear q24
                          try clear q246
                          try clear q247
                          try clear q248
                          obtain ⟨x155_7, rfl, HA, HK7, HO_7, HB⟩ := hrel
                          cases gk with
                          | zero => exact absurd HA.out (by simp [conclavelaw07_ScheduleApart.l2])
                          | succ k7 =>
                           have H := HA.out
                           clear HA
                           simp only [conclavelaw07_ScheduleApart.l2] at H
                           by_cases c87 : x155_7 < x151_6
                           ·
                            rw [if_pos c87] at H
                            have c87b0 : decide (x155_7 < x151_6) = true := decide_eq_true c87
                            clear c87
                            by_cases c88 : 0 ≤ x151_6
                            ·
                             rw [if_pos c88] at H
                             have c88b0 : decide (0 ≤ x151_6) = true := decide_eq_true c88
                             clear c88
                             by_cases c89 : x151_6 < (t206.length : Int)
                             ·
                              rw [if_pos c89] at H
                              have c89b0 : decide (x151_6 < (t206.length : Int)) = true := decide_eq_true c89
                              clear c89
                              by_cases c90 : 0 ≤ x155_7
                              ·
                               rw [if_pos c90] at H
                               have c90b0 : decide (0 ≤ x155_7) = true := decide_eq_true c90
                               clear c90
                               by_cases c91 : x155_7 < (t206.length : Int)
                               ·
                                rw [if_pos c91] at H
                                have c91b0 : decide (x155_7 < (t206.length : Int)) = true := decide_eq_true c91
                                clear c91
                                by_cases c92 : (rd t206 x151_6) = (rd t206 x155_7)
                                ·
                                 rw [if_pos c92] at H
                                 have c92b0 : ((rd t206 x151_6) == (rd t206 x155_7)) = true := beq_iff_eq.mpr c92
                                 have c92b1 : ((rd t206 x151_6) != (rd t206 x155_7)) = false := bne_eq_false_iff_eq.mpr c92
                                 clear c92
                                 obtain rfl := Option.some.inj H
                                 try go_wp2
                                 have n0_ := Aside0.mk (Kd.R_drew HO_7.out)
                                 have n1_ := Aside0.mk (below_drew1 HB.out)
                                 clear HO_7
                                 clear HB
                                 have HO_7 := n0_
                                 have HB := n1_
                                 clear n0_ n1_
                                 have p249 : 0 ≤ (x151_6 : Int) := of_decide_eq_true (by first | (with_reducible assumption) | assumption)
                                 have q249 : x151_6 < (t206.length : Int) := of_decide_eq_true (by first | (with_reducible assumption) | assumption)
                                 obtain ⟨ad249, e249, hx249_0⟩ := Kd.at_int (Kd.R_reads' HO_7.out).2.2 x151_6 p249 q249
                                 cases e249
                                 replace p249 := eq_true p249
                                 replace q249 := eq_true q249
                                 have p250 : 0 ≤ (x155_7 : Int) := of_decide_eq_true (by first | (with_reducible assumption) | assumption)
                                 have q250 : x155_7 < (t206.length : Int) := of_decide_eq_true (by first | (with_reducible assumption) | assumption)
                                 obtain ⟨ad250, e250, hx250_0⟩ := Kd.at_int (Kd.R_reads' HO_7.out).2.2 x155_7 p250 q250
                                 obtain rfl : ad249 = ad250 := (by injection e250)
                                 replace p250 := eq_true p250
                                 replace q250 := eq_true q250
                                 refine start_ (n := 9) (S := fun w' => w'.cell? (ad249.add (x151_6).toNat) = some (.int .i64 (rd t206 x151_6)) ∧ w'.cell? (ad249.add (x155_7).toNat) = some (.int .i64 (rd t206 x155_7))) (ds := []) #[false, false, false, false, false, false, false, false, false] (by kernel_rfl) rfl rfl ⟨hx249_0, hx250_0⟩ (fun hHeld => ?_); refine with_tabW conclavelaw07_ScheduleApart.tab30 conclavelaw07_ScheduleApart.bits30 (fun HT_ HW_ => ?_)
                                 generalize wr.drew = w93 at HO_7 HB hx249_0 hx250_0 hHeld ⊢
                                 refine pure_ (i := 0) (N := some 158) (v := ?_) (a' := ?_) #[true, false, false, false, false, false, false, false, false] rfl rfl (any_of HT_.out (by kernel_rfl)) (fun _ _ _ h => h) (Or.inl ⟨by rfl, ?_⟩) ?_ ?_
                                 rotate_left; (intro w'; go_simp; with_reducible rfl); rotate_left; (simp only [Act.put, List.setIfInBounds_toArray, List.set_cons_zero, List.set_cons_succ, i64_w, i32_w]; rfl)
                                 refine pure_ (i := 1) (N := some 159) (v := ?_) (a' := ?_) #[true, true, false, false, false, false, false, false, false] rfl rfl (any_of HT_.out (by kernel_rfl)) (fun _ _ _ h => h) (Or.inl ⟨by rfl, ?_⟩) ?_ ?_
                                 rotate_left; (intro w'; go_simp; with_reducible rfl); rotate_left; (simp only [Act.put, List.setIfInBounds_toArray, List.set_cons_zero, List.set_cons_succ, i64_w, i32_w]; rfl)
                                 refine pure_ (i := 2) (N := some 160) (v := ?_) (a' := ?_) #[true, true, true, false, false, false, false, false, false] rfl rfl (any_of HT_.out (by kernel_rfl)) (fun _ _ _ h => h) (Or.inl ⟨by rfl, ?_⟩) ?_ ?_
                                 rotate_left; (intro w'; go_simp; with_reducible rfl); rotate_left; (simp only [Act.put, List.setIfInBounds_toArray, List.set_cons_zero, List.set_cons_succ, i64_w, i32_w]; rfl)
                                 refine pure_ (i := 4) (N := some 162) (v := ?_) (a' := ?_) #[true, true, true, false, true, false, false, false, false] rfl rfl (any_of HT_.out (by kernel_rfl)) (fun _ _ _ h => h) (Or.inl ⟨by rfl, ?_⟩) ?_ ?_
                                 rotate_left; (intro w'; go_simp; with_reducible rfl); rotate_left; (simp only [Act.put, List.setIfInBounds_toArray, List.set_cons_zero, List.set_cons_succ, i64_w, i32_w]; rfl)
                                 refine pure_ (i := 5) (N := some 163) (v := ?_) (a' := ?_) #[true, true, true, false, true, true, false, false, false] rfl rfl (any_of HT_.out (by kernel_rfl)) (fun _ _ _ h => h) (Or.inl ⟨by rfl, ?_⟩) ?_ ?_
                                 rotate_left; (intro w'; go_simp; with_reducible rfl); rotate_left; (simp only [Act.put, List.setIfInBounds_toArray, List.set_cons_zero, List.set_cons_succ, i64_w, i32_w]; rfl)
                                 refine pure_ (i := 6) (N := some 164) (v := ?_) (a' := ?_) #[true, true, true, false, true, true, true, false, false] rfl rfl (any_of HT_.out (by kernel_rfl)) (fun _ _ _ h => h) (Or.inl ⟨by rfl, ?_⟩) ?_ ?_
                                 rotate_left; (intro w'; go_simp; with_reducible rfl); rotate_left; (simp only [Act.put, List.setIfInBounds_toArray, List.set_cons_zero, List.set_cons_succ, i64_w, i32_w]; rfl)
                                 refine take_ (i := 3) (N := some 161) (v := ?_) (a' := ?_) #[true, true, true, true, true, true, true, false, false] rfl rfl (take_ofW HT_.out HW_.out (by kernel_rfl)) (fun _ _ _ h => h) (Or.inl ⟨by rfl, ?_⟩) hHeld ?_ ?_
                                 rotate_left
                                 ·
                                  rintro w' ⟨s0, s1⟩
                                  go_simp
                                  with_reducible rfl
                                 rotate_left
                                 ·
                                  simp only [Act.put, List.setIfInBounds_toArray, List.set_cons_zero, List.set_cons_succ, i64_w, i32_w]
                                  rfl
                                 refine take_ (i := 7) (N := some 165) (v := ?_) (a' := ?_) #[true, true, true, true, true, true, true, true, false] rfl rfl (take_ofW HT_.out HW_.out (by kernel_rfl)) (fun _ _ _ h => h) (Or.inl ⟨by rfl, ?_⟩) hHeld ?_ ?_
                                 rotate_left
                                 ·
                                  rintro w' ⟨s0, s1⟩
                                  go_simp
                                  with_reducible rfl
                                 rotate_left
                                 ·
                                  simp only [Act.put, List.setIfInBounds_toArray, List.set_cons_zero, List.set_cons_succ, i64_w, i32_w]
                                  rfl
                                 refine pure_ (i := 8) (N := some 166) (v := ?_) (a' := ?_) #[true, true, true, true, true, true, true, true, true] rfl rfl (any_of HT_.out (by kernel_rfl)) (fun _ _ _ h => h) (Or.inl ⟨by rfl, ?_⟩) ?_ ?_
                                 rotate_left; (intro w'; go_simp; with_reducible rfl); rotate_left; (simp only [Act.put, List.setIfInBounds_toArray, List.set_cons_zero, List.set_cons_succ, i64_w, i32_w]; rfl)
                                 refine done_ (done_of HT_.out (by kernel_rfl)) ?_
                                 try go_wp2
                                 go_ret
                                 exact ⟨by first | rfl | (simp [errW_none, errW_some] <;> rfl) | (simp [*, errW_none, errW_some] <;> rfl), by repeat (first | (with_reducible first | exact HB.out | apply below_alloc | apply pw_below_drewN | apply below_drew1) | exact HB.out)⟩
                                ·
                                 rw [if_neg c92] at H
                                 have c92b0 : ((rd t206 x151_6) == (rd t206 x155_7)) = false := beq_eq_false_iff_ne.mpr c92
                                 have c92b1 : ((rd t206 x151_6) != (rd t206 x155_7)) = true := bne_iff_ne.mpr c92
                                 have H' := Aside0.mk H
                                 clear H
                                 try go_wp2
                                 have n0_ := Aside0.mk (Kd.R_drew HO_7.out)
                                 have n1_ := Aside0.mk (below_drew1 HB.out)
                                 clear HO_7
                                 clear HB
                                 have HO_7 := n0_
                                 have HB := n1_
                                 clear n0_ n1_
                                 have p249 : 0 ≤ (x151_6 : Int) := of_decide_eq_true (by first | (with_reducible assumption) | assumption)
                                 have q249 : x151_6 < (t206.length : Int) := of_decide_eq_true (by first | (with_reducible assumption) | assumption)
                                 obtain ⟨ad249, e249, hx249_0⟩ := Kd.at_int (Kd.R_reads' HO_7.out).2.2 x151_6 p249 q249
                                 cases e249
                                 replace p249 := eq_true p249
                                 replace q249 := eq_true q249
                                 have p250 : 0 ≤ (x155_7 : Int) := of_decide_eq_true (by first | (with_reducible assumption) | assumption)
                                 have q250 : x155_7 < (t206.length : Int) := of_decide_eq_true (by first | (with_reducible assumption) | assumption)
                                 obtain ⟨ad250, e250, hx250_0⟩ := Kd.at_int (Kd.R_reads' HO_7.out).2.2 x155_7 p250 q250
                                 obtain rfl : ad249 = ad250 := (by injection e250)
                                 replace p250 := eq_true p250
                                 replace q250 := eq_true q250
                                 refine start_ (n := 9) (S := fun w' => w'.cell? (ad249.add (x151_6).toNat) = some (.int .i64 (rd t206 x151_6)) ∧ w'.cell? (ad249.add (x155_7).toNat) = some (.int .i64 (rd t206 x155_7))) (ds := []) #[false, false, false, false, false, false, false, false, false] (by kernel_rfl) rfl rfl ⟨hx249_0, hx250_0⟩ (fun hHeld => ?_); refine with_tabW conclavelaw07_ScheduleApart.tab30 conclavelaw07_ScheduleApart.bits30 (fun HT_ HW_ => ?_)
                                 generalize wr.drew = w94 at HO_7 HB hx249_0 hx250_0 hHeld ⊢
                                 refine pure_ (i := 0) (N := some 158) (v := ?_) (a' := ?_) #[true, false, false, false, false, false, false, false, false] rfl rfl (any_of HT_.out (by kernel_rfl)) (fun _ _ _ h => h) (Or.inl ⟨by rfl, ?_⟩) ?_ ?_
                                 rotate_left; (intro w'; go_simp; with_reducible rfl); rotate_left; (simp only [Act.put, List.setIfInBounds_toArray, List.set_cons_zero, List.set_cons_succ, i64_w, i32_w]; rfl)
                                 refine pure_ (i := 1) (N := some 159) (v := ?_) (a' := ?_) #[true, true, false, false, false, false, false, false, false] rfl rfl (any_of HT_.out (by kernel_rfl)) (fun _ _ _ h => h) (Or.inl ⟨by rfl, ?_⟩) ?_ ?_
                                 rotate_left; (intro w'; go_simp; with_reducible rfl); rotate_left; (simp only [Act.put, List.setIfInBounds_toArray, List.set_cons_zero, List.set_cons_succ, i64_w, i32_w]; rfl)
                                 refine pure_ (i := 2) (N := some 160) (v := ?_) (a' := ?_) #[true, true, true, false, false, false, false, false, false] rfl rfl (any_of HT_.out (by kernel_rfl)) (fun _ _ _ h => h) (Or.inl ⟨by rfl, ?_⟩) ?_ ?_
                                 rotate_left; (intro w'; go_simp; with_reducible rfl); rotate_left; (simp only [Act.put, List.setIfInBounds_toArray, List.set_cons_zero, List.set_cons_succ, i64_w, i32_w]; rfl)
                                 refine pure_ (i := 4) (N := some 162) (v := ?_) (a' := ?_) #[true, true, true, false, true, false, false, false, false] rfl rfl (any_of HT_.out (by kernel_rfl)) (fun _ _ _ h => h) (Or.inl ⟨by rfl, ?_⟩) ?_ ?_
                                 rotate_left; (intro w'; go_simp; with_reducible rfl); rotate_left; (simp only [Act.put, List.setIfInBounds_toArray, List.set_cons_zero, List.set_cons_succ, i64_w, i32_w]; rfl)
                                 refine pure_ (i := 5) (N := some 163) (v := ?_) (a' := ?_) #[true, true, true, false, true, true, false, false, false] rfl rfl (any_of HT_.out (by kernel_rfl)) (fun _ _ _ h => h) (Or.inl ⟨by rfl, ?_⟩) ?_ ?_
                                 rotate_left; (intro w'; go_simp; with_reducible rfl); rotate_left; (simp only [Act.put, List.setIfInBounds_toArray, List.set_cons_zero, List.set_cons_succ, i64_w, i32_w]; rfl)
                                 refine pure_ (i := 6) (N := some 164) (v := ?_) (a' := ?_) #[true, true, true, false, true, true, true, false, false] rfl rfl (any_of HT_.out (by kernel_rfl)) (fun _ _ _ h => h) (Or.inl ⟨by rfl, ?_⟩) ?_ ?_
                                 rotate_left; (intro w'; go_simp; with_reducible rfl); rotate_left; (simp only [Act.put, List.setIfInBounds_toArray, List.set_cons_zero, List.set_cons_succ, i64_w, i32_w]; rfl)
                                 refine take_ (i := 3) (N := some 161) (v := ?_) (a' := ?_) #[true, true, true, true, true, true, true, false, false] rfl rfl (take_ofW HT_.out HW_.out (by kernel_rfl)) (fun _ _ _ h => h) (Or.inl ⟨by rfl, ?_⟩) hHeld ?_ ?_
                                 rotate_left
                                 ·
                                  rintro w' ⟨s0, s1⟩
                                  go_simp
                                  with_reducible rfl
                                 rotate_left
                                 ·
                                  simp only [Act.put, List.setIfInBounds_toArray, List.set_cons_zero, List.set_cons_succ, i64_w, i32_w]
                                  rfl
                                 refine take_ (i := 7) (N := some 165) (v := ?_) (a' := ?_) #[true, true, true, true, true, true, true, true, false] rfl rfl (take_ofW HT_.out HW_.out (by kernel_rfl)) (fun _ _ _ h => h) (Or.inl ⟨by rfl, ?_⟩) hHeld ?_ ?_
                                 rotate_left
                                 ·
                                  rintro w' ⟨s0, s1⟩
                                  go_simp
                                  with_reducible rfl
                                 rotate_left
                                 ·
                                  simp only [Act.put, List.setIfInBounds_toArray, List.set_cons_zero, List.set_cons_succ, i64_w, i32_w]
                                  rfl
                                 refine pure_ (i := 8) (N := some 166) (v := ?_) (a' := ?_) #[true, true, true, true, true, true, true, true, true] rfl rfl (any_of HT_.out (by kernel_rfl)) (fun _ _ _ h => h) (Or.inl ⟨by rfl, ?_⟩) ?_ ?_
                                 rotate_left; (intro w'; go_simp; with_reducible rfl); rotate_left; (simp only [Act.put, List.setIfInBounds_toArray, List.set_cons_zero, List.set_cons_succ, i64_w, i32_w]; rfl)
                                 refine done_ (done_of HT_.out (by kernel_rfl)) ?_
                                 try go_wp2
                                 go_roundg k7
                                 case measure => have := HJ4.out; have := HJ27.out; have := HJ46.out; have := HJ52.out; have := HK5.out; have := HK6.out; have := HK7.out; omega
                                 case rel => exact ⟨(wrap64 (x155_7 + 1)), (by first | rfl | (simp; done) | (simp [*]; done)), H', ⟨by have := HJ4.out; have := HJ27.out; have := HJ46.out; have := HJ52.out; have := HK5.out; have := HK6.out; have := HK7.out; omega⟩, ⟨by (with_reducible repeat (first | apply Kd.R_alloc | apply Kd.R_drewN | apply Kd.R_drew)); exact HO_7.out⟩, ⟨by repeat (first | (with_reducible first | exact HB.out | apply below_alloc | apply pw_below_drewN | apply below_drew1) | exact HB.out)⟩⟩
                               ·
                                rw [if_neg c91] at H
                                exact absurd H (by simp)
                              ·
                               rw [if_neg c90] at H
                               exact absurd H (by simp)
                             ·
                              rw [if_neg c89] at H
                              exact absurd H (by simp)
                            ·
                             rw [if_neg c88] at H
                             exact absurd H (by simp)
                           ·
                            rw [if_neg c87] at H
                            have c87b0 : decide (x155_7 < x151_6) = false := decide_eq_false c87
                            clear c87
                            have H' := Aside0.mk H
                            clear H
                            go_wp2
                            go_roundg k7
                            case measure => have := HJ4.out; have := HJ27.out; have := HJ46.out; have := HJ52.out; have := HK5.out; have := HK6.out; have := HK7.out; omega
                            case rel => exact ⟨(wrap64 (x151_6 + 1)), (by first | rfl | (simp; done) | (simp [*]; done)), H', ⟨by have := HJ4.out; have := HJ27.out; have := HJ46.out; have := HJ52.out; have := HK5.out; have := HK6.out; have := HK7.out; omega⟩, ⟨by (with_reducible repeat (first | apply Kd.R_alloc | apply Kd.R_drewN | apply Kd.R_drew)); exact HO_7.out⟩, ⟨by repeat (first | (with_reducible first | exact HB.out | apply below_alloc | apply pw_below_drewN | apply below_drew1) | exact HB.out)⟩⟩
                        ·
                         rw [if_neg c86] at H
                         have c86b0 : decide (x151_6 < (t206.length : Int)) = false := decide_eq_false c86
                         clear c86
                         obtain rfl := Option.some.inj H
                         go_wp2
                         go_ret
                         exact ⟨by first | rfl | (simp [errW_none, errW_some] <;> rfl) | (simp [*, errW_none, errW_some] <;> rfl), by repeat (first | (with_reducible first | exact HB.out | apply below_alloc | apply pw_below_drewN | apply below_drew1) | exact HB.out)⟩
            ·
             rw [if_neg c25] at H
             exact absurd H (by simp)
           ·
            rw [if_neg c23] at H
            exact absurd H (by simp)
          ·
           rw [if_neg c22] at H
           exact absurd H (by simp)
         ·
          rw [if_neg c21] at H
          exact absurd H (by simp)
        ·
         rw [if_neg c18] at H
         exact absurd H (by simp)
       ·
        rw [if_neg c16] at H
        exact absurd H (by simp)
      ·
       rw [if_neg c15] at H
       exact absurd H (by simp)
     ·
      rw [if_neg c14] at H
      exact absurd H (by simp)
 ·
  replace c4 := Bool.eq_false_iff.mpr c4
  subst c4
  have H1 : (some false) = some r := by rw [if_neg (show ¬ (false = true) by decide)] at H; exact H
  clear H
  have H := H1
  clear H1
  obtain rfl := Option.some.inj H
  go_enter Try.func3, Try.ntmps3
  go_wp2_with (first | ((with_reducible refine gate_callee (f := 6) rfl ?_); refine goesL_ (some 16) rfl rfl Try.func6 (by kernel_rfl) rfl #[] rfl (by (try simp only [List.map_toArray, List.map_cons, List.map_nil]); first | done | rfl | (simp only [List.length_drop, List.length_take]; rfl)) ?_; (with_reducible refine (conclavelaw07_anchor.calls k  false _ A3.out).mono ?_); rintro e w95 ⟨rfl, hb⟩; refine ⟨_, rfl, ?_⟩; have n0_ := Aside0.mk (below_step (by repeat (first | (with_reducible first | exact HB.out | apply below_alloc | apply pw_below_drewN | apply below_drew1) | exact HB.out)) hb); clear HB; have HB := n0_; clear n0_; (try clear hb); (try clear hb2); (try clear hk); (try clear hi)))
  go_ret
  exact ⟨by first | rfl | (simp [errW_none, errW_some] <;> rfl) | (simp [*, errW_none, errW_some] <;> rfl), by repeat (first | (with_reducible first | exact HB.out | apply below_alloc | apply pw_below_drewN | apply below_drew1) | exact HB.out)⟩

/-- THE ONE PURE STATEMENT of conclavelaw07_ScheduleApart: yours. -/
def conclavelaw07_ScheduleApart.Pure : Prop := ∀ (l0 : List Int) (l1 : List Int), l0.length ≤ maxLen → l0.length * 8 ≤ 140737488351232 → (∀ x ∈ l0, (Lit.int .i64 x).wf = true) → l1.length ≤ maxLen → l1.length * 8 ≤ 140737488351232 → (∀ x ∈ l1, (Lit.int .i64 x).wf = true) → ∃ k, conclavelaw07_ScheduleApart.f k l0 l1 = some true
theorem conclavelaw07_ScheduleApart.walk (P : conclavelaw07_ScheduleApart.Pure) (a0 : Option Addr) (len0 cap0 : Nat) (z0 : List Int) (a1 : Option Addr) (len1 cap1 : Nat) (z1 : List Int) (w : World) (w0 : (a0 = none ∧ len0 = 0 ∧ cap0 = 0 ∧ z0 = []) ∨ ∃ x, a0 = some x ∧ len0 ≤ cap0 ∧ cap0 ≤ maxLen ∧ z0.length = cap0 ∧ (∀ i, i < z0.length → w.cell? (x.add i) = some (.int .i64 (z0.getD i 0))) ∧ ∀ n ∈ z0, (Lit.int .i64 n).wf = true) (y0 : len0 * 8 ≤ 140737488351232) (w1 : (a1 = none ∧ len1 = 0 ∧ cap1 = 0 ∧ z1 = []) ∨ ∃ x, a1 = some x ∧ len1 ≤ cap1 ∧ cap1 ≤ maxLen ∧ z1.length = cap1 ∧ (∀ i, i < z1.length → w.cell? (x.add i) = some (.int .i64 (z1.getD i 0))) ∧ ∀ n ∈ z1, (Lit.int .i64 n).wf = true) (y1 : len1 * 8 ≤ 140737488351232) :
 Calls Try.prog 3 #[.slice a0 len0 cap0, .slice a1 len1 cap1] w fun e w' => e = .returned (.bool true) ∧ Below w.heap.size w w' := by
 obtain ⟨l0, rfl, hr0, hm0, hw0, hc0⟩ := ReadsInt.ofRowC w0
 obtain ⟨l1, rfl, hr1, hm1, hw1, hc1⟩ := ReadsInt.ofRowC w1
 obtain ⟨k, h⟩ := P l0 l1 hm0 y0 hw0 hm1 y1 hw1
 refine (conclavelaw07_ScheduleApart.calls k _ _ l0 _ _ l1 true w (Kd.C_of_reads (d := (0 : Int)) (h1 := fun _ => rfl) hr0) hc0 (Kd.C_of_reads (d := (0 : Int)) (h1 := fun _ => rfl) hr1) hc1 h).mono ?_
 rintro e w' ⟨rfl, hd⟩
 exact ⟨rfl, hd⟩

end Go.Proofs.Yteoamlnnaabomaa.PSc
