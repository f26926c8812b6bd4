/- What this claim reaches of a longer text of this session. -/
import Derived.Test.YteoamlnnaabomaaDoorPSbx0
import Derived.Test.YteoamlnnaabomaaDoorPSbx1
import Derived.Test.YteoamlnnaabomaaDoorPSbx2
import Derived.Test.YteoamlnnaabomaaDoorPSbx3
import Derived.Test.YteoamlnnaabomaaDoorPSbx4
import Derived.Test.YteoamlnnaabomaaDoorPSbx5
namespace Go.Proofs.YteoamlnnaabomaaDoor.PSb
open Go.RowKit Go.Proofs.YteoamlnnaabomaaDoorW.PrintWords Go.Proofs.YteoamlnnaabomaaDoorW.PrintLast Go.Proofs.YteoamlnnaabomaaDoorW.PrintMore
attribute [local go_sem] max2_int min2_int max_two min_two max_three min_three max_four min_four   -- for this text's walks alone
set_option linter.unusedVariables false
set_option linter.unusedSimpArgs false
set_option maxHeartbeats 8000000 in
set_option maxRecDepth 100000 in
theorem conclavelaw07_ScheduleBinds_P3.calls (k : Nat) (A0 : Option Addr) (c0 : Nat) (l0 : List Int) (A1 : Option Addr) (c1 : Nat) (l1 : List Int) (r : Bool) (w : World) (hrG : TabG w) (hr0 : Kd.C (Kd.int .i64) w A0 l0.length l0) (hc0 : l0.length ≤ c0) (hr1 : Kd.C (Kd.int .i64) w A1 l1.length l1) (hc1 : l1.length ≤ c1) (h : conclavelaw07_ScheduleBinds.f k l0 l1 = some r) (hP : (rd l0 0) = (rd l1 0) ∧ ¬ (rd l0 1) = (rd l1 1)) (hr : r = true) :
 Calls Tryd.prog 4 #[.slice A0 l0.length c0, .slice A1 l1.length c1] w fun e w' => e = .returned (.bool r) ∧ Below w.heap.size w w' := by
 have HP := Aside0.mk hP
 clear hP
 have HRG := Aside0.mk hrG
 clear hrG
 have HR0 := Aside0.mk hr0
 have HC0 := Aside0.mk hc0
 clear hr0 hc0
 have HR1 := Aside0.mk hr1
 have HC1 := Aside0.mk hc1
 clear hr1 hc1
 have HB := Aside0.mk (Below.refl w.heap.size w)
 have H : ((conclavelaw07_anchor.f k).bind fun t228 => (if t228 = true then (if (l0.length : Int) = 5 then (if (l1.length : Int) = 5 then (if 3 ≤ (l0.length : Int) then ((conclavelaw07_right.f k (l0.take 3) 9).bind fun t230 => (if t230 = true then (if 3 ≤ (l1.length : Int) then ((conclavelaw07_right.f k (l1.take 3) 9).bind fun t232 => (conclavelaw07_ScheduleBinds.j0 k l0 l1 (!t232))) else (none)) else (conclavelaw07_ScheduleBinds.j0 k l0 l1 true))) else (none)) else (conclavelaw07_ScheduleBinds.j0 k l0 l1 true)) else (conclavelaw07_ScheduleBinds.j0 k l0 l1 true)) else (some false))) = some r := h
 clear h
 replace H := Option.bind_eq_some_iff.mp H
 obtain ⟨t228, A30, H⟩ := H
 replace H : (if t228 = true then (if (l0.length : Int) = 5 then (if (l1.length : Int) = 5 then (if 3 ≤ (l0.length : Int) then ((conclavelaw07_right.f k (l0.take 3) 9).bind fun t230 => (if t230 = true then (if 3 ≤ (l1.length : Int) then ((conclavelaw07_right.f k (l1.take 3) 9).bind fun t232 => (conclavelaw07_ScheduleBinds.j0 k l0 l1 (!t232))) else (none)) else (conclavelaw07_ScheduleBinds.j0 k l0 l1 true))) else (none)) else (conclavelaw07_ScheduleBinds.j0 k l0 l1 true)) else (conclavelaw07_ScheduleBinds.j0 k l0 l1 true)) else (some false)) = some r := H
 have A3 := Aside0.mk A30
 clear A30
 by_cases c4 : t228 = true
 ·
  subst c4
  have H1 : (if (l0.length : Int) = 5 then (if (l1.length : Int) = 5 then (if 3 ≤ (l0.length : Int) then ((conclavelaw07_right.f k (l0.take 3) 9).bind fun t230 => (if t230 = true then (if 3 ≤ (l1.length : Int) then ((conclavelaw07_right.f k (l1.take 3) 9).bind fun t232 => (conclavelaw07_ScheduleBinds.j0 k l0 l1 (!t232))) else (none)) else (conclavelaw07_ScheduleBinds.j0 k l0 l1 true))) else (none)) else (conclavelaw07_ScheduleBinds.j0 k l0 l1 true)) else (conclavelaw07_ScheduleBinds.j0 k l0 l1 true)) = some r := by rw [if_pos rfl] at H; exact H
  clear H
  have H := H1
  clear H1
  have HC5 := Aside0.mk H
  clear H
  go_enter Tryd.func4, Tryd.ntmps4
  go_upto_region 3 with (first | ((with_reducible refine gate_callee (f := 6) rfl ?_); refine goesL_ (some 14) rfl rfl Tryd.func6 (by kernel_rfl) rfl #[] rfl (by (try simp only [List.map_toArray, List.map_cons, List.map_nil]); first | done | rfl | (simp only [List.length_drop, List.length_take]; rfl)) ?_; (with_reducible refine (conclavelaw07_anchor.calls k  true _ A3.out).mono ?_); rintro e w6 ⟨rfl, hb⟩; refine ⟨_, rfl, ?_⟩; have n0_ := Aside0.mk (below_step (by repeat (first | (with_reducible first | exact HB.out | apply below_alloc | apply pw_below_drewN | apply below_drew1) | exact HB.out)) hb); clear HB; have HB := n0_; clear n0_; (try clear hb); (try clear hb2); (try clear hk); (try clear hi)))
  (try simp only [Act.put, List.setIfInBounds_toArray, List.set_cons_zero, List.set_cons_succ])
  go_cut [35] (fun v35 wc => ∃ (kq : Nat) (x35_4 : Bool), v35 = .bool x35_4 ∧ Aside0 (conclavelaw07_ScheduleBinds.j0 kq l0 l1 x35_4 = some r) ∧ Aside0 (kq ≤ k) ∧ Aside0 (Below w.heap.size w wc))
  case first =>
   have H := HC5.out
   clear HC5
   by_cases c7 : (l0.length : Int) = 5
   ·
    rw [if_pos c7] at H
    have c7b0 : ((l0.length : Int) == 5) = true := beq_iff_eq.mpr c7
    have c7b1 : ((l0.length : Int) != 5) = false := bne_eq_false_iff_eq.mpr c7
    clear c7
    (first | rw [c7b0] | (simp only [i64_w, i32_w]; rw [c7b0]) | skip)
    by_cases c8 : (l1.length : Int) = 5
    ·
     rw [if_pos c8] at H
     have c8b0 : ((l1.length : Int) == 5) = true := beq_iff_eq.mpr c8
     have c8b1 : ((l1.length : Int) != 5) = false := bne_eq_false_iff_eq.mpr c8
     clear c8
     by_cases c9 : 3 ≤ (l0.length : Int)
     ·
      rw [if_pos c9] at H
      have c9b0 := eq_true c9
      have c9b1 : decide (3 ≤ (l0.length : Int)) = true := decide_eq_true c9
      clear c9
      replace H := Option.bind_eq_some_iff.mp H
      obtain ⟨t230, A100, H⟩ := H
      replace H : (if t230 = true then (if 3 ≤ (l1.length : Int) then ((conclavelaw07_right.f k (l1.take 3) 9).bind fun t232 => (conclavelaw07_ScheduleBinds.j0 k l0 l1 (!t232))) else (none)) else (conclavelaw07_ScheduleBinds.j0 k l0 l1 true)) = some r := H
      have A10 := Aside0.mk A100
      clear A100
      by_cases c11 : t230 = true
      ·
       subst c11
       have H1 : (if 3 ≤ (l1.length : Int) then ((conclavelaw07_right.f k (l1.take 3) 9).bind fun t232 => (conclavelaw07_ScheduleBinds.j0 k l0 l1 (!t232))) else (none)) = some r := by rw [if_pos rfl] at H; exact H
       clear H
       have H := H1
       clear H1
       by_cases c12 : 3 ≤ (l1.length : Int)
       ·
        rw [if_pos c12] at H
        have c12b0 := eq_true c12
        have c12b1 : decide (3 ≤ (l1.length : Int)) = true := decide_eq_true c12
        clear c12
        replace H := Option.bind_eq_some_iff.mp H
        obtain ⟨t232, A130, H⟩ := H
        replace H : (conclavelaw07_ScheduleBinds.j0 k l0 l1 (!t232)) = some r := H
        have A13 := Aside0.mk A130
        clear A130
        have H' := Aside0.mk H
        clear H
        obtain ⟨i014, hi014, _, hsz14, _⟩ := info_parts info3
        obtain ⟨hcut14, hA14, hC14⟩ := print_take_of (P := Tryd.prog) (Value.int .i64) 0 22 3 .i64 Tryd.underlying22 hi014 hsz14 A0 c0 l0 3 (by omega) (of_decide_eq_true (by first | (with_reducible assumption) | assumption)) HC0.out
        have HR229 := Aside0.mk (Kd.C_of_reads (h1 := fun _ => rfl) (hA14 _ (Kd.reads_of_C HR0.out)))
        have HC229 := Aside0.mk hC14
        clear hA14 hC14 hi014 hsz14
        go_wp2_with (first | (go_at_call 7; (try rw [← List.length_take]); (with_reducible refine (conclavelaw07_right.calls k _ _ (l0.take 3) 9 true _ ?side1 ?side2 A10.out).mono ?_); (case side1 => repeat (first | exact (Kd.C_below HR229.out HB.out) | (with_reducible refine Kd.C_alloc ?_ _) | (with_reducible refine Kd.C_drewN ?_ _) | (with_reducible refine Kd.C_drew ?_))); (case side2 => exact HC229.out); rintro e w' ⟨rfl, ⟨nd, rfl⟩⟩; obtain ⟨i015, hi015, _, hsz15, _⟩ := info_parts info3; obtain ⟨hcut15, hA15, hC15⟩ := print_take_of (P := Tryd.prog) (Value.int .i64) 0 22 3 .i64 Tryd.underlying22 hi015 hsz15 A1 c1 l1 3 (by omega) (of_decide_eq_true (by first | (with_reducible assumption) | assumption)) HC1.out; have HR231 := Aside0.mk (Kd.C_of_reads (h1 := fun _ => rfl) (hA15 _ (Kd.reads_of_C HR1.out))); have HC231 := Aside0.mk hC15; clear hA15 hC15 hi015 hsz15) | (go_at_call 7; (try rw [← List.length_take]); (with_reducible refine (conclavelaw07_right.calls k _ _ (l1.take 3) 9 t232 _ ?side1 ?side2 A13.out).mono ?_); (case side1 => repeat (first | exact (Kd.C_below HR231.out (by repeat (first | (with_reducible first | exact HB.out | apply below_alloc | apply pw_below_drewN | apply below_drew1) | exact HB.out))) | (with_reducible refine Kd.C_alloc ?_ _) | (with_reducible refine Kd.C_drewN ?_ _) | (with_reducible refine Kd.C_drew ?_))); (case side2 => exact HC231.out); rintro e w' ⟨rfl, ⟨nd, rfl⟩⟩))
        go_meet
        case rel => exact ⟨_, (!t232), (by first | rfl | (simp; done) | (simp [*]; done)), H', ⟨by first | omega | exact Nat.le_refl _⟩, ⟨by repeat (first | (with_reducible first | exact HB.out | apply below_alloc | apply pw_below_drewN | apply below_drew1) | exact HB.out)⟩⟩
       ·
        rw [if_neg c12] at H
        exact absurd H (by simp)
      ·
       replace c11 := Bool.eq_false_iff.mpr c11
       subst c11
       have H1 : (conclavelaw07_ScheduleBinds.j0 k l0 l1 true) = some r := by rw [if_neg (show ¬ (false = true) by decide)] at H; exact H
       clear H
       have H := H1
       clear H1
       have H' := Aside0.mk H
       clear H
       obtain ⟨i016, hi016, _, hsz16, _⟩ := info_parts info3
       obtain ⟨hcut16, hA16, hC16⟩ := print_take_of (P := Tryd.prog) (Value.int .i64) 0 22 3 .i64 Tryd.underlying22 hi016 hsz16 A0 c0 l0 3 (by omega) (of_decide_eq_true (by first | (with_reducible assumption) | assumption)) HC0.out
       have HR229 := Aside0.mk (Kd.C_of_reads (h1 := fun _ => rfl) (hA16 _ (Kd.reads_of_C HR0.out)))
       have HC229 := Aside0.mk hC16
       clear hA16 hC16 hi016 hsz16
       go_wp2_with (first | (go_at_call 7; (try rw [← List.length_take]); (with_reducible refine (conclavelaw07_right.calls k _ _ (l0.take 3) 9 false _ ?side1 ?side2 A10.out).mono ?_); (case side1 => repeat (first | exact (Kd.C_below HR229.out HB.out) | (with_reducible refine Kd.C_alloc ?_ _) | (with_reducible refine Kd.C_drewN ?_ _) | (with_reducible refine Kd.C_drew ?_))); (case side2 => exact HC229.out); rintro e w' ⟨rfl, ⟨nd, rfl⟩⟩))
       go_meet
       case rel => exact ⟨_, (true), (by first | rfl | (simp; done) | (simp [*]; done)), H', ⟨by first | omega | exact Nat.le_refl _⟩, ⟨by repeat (first | (with_reducible first | exact HB.out | apply below_alloc | apply pw_below_drewN | apply below_drew1) | exact HB.out)⟩⟩
     ·
      rw [if_neg c9] at H
      exact absurd H (by simp)
    ·
     rw [if_neg c8] at H
     have c8b0 : ((l1.length : Int) == 5) = false := beq_eq_false_iff_ne.mpr c8
     have c8b1 : ((l1.length : Int) != 5) = true := bne_iff_ne.mpr c8
     have H' := Aside0.mk H
     clear H
     go_wp2
     go_meet
     case rel => exact ⟨_, (true), (by first | rfl | (simp; done) | (simp [*]; done)), H', ⟨by first | omega | exact Nat.le_refl _⟩, ⟨by repeat (first | (with_reducible first | exact HB.out | apply below_alloc | apply pw_below_drewN | apply below_drew1) | exact HB.out)⟩⟩
   ·
    rw [if_neg c7] at H
    have c7b0 : ((l0.length : Int) == 5) = false := beq_eq_false_iff_ne.mpr c7
    have c7b1 : ((l0.length : Int) != 5) = true := bne_iff_ne.mpr c7
    (first | rw [c7b0] | (simp only [i64_w, i32_w]; rw [c7b0]) | skip)
    have H' := Aside0.mk H
    clear H
    go_wp2
    go_meet
    case rel => exact ⟨_, (true), (by first | rfl | (simp; done) | (simp [*]; done)), H', ⟨by first | omega | exact Nat.le_refl _⟩, ⟨by repeat (first | (with_reducible first | exact HB.out | apply below_alloc | apply pw_below_drewN | apply below_drew1) | exact HB.out)⟩⟩
  case rest =>
   clear HC5
   try clear c1
   try clear p2
   try clear c4
   try clear c6
   try clear c7
   try clear c7b0
   try clear c7b1
   try clear c8
   try clear c8b0
   try clear c8b1
   try clear c9
   try clear c9b0
   try clear c9b1
   try clear c11
   try clear c12
   try clear c12b0
   try clear c12b1
   obtain ⟨kq, x35_4, rfl, HA, HJ4, HB⟩ := hcut
   cases kq with
   | zero => exact absurd HA.out (by simp [conclavelaw07_ScheduleBinds.j0])
   | succ kj4 =>
    have H := HA.out
    clear HA
    simp only [conclavelaw07_ScheduleBinds.j0] at H
    by_cases c17 : x35_4 = true
    ·
     subst c17
     have H1 : (some true) = some r := by rw [if_pos rfl] at H; exact H
     clear H
     have H := H1
     clear H1
     obtain rfl := Option.some.inj H
     try exact absurd hr Bool.false_ne_true
     all_goals
      go_wp2
      go_ret
      exact ⟨by first | rfl | (simp [errW_none, errW_some] <;> rfl) | (simp [*, errW_none, errW_some] <;> rfl), by repeat (first | (with_reducible first | exact HB.out | apply below_alloc | apply pw_below_drewN | apply below_drew1) | exact HB.out)⟩
    ·
     replace c17 := Bool.eq_false_iff.mpr c17
     subst c17
     have H1 : ((conclavelaw07_stores.f 9).bind fun t233 => (if 3 < (l0.length : Int) then (if 4 < (l0.length : Int) then (if 0 < (l0.length : Int) then (if 1 < (l0.length : Int) then ((schedule_Context.f kj4 t233 (rd l0 3) (rd l0 4) (rd l0 0) (rd l0 1)).bind fun bt239 => (if 3 < (l1.length : Int) then (if 4 < (l1.length : Int) then (if 0 < (l1.length : Int) then (if 1 < (l1.length : Int) then ((schedule_Context.f kj4 bt239.2 (rd l1 3) (rd l1 4) (rd l1 0) (rd l1 1)).bind fun bt245 => (if 2 < (l0.length : Int) then ((schedule_Confirmed.f kj4 bt245.2 (rd l0 0) (rd l0 1) (rd l0 2)).bind fun bt250 => (if 2 < (l1.length : Int) then ((schedule_Confirmed.f kj4 bt250.2 (rd l1 0) (rd l1 1) (rd l1 2)).bind fun bt255 => ((schedule_Interim.f kj4 bt255.2 (rd l0 0) (rd l0 1)).bind fun bt259 => ((schedule_Interim.f kj4 bt259.2 (rd l1 0) (rd l1 1)).bind fun bt263 => (if (rd l0 0) = (rd l1 0) then (if bt239.1 = 0 then (some false) else (if bt250.1 = 0 then (some false) else (if bt259.1 = 0 then (some false) else (if (rd l0 1) = (rd l1 1) then (if (rd l0 3) = (rd l1 3) then (if ((bt239.1 == bt245.1) == ((rd l0 4) == (rd l1 4))) = true then (if ((bt250.1 == bt255.1) == ((rd l0 2) == (rd l1 2))) = true then (if ((bt259.1 == bt263.1) == ((rd l0 1) == (rd l1 1))) = true then (if bt239.1 = bt250.1 then (some false) else (some (bt250.1 != bt259.1))) else (some false)) else (some false)) else (some false)) else (if ((bt239.1 == bt245.1) == false) = true then (if ((bt250.1 == bt255.1) == ((rd l0 2) == (rd l1 2))) = true then (if ((bt259.1 == bt263.1) == ((rd l0 1) == (rd l1 1))) = true then (if bt239.1 = bt250.1 then (some false) else (some (bt250.1 != bt259.1))) else (some false)) else (some false)) else (some false))) else (if ((bt239.1 == bt245.1) == false) = true then (if ((bt250.1 == bt255.1) == false) = true then (if ((bt259.1 == bt263.1) == ((rd l0 1) == (rd l1 1))) = true then (if bt239.1 = bt250.1 then (some false) else (some (bt250.1 != bt259.1))) else (some false)) else (some false)) else (some false)))))) else (if bt239.1 = 0 then (some false) else (if bt250.1 = 0 then (some false) else (if bt259.1 = 0 then (some false) else (if ((bt239.1 == bt245.1) == false) = true then (if ((bt250.1 == bt255.1) == false) = true then (if ((bt259.1 == bt263.1) == false) = true then (if bt239.1 = bt250.1 then (some false) else (some (bt250.1 != bt259.1))) else (some false)) else (some false)) else (some false))))))))) else (none))) else (none))) else (none)) else (none)) else (none)) else (none))) else (none)) else (none)) else (none)) else (none))) = some r := by rw [if_neg (show ¬ (false = true) by decide)] at H; exact H
     clear H
     have H := H1
     clear H1
     replace H := Option.bind_eq_some_iff.mp H
     obtain ⟨t233, A180, H⟩ := H
     replace H : (if 3 < (l0.length : Int) then (if 4 < (l0.length : Int) then (if 0 < (l0.length : Int) then (if 1 < (l0.length : Int) then ((schedule_Context.f kj4 t233 (rd l0 3) (rd l0 4) (rd l0 0) (rd l0 1)).bind fun bt239 => (if 3 < (l1.length : Int) then (if 4 < (l1.length : Int) then (if 0 < (l1.length : Int) then (if 1 < (l1.length : Int) then ((schedule_Context.f kj4 bt239.2 (rd l1 3) (rd l1 4) (rd l1 0) (rd l1 1)).bind fun bt245 => (if 2 < (l0.length : Int) then ((schedule_Confirmed.f kj4 bt245.2 (rd l0 0) (rd l0 1) (rd l0 2)).bind fun bt250 => (if 2 < (l1.length : Int) then ((schedule_Confirmed.f kj4 bt250.2 (rd l1 0) (rd l1 1) (rd l1 2)).bind fun bt255 => ((schedule_Interim.f kj4 bt255.2 (rd l0 0) (rd l0 1)).bind fun bt259 => ((schedule_Interim.f kj4 bt259.2 (rd l1 0) (rd l1 1)).bind fun bt263 => (if (rd l0 0) = (rd l1 0) then (if bt239.1 = 0 then (some false) else (if bt250.1 = 0 then (some false) else (if bt259.1 = 0 then (some false) else (if (rd l0 1) = (rd l1 1) then (if (rd l0 3) = (rd l1 3) then (if ((bt239.1 == bt245.1) == ((rd l0 4) == (rd l1 4))) = true then (if ((bt250.1 == bt255.1) == ((rd l0 2) == (rd l1 2))) = true then (if ((bt259.1 == bt263.1) == ((rd l0 1) == (rd l1 1))) = true then (if bt239.1 = bt250.1 then (some false) else (some (bt250.1 != bt259.1))) else (some false)) else (some false)) else (some false)) else (if ((bt239.1 == bt245.1) == false) = true then (if ((bt250.1 == bt255.1) == ((rd l0 2) == (rd l1 2))) = true then (if ((bt259.1 == bt263.1) == ((rd l0 1) == (rd l1 1))) = true then (if bt239.1 = bt250.1 then (some false) else (some (bt250.1 != bt259.1))) else (some false)) else (some false)) else (some false))) else (if ((bt239.1 == bt245.1) == false) = true then (if ((bt250.1 == bt255.1) == false) = true then (if ((bt259.1 == bt263.1) == ((rd l0 1) == (rd l1 1))) = true then (if bt239.1 = bt250.1 then (some false) else (some (bt250.1 != bt259.1))) else (some false)) else (some false)) else (some false)))))) else (if bt239.1 = 0 then (some false) else (if bt250.1 = 0 then (some false) else (if bt259.1 = 0 then (some false) else (if ((bt239.1 == bt245.1) == false) = true then (if ((bt250.1 == bt255.1) == false) = true then (if ((bt259.1 == bt263.1) == false) = true then (if bt239.1 = bt250.1 then (some false) else (some (bt250.1 != bt259.1))) else (some false)) else (some false)) else (some false))))))))) else (none))) else (none))) else (none)) else (none)) else (none)) else (none))) else (none)) else (none)) else (none)) else (none)) = some r := H
     have A18 := Aside0.mk A180
     clear A180
     by_cases c19 : 3 < (l0.length : Int)
     ·
      rw [if_pos c19] at H
      have c19b0 : decide (3 < (l0.length : Int)) = true := decide_eq_true c19
      have c19b1 : decide (3 < l0.length) = true := decide_eq_true (by omega)
      clear c19
      by_cases c20 : 4 < (l0.length : Int)
      ·
       rw [if_pos c20] at H
       have c20b0 : decide (4 < (l0.length : Int)) = true := decide_eq_true c20
       have c20b1 : decide (4 < l0.length) = true := decide_eq_true (by omega)
       clear c20
       by_cases c21 : 0 < (l0.length : Int)
       ·
        rw [if_pos c21] at H
        have c21b0 : decide (0 < (l0.length : Int)) = true := decide_eq_true c21
        have c21b1 : decide (0 < l0.length) = true := decide_eq_true (by omega)
        clear c21
        by_cases c22 : 1 < (l0.length : Int)
        ·
         rw [if_pos c22] at H
         have c22b0 : decide (1 < (l0.length : Int)) = true := decide_eq_true c22
         have c22b1 : decide (1 < l0.length) = true := decide_eq_true (by omega)
         clear c22
         replace H := Option.bind_eq_some_iff.mp H
         obtain ⟨⟨t239, t240⟩, A230, H⟩ := H
         replace H : (if 3 < (l1.length : Int) then (if 4 < (l1.length : Int) then (if 0 < (l1.length : Int) then (if 1 < (l1.length : Int) then ((schedule_Context.f kj4 t240 (rd l1 3) (rd l1 4) (rd l1 0) (rd l1 1)).bind fun bt245 => (if 2 < (l0.length : Int) then ((schedule_Confirmed.f kj4 bt245.2 (rd l0 0) (rd l0 1) (rd l0 2)).bind fun bt250 => (if 2 < (l1.length : Int) then ((schedule_Confirmed.f kj4 bt250.2 (rd l1 0) (rd l1 1) (rd l1 2)).bind fun bt255 => ((schedule_Interim.f kj4 bt255.2 (rd l0 0) (rd l0 1)).bind fun bt259 => ((schedule_Interim.f kj4 bt259.2 (rd l1 0) (rd l1 1)).bind fun bt263 => (if (rd l0 0) = (rd l1 0) then (if t239 = 0 then (some false) else (if bt250.1 = 0 then (some false) else (if bt259.1 = 0 then (some false) else (if (rd l0 1) = (rd l1 1) then (if (rd l0 3) = (rd l1 3) then (if ((t239 == bt245.1) == ((rd l0 4) == (rd l1 4))) = true then (if ((bt250.1 == bt255.1) == ((rd l0 2) == (rd l1 2))) = true then (if ((bt259.1 == bt263.1) == ((rd l0 1) == (rd l1 1))) = true then (if t239 = bt250.1 then (some false) else (some (bt250.1 != bt259.1))) else (some false)) else (some false)) else (some false)) else (if ((t239 == bt245.1) == false) = true then (if ((bt250.1 == bt255.1) == ((rd l0 2) == (rd l1 2))) = true then (if ((bt259.1 == bt263.1) == ((rd l0 1) == (rd l1 1))) = true then (if t239 = bt250.1 then (some false) else (some (bt250.1 != bt259.1))) else (some false)) else (some false)) else (some false))) else (if ((t239 == bt245.1) == false) = true then (if ((bt250.1 == bt255.1) == false) = true then (if ((bt259.1 == bt263.1) == ((rd l0 1) == (rd l1 1))) = true then (if t239 = bt250.1 then (some false) else (some (bt250.1 != bt259.1))) else (some false)) else (some false)) else (some false)))))) else (if t239 = 0 then (some false) else (if bt250.1 = 0 then (some false) else (if bt259.1 = 0 then (some false) else (if ((t239 == bt245.1) == false) = true then (if ((bt250.1 == bt255.1) == false) = true then (if ((bt259.1 == bt263.1) == false) = true then (if t239 = bt250.1 then (some false) else (some (bt250.1 != bt259.1))) else (some false)) else (some false)) else (some false))))))))) else (none))) else (none))) else (none)) else (none)) else (none)) else (none)) = some r := H
         have A23 := Aside0.mk A230
         clear A230
         by_cases c24 : 3 < (l1.length : Int)
         ·
          rw [if_pos c24] at H
          have c24b0 : decide (3 < (l1.length : Int)) = true := decide_eq_true c24
          have c24b1 : decide (3 < l1.length) = true := decide_eq_true (by omega)
          clear c24
          by_cases c25 : 4 < (l1.length : Int)
          ·
           rw [if_pos c25] at H
           have c25b0 : decide (4 < (l1.length : Int)) = true := decide_eq_true c25
           have c25b1 : decide (4 < l1.length) = true := decide_eq_true (by omega)
           clear c25
           by_cases c26 : 0 < (l1.length : Int)
           ·
            rw [if_pos c26] at H
            have c26b0 : decide (0 < (l1.length : Int)) = true := decide_eq_true c26
            have c26b1 : decide (0 < l1.length) = true := decide_eq_true (by omega)
            clear c26
            by_cases c27 : 1 < (l1.length : Int)
            ·
             rw [if_pos c27] at H
             have c27b0 : decide (1 < (l1.length : Int)) = true := decide_eq_true c27
             have c27b1 : decide (1 < l1.length) = true := decide_eq_true (by omega)
             clear c27
             replace H := Option.bind_eq_some_iff.mp H
             obtain ⟨⟨t245, t246⟩, A280, H⟩ := H
             replace H : (if 2 < (l0.length : Int) then ((schedule_Confirmed.f kj4 t246 (rd l0 0) (rd l0 1) (rd l0 2)).bind fun bt250 => (if 2 < (l1.length : Int) then ((schedule_Confirmed.f kj4 bt250.2 (rd l1 0) (rd l1 1) (rd l1 2)).bind fun bt255 => ((schedule_Interim.f kj4 bt255.2 (rd l0 0) (rd l0 1)).bind fun bt259 => ((schedule_Interim.f kj4 bt259.2 (rd l1 0) (rd l1 1)).bind fun bt263 => (if (rd l0 0) = (rd l1 0) then (if t239 = 0 then (some false) else (if bt250.1 = 0 then (some false) else (if bt259.1 = 0 then (some false) else (if (rd l0 1) = (rd l1 1) then (if (rd l0 3) = (rd l1 3) then (if ((t239 == t245) == ((rd l0 4) == (rd l1 4))) = true then (if ((bt250.1 == bt255.1) == ((rd l0 2) == (rd l1 2))) = true then (if ((bt259.1 == bt263.1) == ((rd l0 1) == (rd l1 1))) = true then (if t239 = bt250.1 then (some false) else (some (bt250.1 != bt259.1))) else (some false)) else (some false)) else (some false)) else (if ((t239 == t245) == false) = true then (if ((bt250.1 == bt255.1) == ((rd l0 2) == (rd l1 2))) = true then (if ((bt259.1 == bt263.1) == ((rd l0 1) == (rd l1 1))) = true then (if t239 = bt250.1 then (some false) else (some (bt250.1 != bt259.1))) else (some false)) else (some false)) else (some false))) else (if ((t239 == t245) == false) = true then (if ((bt250.1 == bt255.1) == false) = true then (if ((bt259.1 == bt263.1) == ((rd l0 1) == (rd l1 1))) = true then (if t239 = bt250.1 then (some false) else (some (bt250.1 != bt259.1))) else (some false)) else (some false)) else (some false)))))) else (if t239 = 0 then (some false) else (if bt250.1 = 0 then (some false) else (if bt259.1 = 0 then (some false) else (if ((t239 == t245) == false) = true then (if ((bt250.1 == bt255.1) == false) = true then (if ((bt259.1 == bt263.1) == false) = true then (if t239 = bt250.1 then (some false) else (some (bt250.1 != bt259.1))) else (some false)) else (some false)) else (some false))))))))) else (none))) else (none)) = some r := H
             have A28 := Aside0.mk A280
             clear A280
             by_cases c29 : 2 < (l0.length : Int)
             ·
              rw [if_pos c29] at H
              have c29b0 : decide (2 < (l0.length : Int)) = true := decide_eq_true c29
              have c29b1 : decide (2 < l0.length) = true := decide_eq_true (by omega)
              clear c29
              replace H := Option.bind_eq_some_iff.mp H
              obtain ⟨⟨t250, t251⟩, A300, H⟩ := H
              replace H : (if 2 < (l1.length : Int) then ((schedule_Confirmed.f kj4 t251 (rd l1 0) (rd l1 1) (rd l1 2)).bind fun bt255 => ((schedule_Interim.f kj4 bt255.2 (rd l0 0) (rd l0 1)).bind fun bt259 => ((schedule_Interim.f kj4 bt259.2 (rd l1 0) (rd l1 1)).bind fun bt263 => (if (rd l0 0) = (rd l1 0) then (if t239 = 0 then (some false) else (if t250 = 0 then (some false) else (if bt259.1 = 0 then (some false) else (if (rd l0 1) = (rd l1 1) then (if (rd l0 3) = (rd l1 3) then (if ((t239 == t245) == ((rd l0 4) == (rd l1 4))) = true then (if ((t250 == bt255.1) == ((rd l0 2) == (rd l1 2))) = true then (if ((bt259.1 == bt263.1) == ((rd l0 1) == (rd l1 1))) = true then (if t239 = t250 then (some false) else (some (t250 != bt259.1))) else (some false)) else (some false)) else (some false)) else (if ((t239 == t245) == false) = true then (if ((t250 == bt255.1) == ((rd l0 2) == (rd l1 2))) = true then (if ((bt259.1 == bt263.1) == ((rd l0 1) == (rd l1 1))) = true then (if t239 = t250 then (some false) else (some (t250 != bt259.1))) else (some false)) else (some false)) else (some false))) else (if ((t239 == t245) == false) = true then (if ((t250 == bt255.1) == false) = true then (if ((bt259.1 == bt263.1) == ((rd l0 1) == (rd l1 1))) = true then (if t239 = t250 then (some false) else (some (t250 != bt259.1))) else (some false)) else (some false)) else (some false)))))) else (if t239 = 0 then (some false) else (if t250 = 0 then (some false) else (if bt259.1 = 0 then (some false) else (if ((t239 == t245) == false) = true then (if ((t250 == bt255.1) == false) = true then (if ((bt259.1 == bt263.1) == false) = true then (if t239 = t250 then (some false) else (some (t250 != bt259.1))) else (some false)) else (some false)) else (some false))))))))) else (none)) = some r := H
              have A30 := Aside0.mk A300
              clear A300
              by_cases c31 : 2 < (l1.length : Int)
              ·
               rw [if_pos c31] at H
               have c31b0 : decide (2 < (l1.length : Int)) = true := decide_eq_true c31
               have c31b1 : decide (2 < l1.length) = true := decide_eq_true (by omega)
               clear c31
               replace H := Option.bind_eq_some_iff.mp H
               obtain ⟨⟨t255, t256⟩, A320, H⟩ := H
               replace H : ((schedule_Interim.f kj4 t256 (rd l0 0) (rd l0 1)).bind fun bt259 => ((schedule_Interim.f kj4 bt259.2 (rd l1 0) (rd l1 1)).bind fun bt263 => (if (rd l0 0) = (rd l1 0) then (if t239 = 0 then (some false) else (if t250 = 0 then (some false) else (if bt259.1 = 0 then (some false) else (if (rd l0 1) = (rd l1 1) then (if (rd l0 3) = (rd l1 3) then (if ((t239 == t245) == ((rd l0 4) == (rd l1 4))) = true then (if ((t250 == t255) == ((rd l0 2) == (rd l1 2))) = true then (if ((bt259.1 == bt263.1) == ((rd l0 1) == (rd l1 1))) = true then (if t239 = t250 then (some false) else (some (t250 != bt259.1))) else (some false)) else (some false)) else (some false)) else (if ((t239 == t245) == false) = true then (if ((t250 == t255) == ((rd l0 2) == (rd l1 2))) = true then (if ((bt259.1 == bt263.1) == ((rd l0 1) == (rd l1 1))) = true then (if t239 = t250 then (some false) else (some (t250 != bt259.1))) else (some false)) else (some false)) else (some false))) else (if ((t239 == t245) == false) = true then (if ((t250 == t255) == false) = true then (if ((bt259.1 == bt263.1) == ((rd l0 1) == (rd l1 1))) = true then (if t239 = t250 then (some false) else (some (t250 != bt259.1))) else (some false)) else (some false)) else (some false)))))) else (if t239 = 0 then (some false) else (if t250 = 0 then (some false) else (if bt259.1 = 0 then (some false) else (if ((t239 == t245) == false) = true then (if ((t250 == t255) == false) = true then (if ((bt259.1 == bt263.1) == false) = true then (if t239 = t250 then (some false) else (some (t250 != bt259.1))) else (some false)) else (some false)) else (some false)))))))) = some r := H
               have A32 := Aside0.mk A320
               clear A320
               replace H := Option.bind_eq_some_iff.mp H
               obtain ⟨⟨t259, t260⟩, A330, H⟩ := H
               replace H : ((schedule_Interim.f kj4 t260 (rd l1 0) (rd l1 1)).bind fun bt263 => (if (rd l0 0) = (rd l1 0) then (if t239 = 0 then (some false) else (if t250 = 0 then (some false) else (if t259 = 0 then (some false) else (if (rd l0 1) = (rd l1 1) then (if (rd l0 3) = (rd l1 3) then (if ((t239 == t245) == ((rd l0 4) == (rd l1 4))) = true then (if ((t250 == t255) == ((rd l0 2) == (rd l1 2))) = true then (if ((t259 == bt263.1) == ((rd l0 1) == (rd l1 1))) = true then (if t239 = t250 then (some false) else (some (t250 != t259))) else (some false)) else (some false)) else (some false)) else (if ((t239 == t245) == false) = true then (if ((t250 == t255) == ((rd l0 2) == (rd l1 2))) = true then (if ((t259 == bt263.1) == ((rd l0 1) == (rd l1 1))) = true then (if t239 = t250 then (some false) else (some (t250 != t259))) else (some false)) else (some false)) else (some false))) else (if ((t239 == t245) == false) = true then (if ((t250 == t255) == false) = true then (if ((t259 == bt263.1) == ((rd l0 1) == (rd l1 1))) = true then (if t239 = t250 then (some false) else (some (t250 != t259))) else (some false)) else (some false)) else (some false)))))) else (if t239 = 0 then (some false) else (if t250 = 0 then (some false) else (if t259 = 0 then (some false) else (if ((t239 == t245) == false) = true then (if ((t250 == t255) == false) = true then (if ((t259 == bt263.1) == false) = true then (if t239 = t250 then (some false) else (some (t250 != t259))) else (some false)) else (some false)) else (some false))))))) = some r := H
               have A33 := Aside0.mk A330
               clear A330
               replace H := Option.bind_eq_some_iff.mp H
               obtain ⟨⟨t263, t264⟩, A340, H⟩ := H
               replace H : (if (rd l0 0) = (rd l1 0) then (if t239 = 0 then (some false) else (if t250 = 0 then (some false) else (if t259 = 0 then (some false) else (if (rd l0 1) = (rd l1 1) then (if (rd l0 3) = (rd l1 3) then (if ((t239 == t245) == ((rd l0 4) == (rd l1 4))) = true then (if ((t250 == t255) == ((rd l0 2) == (rd l1 2))) = true then (if ((t259 == t263) == ((rd l0 1) == (rd l1 1))) = true then (if t239 = t250 then (some false) else (some (t250 != t259))) else (some false)) else (some false)) else (some false)) else (if ((t239 == t245) == false) = true then (if ((t250 == t255) == ((rd l0 2) == (rd l1 2))) = true then (if ((t259 == t263) == ((rd l0 1) == (rd l1 1))) = true then (if t239 = t250 then (some false) else (some (t250 != t259))) else (some false)) else (some false)) else (some false))) else (if ((t239 == t245) == false) = true then (if ((t250 == t255) == false) = true then (if ((t259 == t263) == ((rd l0 1) == (rd l1 1))) = true then (if t239 = t250 then (some false) else (some (t250 != t259))) else (some false)) else (some false)) else (some false)))))) else (if t239 = 0 then (some false) else (if t250 = 0 then (some false) else (if t259 = 0 then (some false) else (if ((t239 == t245) == false) = true then (if ((t250 == t255) == false) = true then (if ((t259 == t263) == false) = true then (if t239 = t250 then (some false) else (some (t250 != t259))) else (some false)) else (some false)) else (some false)))))) = some r := H
               have A34 := Aside0.mk A340
               clear A340
               by_cases c35 : (rd l0 0) = (rd l1 0)
               ·
                rw [if_pos c35] at H
                have c35b0 : ((rd l0 0) == (rd l1 0)) = true := beq_iff_eq.mpr c35
                have c35b1 : ((rd l0 0) != (rd l1 0)) = false := bne_eq_false_iff_eq.mpr c35
                clear c35
                by_cases c36 : t239 = 0
                ·
                 rw [if_pos c36] at H
                 exact absurd ((Option.some.inj H).trans hr) Bool.false_ne_true
                ·
                 rw [if_neg c36] at H
                 have c36b0 : (t239 == 0) = false := beq_eq_false_iff_ne.mpr c36
                 have c36b1 : (t239 != 0) = true := bne_iff_ne.mpr c36
                 by_cases c49 : t250 = 0
                 ·
                  rw [if_pos c49] at H
                  exact absurd ((Option.some.inj H).trans hr) Bool.false_ne_true
                 ·
                  rw [if_neg c49] at H
                  have c49b0 : (t250 == 0) = false := beq_eq_false_iff_ne.mpr c49
                  have c49b1 : (t250 != 0) = true := bne_iff_ne.mpr c49
                  by_cases c62 : t259 = 0
                  ·
                   rw [if_pos c62] at H
                   exact absurd ((Option.some.inj H).trans hr) Bool.false_ne_true
                  ·
                   rw [if_neg c62] at H
                   have c62b0 : (t259 == 0) = false := beq_eq_false_iff_ne.mpr c62
                   have c62b1 : (t259 != 0) = true := bne_iff_ne.mpr c62
                   by_cases c75 : (rd l0 1) = (rd l1 1)
                   ·
                    have hP := HP.out
                    clear H HP
                    exfalso
                    omega
                   ·
                    rw [if_neg c75] at H
                    have c75b0 : ((rd l0 1) == (rd l1 1)) = false := beq_eq_false_iff_ne.mpr c75
                    have c75b1 : ((rd l0 1) != (rd l1 1)) = true := bne_iff_ne.mpr c75
                    by_cases c205 : ((t239 == t245) == false) = true
                    ·
                     rw [if_pos c205] at H
                     have c205b0 : ((t239 == t245) == false) = true := c205
                     (try (have c205b1 : decide ((t239 == t245) = false) = true := by simpa using c205))
                     (try (have c205b2 : ((t239 == t245) == false) = true := by simpa using c205))
                     clear c205
                     by_cases c206 : ((t250 == t255) == false) = true
                     ·
                      rw [if_pos c206] at H
                      have c206b0 : ((t250 == t255) == false) = true := c206
                      (try (have c206b1 : decide ((t250 == t255) = false) = true := by simpa using c206))
                      (try (have c206b2 : ((t250 == t255) == false) = true := by simpa using c206))
                      clear c206
                      by_cases c207 : ((t259 == t263) == ((rd l0 1) == (rd l1 1))) = true
                      ·
                       rw [if_pos c207] at H
                       have c207b0 : ((t259 == t263) == ((rd l0 1) == (rd l1 1))) = true := c207
                       (try (have c207b3 : (t259 == t263) = true := by simpa [*] using c207b0))
                       (try (have c207b4 : decide (t259 = t263) = true := by simpa using c207b3))
                       (try (have c207b5 : (t259 == t263) = false := by simpa [*] using c207b0))
                       (try (have c207b6 : decide (t259 = t263) = false := by simpa using c207b5))
                       (try (have c207b7 : (!decide (t259 = t263)) = true := by simpa using c207b6))
                       (try (have c207b8 : (decide (t259 = t263) == false) = true := by simpa using c207b6))
                       (try (have c207b1 : decide ((t259 == t263) = ((rd l0 1) == (rd l1 1))) = true := by simpa using c207))
                       (try (have c207b2 : ((t259 == t263) == ((rd l0 1) == (rd l1 1))) = true := by simpa using c207))
                       clear c207
                       by_cases c208 : t239 = t250
                       ·
                        rw [if_pos c208] at H
                        exact absurd ((Option.some.inj H).trans hr) Bool.false_ne_true
                       ·
                        rw [if_neg c208] at H
                        have c208b0 : (t239 == t250) = false := beq_eq_false_iff_ne.mpr c208
                        have c208b1 : (t239 != t250) = true := bne_iff_ne.mpr c208
                        obtain rfl := Option.some.inj H
                        try exact absurd hr Bool.false_ne_true
                        all_goals
                         try go_wp2_with (first | ((with_reducible refine gate_callee (f := 8) rfl ?_); refine goesL_ (some 37) rfl rfl Tryd.func8 (by kernel_rfl) rfl #[.int .i64 9] rfl (by (try simp only [List.map_toArray, List.map_cons, List.map_nil]); first | done | rfl | (simp only [List.length_drop, List.length_take]; rfl)) ?_; (with_reducible refine (conclavelaw07_stores.calls 9 t233 w _ ?side1 A18.out).mono ?_); (case side1 => repeat (first | (with_reducible first | exact HB.out | apply below_alloc | apply pw_below_drewN | apply below_drew1) | exact HB.out)); rintro e w221 ⟨g234, rfl, hi, hb, hb2⟩; refine ⟨_, rfl, ?_⟩; have n0_ := Aside0.mk (hb); have n1_ := Aside0.mk (hi); clear HB; have HB := n0_; have HI234 := n1_; clear n0_ n1_; (try clear hb); (try clear hb2); (try clear hk); (try clear hi)))
                         have n0_ := Aside0.mk (IsS80.drew HI234.out)
                         have n1_ := Aside0.mk (below_drew1 HB.out)
                         clear HI234
                         clear HB
                         have HI234 := n0_
                         have HB := n1_
                         clear n0_ n1_
                         have p235 : 0 ≤ (3 : Int) := (by omega)
                         have q235 : 3 < (l0.length : Int) := of_decide_eq_true (by first | (with_reducible assumption) | assumption)
                         obtain ⟨ad235, e235, hx235_0⟩ := Kd.at_int HR0.out 3 p235 q235
                         have hw235_0 := hx235_0
                         (try rw [show ((3 : Int)).toNat = 3 from rfl] at hw235_0)
                         (try rw [show 3 * 1 = 3 from rfl] at hw235_0)
                         (try simp only [Nat.reduceMul, Nat.reduceEqDiff, Go.Addr.add, ↓reduceIte] at hw235_0)
                         cases e235
                         (try simp only [show (3 : Int).toNat = 3 from rfl, Nat.reduceMul, Nat.reduceEqDiff, Go.Addr.add, ↓reduceIte] at hx235_0)
                         have qi235 : (3 < l0.length) = True := eq_true (by omega)
                         (try rw [show ((3 : Int)).toNat = 3 from rfl] at hx235_0)
                         replace hx235_0 := (HB.out.cell (World.block_lt_of_cell? w _ hx235_0)).trans hx235_0
                         replace p235 := eq_true p235
                         replace q235 := eq_true q235
                         have p236 : 0 ≤ (4 : Int) := (by omega)
                         have q236 : 4 < (l0.length : Int) := of_decide_eq_true (by first | (with_reducible assumption) | assumption)
                         obtain ⟨ad236, e236, hx236_0⟩ := Kd.at_int HR0.out 4 p236 q236
                         have hw236_0 := hx236_0
                         (try rw [show ((4 : Int)).toNat = 4 from rfl] at hw236_0)
                         (try rw [show 4 * 1 = 4 from rfl] at hw236_0)
                         (try simp only [Nat.reduceMul, Nat.reduceEqDiff, Go.Addr.add, ↓reduceIte] at hw236_0)
                         obtain rfl : ad235 = ad236 := (by injection e236)
                         (try simp only [show (4 : Int).toNat = 4 from rfl, Nat.reduceMul, Nat.reduceEqDiff, Go.Addr.add, ↓reduceIte] at hx236_0)
                         have qi236 : (4 < l0.length) = True := eq_true (by omega)
                         (try rw [show ((4 : Int)).toNat = 4 from rfl] at hx236_0)
                         replace hx236_0 := (HB.out.cell (World.block_lt_of_cell? w _ hx236_0)).trans hx236_0
                         replace p236 := eq_true p236
                         replace q236 := eq_true q236
                         have p237 : 0 ≤ (0 : Int) := (by omega)
                         have q237 : 0 < (l0.length : Int) := of_decide_eq_true (by first | (with_reducible assumption) | assumption)
                         obtain ⟨ad237, e237, hx237_0⟩ := Kd.at_int HR0.out 0 p237 q237
                         have hw237_0 := hx237_0
                         (try rw [show ((0 : Int)).toNat = 0 from rfl] at hw237_0)
                         (try rw [show 0 * 1 = 0 from rfl] at hw237_0)
                         (try rw [Addr.add_zero'] at hw237_0)
                         obtain rfl : ad235 = ad237 := (by injection e237)
                         have qi237 : (0 < l0.length) = True := eq_true (by omega)
                         (try rw [show ((0 : Int)).toNat = 0 from rfl] at hx237_0)
                         (try rw [Addr.add_zero'] at hx237_0)
                         replace hx237_0 := (HB.out.cell (World.block_lt_of_cell? w _ hx237_0)).trans hx237_0
                         replace p237 := eq_true p237
                         replace q237 := eq_true q237
                         have p238 : 0 ≤ (1 : Int) := (by omega)
                         have q238 : 1 < (l0.length : Int) := of_decide_eq_true (by first | (with_reducible assumption) | assumption)
                         obtain ⟨ad238, e238, hx238_0⟩ := Kd.at_int HR0.out 1 p238 q238
                         have hw238_0 := hx238_0
                         (try rw [show ((1 : Int)).toNat = 1 from rfl] at hw238_0)
                         (try rw [show 1 * 1 = 1 from rfl] at hw238_0)
                         (try simp only [Nat.reduceMul, Nat.reduceEqDiff, Go.Addr.add, ↓reduceIte] at hw238_0)
                         obtain rfl : ad235 = ad238 := (by injection e238)
                         (try simp only [show (1 : Int).toNat = 1 from rfl, Nat.reduceMul, Nat.reduceEqDiff, Go.Addr.add, ↓reduceIte] at hx238_0)
                         have qi238 : (1 < l0.length) = True := eq_true (by omega)
                         (try rw [show ((1 : Int)).toNat = 1 from rfl] at hx238_0)
                         replace hx238_0 := (HB.out.cell (World.block_lt_of_cell? w _ hx238_0)).trans hx238_0
                         replace p238 := eq_true p238
                         replace q238 := eq_true q238
                         have p241 : 0 ≤ (3 : Int) := (by omega)
                         have q241 : 3 < (l1.length : Int) := of_decide_eq_true (by first | (with_reducible assumption) | assumption)
                         obtain ⟨ad241, e241, hx241_0⟩ := Kd.at_int HR1.out 3 p241 q241
                         have hw241_0 := hx241_0
                         (try rw [show ((3 : Int)).toNat = 3 from rfl] at hw241_0)
                         (try rw [show 3 * 1 = 3 from rfl] at hw241_0)
                         (try simp only [Nat.reduceMul, Nat.reduceEqDiff, Go.Addr.add, ↓reduceIte] at hw241_0)
                         cases e241
                         (try simp only [show (3 : Int).toNat = 3 from rfl, Nat.reduceMul, Nat.reduceEqDiff, Go.Addr.add, ↓reduceIte] at hx241_0)
                         have qi241 : (3 < l1.length) = True := eq_true (by omega)
                         (try rw [show ((3 : Int)).toNat = 3 from rfl] at hx241_0)
                         replace hx241_0 := (HB.out.cell (World.block_lt_of_cell? w _ hx241_0)).trans hx241_0
                         replace p241 := eq_true p241
                         replace q241 := eq_true q241
                         have p242 : 0 ≤ (4 : Int) := (by omega)
                         have q242 : 4 < (l1.length : Int) := of_decide_eq_true (by first | (with_reducible assumption) | assumption)
                         obtain ⟨ad242, e242, hx242_0⟩ := Kd.at_int HR1.out 4 p242 q242
                         have hw242_0 := hx242_0
                         (try rw [show ((4 : Int)).toNat = 4 from rfl] at hw242_0)
                         (try rw [show 4 * 1 = 4 from rfl] at hw242_0)
                         (try simp only [Nat.reduceMul, Nat.reduceEqDiff, Go.Addr.add, ↓reduceIte] at hw242_0)
                         obtain rfl : ad241 = ad242 := (by injection e242)
                         (try simp only [show (4 : Int).toNat = 4 from rfl, Nat.reduceMul, Nat.reduceEqDiff, Go.Addr.add, ↓reduceIte] at hx242_0)
                         have qi242 : (4 < l1.length) = True := eq_true (by omega)
                         (try rw [show ((4 : Int)).toNat = 4 from rfl] at hx242_0)
                         replace hx242_0 := (HB.out.cell (World.block_lt_of_cell? w _ hx242_0)).trans hx242_0
                         replace p242 := eq_true p242
                         replace q242 := eq_true q242
                         have p243 : 0 ≤ (0 : Int) := (by omega)
                         have q243 : 0 < (l1.length : Int) := of_decide_eq_true (by first | (with_reducible assumption) | assumption)
                         obtain ⟨ad243, e243, hx243_0⟩ := Kd.at_int HR1.out 0 p243 q243
                         have hw243_0 := hx243_0
                         (try rw [show ((0 : Int)).toNat = 0 from rfl] at hw243_0)
                         (try rw [show 0 * 1 = 0 from rfl] at hw243_0)
                         (try rw [Addr.add_zero'] at hw243_0)
                         obtain rfl : ad241 = ad243 := (by injection e243)
                         have qi243 : (0 < l1.length) = True := eq_true (by omega)
                         (try rw [show ((0 : Int)).toNat = 0 from rfl] at hx243_0)
                         (try rw [Addr.add_zero'] at hx243_0)
                         replace hx243_0 := (HB.out.cell (World.block_lt_of_cell? w _ hx243_0)).trans hx243_0
                         replace p243 := eq_true p243
                         replace q243 := eq_true q243
                         have p244 : 0 ≤ (1 : Int) := (by omega)
                         have q244 : 1 < (l1.length : Int) := of_decide_eq_true (by first | (with_reducible assumption) | assumption)
                         obtain ⟨ad244, e244, hx244_0⟩ := Kd.at_int HR1.out 1 p244 q244
                         have hw244_0 := hx244_0
                         (try rw [show ((1 : Int)).toNat = 1 from rfl] at hw244_0)
                         (try rw [show 1 * 1 = 1 from rfl] at hw244_0)
                         (try simp only [Nat.reduceMul, Nat.reduceEqDiff, Go.Addr.add, ↓reduceIte] at hw244_0)
                         obtain rfl : ad241 = ad244 := (by injection e244)
                         (try simp only [show (1 : Int).toNat = 1 from rfl, Nat.reduceMul, Nat.reduceEqDiff, Go.Addr.add, ↓reduceIte] at hx244_0)
                         have qi244 : (1 < l1.length) = True := eq_true (by omega)
                         (try rw [show ((1 : Int)).toNat = 1 from rfl] at hx244_0)
                         replace hx244_0 := (HB.out.cell (World.block_lt_of_cell? w _ hx244_0)).trans hx244_0
                         replace p244 := eq_true p244
                         replace q244 := eq_true q244
                         refine start_ (n := 30) (S := fun w' => w'.cell? ⟨ad235.block, ad235.off + 3, none⟩ = some (.int .i64 (rd l0 3)) ∧ w'.cell? ⟨ad235.block, ad235.off + 4, none⟩ = some (.int .i64 (rd l0 4)) ∧ w'.cell? ad235 = some (.int .i64 (rd l0 0)) ∧ w'.cell? ⟨ad235.block, ad235.off + 1, none⟩ = some (.int .i64 (rd l0 1)) ∧ w'.cell? ⟨ad241.block, ad241.off + 3, none⟩ = some (.int .i64 (rd l1 3)) ∧ w'.cell? ⟨ad241.block, ad241.off + 4, none⟩ = some (.int .i64 (rd l1 4)) ∧ w'.cell? ad241 = some (.int .i64 (rd l1 0)) ∧ w'.cell? ⟨ad241.block, ad241.off + 1, none⟩ = some (.int .i64 (rd l1 1))) (ds := []) #[false,false,false,false,false,false,false,false,false,false,false,false,false,false,false,false,false,false,false,false,false,false,false,false,false,false,false,false,false,false] (by kernel_rfl) rfl rfl ⟨((HB.out.cell (World.block_lt_of_cell? w _ hw235_0)).trans hw235_0), ((HB.out.cell (World.block_lt_of_cell? w _ hw236_0)).trans hw236_0), ((HB.out.cell (World.block_lt_of_cell? w _ hw237_0)).trans hw237_0), ((HB.out.cell (World.block_lt_of_cell? w _ hw238_0)).trans hw238_0), ((HB.out.cell (World.block_lt_of_cell? w _ hw241_0)).trans hw241_0), ((HB.out.cell (World.block_lt_of_cell? w _ hw242_0)).trans hw242_0), ((HB.out.cell (World.block_lt_of_cell? w _ hw243_0)).trans hw243_0), ((HB.out.cell (World.block_lt_of_cell? w _ hw244_0)).trans hw244_0)⟩ (fun hHeld => ?_); refine with_tabW conclavelaw07_ScheduleBinds.tab8 conclavelaw07_ScheduleBinds.bits8 (fun HT_ HW_ => ?_)
                         generalize w221.drew = w222 at HI234 HB hx235_0 hx236_0 hx237_0 hx238_0 hx241_0 hx242_0 hx243_0 hx244_0 hHeld ⊢
                         refine pure_ (i := 0) (N := some 42) (v := ?_) (a' := ?_) #[true,false,false,false,false,false,false,false,false,false,false,false,false,false,false,false,false,false,false,false,false,false,false,false,false,false,false,false,false,false] rfl rfl (any_of HT_.out (by kernel_rfl)) (fun _ _ _ h => h) (Or.inl ⟨by rfl, ?_⟩) ?_ ?_
                         rotate_left; (intro w'; go_simp; with_reducible rfl); rotate_left; (simp only [Act.put, List.setIfInBounds_toArray, List.set_cons_zero, List.set_cons_succ, i64_w, i32_w]; rfl)
                         refine pure_ (i := 1) (N := some 43) (v := ?_) (a' := ?_) #[true,true,false,false,false,false,false,false,false,false,false,false,false,false,false,false,false,false,false,false,false,false,false,false,false,false,false,false,false,false] rfl rfl (any_of HT_.out (by kernel_rfl)) (fun _ _ _ h => h) (Or.inl ⟨by rfl, ?_⟩) ?_ ?_
                         rotate_left; (intro w'; go_simp; with_reducible rfl); rotate_left; (simp only [Act.put, List.setIfInBounds_toArray, List.set_cons_zero, List.set_cons_succ, i64_w, i32_w]; rfl)
                         refine pure_ (i := 2) (N := some 44) (v := ?_) (a' := ?_) #[true,true,true,false,false,false,false,false,false,false,false,false,false,false,false,false,false,false,false,false,false,false,false,false,false,false,false,false,false,false] rfl rfl (any_of HT_.out (by kernel_rfl)) (fun _ _ _ h => h) (Or.inl ⟨by rfl, ?_⟩) ?_ ?_
                         rotate_left; (intro w'; go_simp; with_reducible rfl); rotate_left; (simp only [Act.put, List.setIfInBounds_toArray, List.set_cons_zero, List.set_cons_succ, i64_w, i32_w]; rfl)
                         refine pure_ (i := 4) (N := some 46) (v := ?_) (a' := ?_) #[true,true,true,false,true,false,false,false,false,false,false,false,false,false,false,false,false,false,false,false,false,false,false,false,false,false,false,false,false,false] rfl rfl (any_of HT_.out (by kernel_rfl)) (fun _ _ _ h => h) (Or.inl ⟨by rfl, ?_⟩) ?_ ?_
                         rotate_left; (intro w'; go_simp; with_reducible rfl); rotate_left; (simp only [Act.put, List.setIfInBounds_toArray, List.set_cons_zero, List.set_cons_succ, i64_w, i32_w]; rfl)
                         refine pure_ (i := 5) (N := some 47) (v := ?_) (a' := ?_) #[true,true,true,false,true,true,false,false,false,false,false,false,false,false,false,false,false,false,false,false,false,false,false,false,false,false,false,false,false,false] rfl rfl (any_of HT_.out (by kernel_rfl)) (fun _ _ _ h => h) (Or.inl ⟨by rfl, ?_⟩) ?_ ?_
                         rotate_left; (intro w'; go_simp; with_reducible rfl); rotate_left; (simp only [Act.put, List.setIfInBounds_toArray, List.set_cons_zero, List.set_cons_succ, i64_w, i32_w]; rfl)
                         refine pure_ (i := 7) (N := some 49) (v := ?_) (a' := ?_) #[true,true,true,false,true,true,false,true,false,false,false,false,false,false,false,false,false,false,false,false,false,false,false,false,false,false,false,false,false,false] rfl rfl (any_of HT_.out (by kernel_rfl)) (fun _ _ _ h => h) (Or.inl ⟨by rfl, ?_⟩) ?_ ?_
                         rotate_left; (intro w'; go_simp; with_reducible rfl); rotate_left; (simp only [Act.put, List.setIfInBounds_toArray, List.set_cons_zero, List.set_cons_succ, i64_w, i32_w]; rfl)
                         refine pure_ (i := 8) (N := some 50) (v := ?_) (a' := ?_) #[true,true,true,false,true,true,false,true,true,false,false,false,false,false,false,false,false,false,false,false,false,false,false,false,false,false,false,false,false,false] rfl rfl (any_of HT_.out (by kernel_rfl)) (fun _ _ _ h => h) (Or.inl ⟨by rfl, ?_⟩) ?_ ?_
                         rotate_left; (intro w'; go_simp; with_reducible rfl); rotate_left; (simp only [Act.put, List.setIfInBounds_toArray, List.set_cons_zero, List.set_cons_succ, i64_w, i32_w]; rfl)
                         refine pure_ (i := 10) (N := some 52) (v := ?_) (a' := ?_) #[true,true,true,false,true,true,false,true,true,false,true,false,false,false,false,false,false,false,false,false,false,false,false,false,false,false,false,false,false,false] rfl rfl (any_of HT_.out (by kernel_rfl)) (fun _ _ _ h => h) (Or.inl ⟨by rfl, ?_⟩) ?_ ?_
                         rotate_left; (intro w'; go_simp; with_reducible rfl); rotate_left; (simp only [Act.put, List.setIfInBounds_toArray, List.set_cons_zero, List.set_cons_succ, i64_w, i32_w]; rfl)
                         refine pure_ (i := 11) (N := some 53) (v := ?_) (a' := ?_) #[true,true,true,false,true,true,false,true,true,false,true,true,false,false,false,false,false,false,false,false,false,false,false,false,false,false,false,false,false,false] rfl rfl (any_of HT_.out (by kernel_rfl)) (fun _ _ _ h => h) (Or.inl ⟨by rfl, ?_⟩) ?_ ?_
                         rotate_left; (intro w'; go_simp; with_reducible rfl); rotate_left; (simp only [Act.put, List.setIfInBounds_toArray, List.set_cons_zero, List.set_cons_succ, i64_w, i32_w]; rfl)
                         refine pure_ (i := 14) (N := some 56) (v := ?_) (a' := ?_) #[true,true,true,false,true,true,false,true,true,false,true,true,false,false,true,false,false,false,false,false,false,false,false,false,false,false,false,false,false,false] rfl rfl (any_of HT_.out (by kernel_rfl)) (fun _ _ _ h => h) (Or.inl ⟨by rfl, ?_⟩) ?_ ?_
                         rotate_left; (intro w'; go_simp; with_reducible rfl); rotate_left; (simp only [Act.put, List.setIfInBounds_toArray, List.set_cons_zero, List.set_cons_succ, i64_w, i32_w]; rfl)
                         refine pure_ (i := 15) (N := some 57) (v := ?_) (a' := ?_) #[true,true,true,false,true,true,false,true,true,false,true,true,false,false,true,true,false,false,false,false,false,false,false,false,false,false,false,false,false,false] rfl rfl (any_of HT_.out (by kernel_rfl)) (fun _ _ _ h => h) (Or.inl ⟨by rfl, ?_⟩) ?_ ?_
                         rotate_left; (intro w'; go_simp; with_reducible rfl); rotate_left; (simp only [Act.put, List.setIfInBounds_toArray, List.set_cons_zero, List.set_cons_succ, i64_w, i32_w]; rfl)
                         refine pure_ (i := 16) (N := some 58) (v := ?_) (a' := ?_) #[true,true,true,false,true,true,false,true,true,false,true,true,false,false,true,true,true,false,false,false,false,false,false,false,false,false,false,false,false,false] rfl rfl (any_of HT_.out (by kernel_rfl)) (fun _ _ _ h => h) (Or.inl ⟨by rfl, ?_⟩) ?_ ?_
                         rotate_left; (intro w'; go_simp; with_reducible rfl); rotate_left; (simp only [Act.put, List.setIfInBounds_toArray, List.set_cons_zero, List.set_cons_succ, i64_w, i32_w]; rfl)
                         refine pure_ (i := 18) (N := some 60) (v := ?_) (a' := ?_) #[true,true,true,false,true,true,false,true,true,false,true,true,false,false,true,true,true,false,true,false,false,false,false,false,false,false,false,false,false,false] rfl rfl (any_of HT_.out (by kernel_rfl)) (fun _ _ _ h => h) (Or.inl ⟨by rfl, ?_⟩) ?_ ?_
                         rotate_left; (intro w'; go_simp; with_reducible rfl); rotate_left; (simp only [Act.put, List.setIfInBounds_toArray, List.set_cons_zero, List.set_cons_succ, i64_w, i32_w]; rfl)
                         refine pure_ (i := 19) (N := some 61) (v := ?_) (a' := ?_) #[true,true,true,false,true,true,false,true,true,false,true,true,false,false,true,true,true,false,true,true,false,false,false,false,false,false,false,false,false,false] rfl rfl (any_of HT_.out (by kernel_rfl)) (fun _ _ _ h => h) (Or.inl ⟨by rfl, ?_⟩) ?_ ?_
                         rotate_left; (intro w'; go_simp; with_reducible rfl); rotate_left; (simp only [Act.put, List.setIfInBounds_toArray, List.set_cons_zero, List.set_cons_succ, i64_w, i32_w]; rfl)
                         refine pure_ (i := 21) (N := some 63) (v := ?_) (a' := ?_) #[true,true,true,false,true,true,false,true,true,false,true,true,false,false,true,true,true,false,true,true,false,true,false,false,false,false,false,false,false,false] rfl rfl (any_of HT_.out (by kernel_rfl)) (fun _ _ _ h => h) (Or.inl ⟨by rfl, ?_⟩) ?_ ?_
                         rotate_left; (intro w'; go_simp; with_reducible rfl); rotate_left; (simp only [Act.put, List.setIfInBounds_toArray, List.set_cons_zero, List.set_cons_succ, i64_w, i32_w]; rfl)
                         refine pure_ (i := 22) (N := some 64) (v := ?_) (a' := ?_) #[true,true,true,false,true,true,false,true,true,false,true,true,false,false,true,true,true,false,true,true,false,true,true,false,false,false,false,false,false,false] rfl rfl (any_of HT_.out (by kernel_rfl)) (fun _ _ _ h => h) (Or.inl ⟨by rfl, ?_⟩) ?_ ?_
                         rotate_left; (intro w'; go_simp; with_reducible rfl); rotate_left; (simp only [Act.put, List.setIfInBounds_toArray, List.set_cons_zero, List.set_cons_succ, i64_w, i32_w]; rfl)
                         refine pure_ (i := 24) (N := some 66) (v := ?_) (a' := ?_) #[true,true,true,false,true,true,false,true,true,false,true,true,false,false,true,true,true,false,true,true,false,true,true,false,true,false,false,false,false,false] rfl rfl (any_of HT_.out (by kernel_rfl)) (fun _ _ _ h => h) (Or.inl ⟨by rfl, ?_⟩) ?_ ?_
                         rotate_left; (intro w'; go_simp; with_reducible rfl); rotate_left; (simp only [Act.put, List.setIfInBounds_toArray, List.set_cons_zero, List.set_cons_succ, i64_w, i32_w]; rfl)
                         refine pure_ (i := 25) (N := some 67) (v := ?_) (a' := ?_) #[true,true,true,false,true,true,false,true,true,false,true,true,false,false,true,true,true,false,true,true,false,true,true,false,true,true,false,false,false,false] rfl rfl (any_of HT_.out (by kernel_rfl)) (fun _ _ _ h => h) (Or.inl ⟨by rfl, ?_⟩) ?_ ?_
                         rotate_left; (intro w'; go_simp; with_reducible rfl); rotate_left; (simp only [Act.put, List.setIfInBounds_toArray, List.set_cons_zero, List.set_cons_succ, i64_w, i32_w]; rfl)
                         refine take_ (i := 3) (N := some 45) (v := ?_) (a' := ?_) #[true,true,true,true,true,true,false,true,true,false,true,true,false,false,true,true,true,false,true,true,false,true,true,false,true,true,false,false,false,false] rfl rfl (take_ofW HT_.out HW_.out (by kernel_rfl)) (fun _ _ _ h => h) (Or.inl ⟨by rfl, ?_⟩) hHeld ?_ ?_
                         rotate_left
                         ·
                          rintro w' ⟨s0, s1, s2, s3, s4, s5, s6, s7⟩
                          go_simp
                          with_reducible rfl
                         rotate_left
                         ·
                          simp only [Act.put, List.setIfInBounds_toArray, List.set_cons_zero, List.set_cons_succ, i64_w, i32_w]
                          rfl
                         refine take_ (i := 6) (N := some 48) (v := ?_) (a' := ?_) #[true,true,true,true,true,true,true,true,true,false,true,true,false,false,true,true,true,false,true,true,false,true,true,false,true,true,false,false,false,false] rfl rfl (take_ofW HT_.out HW_.out (by kernel_rfl)) (fun _ _ _ h => h) (Or.inl ⟨by rfl, ?_⟩) hHeld ?_ ?_
                         rotate_left
                         ·
                          rintro w' ⟨s0, s1, s2, s3, s4, s5, s6, s7⟩
                          go_simp
                          with_reducible rfl
                         rotate_left
                         ·
                          simp only [Act.put, List.setIfInBounds_toArray, List.set_cons_zero, List.set_cons_succ, i64_w, i32_w]
                          rfl
                         refine take_ (i := 9) (N := some 51) (v := ?_) (a' := ?_) #[true,true,true,true,true,true,true,true,true,true,true,true,false,false,true,true,true,false,true,true,false,true,true,false,true,true,false,false,false,false] rfl rfl (take_ofW HT_.out HW_.out (by kernel_rfl)) (fun _ _ _ h => h) (Or.inl ⟨by rfl, ?_⟩) hHeld ?_ ?_
                         rotate_left
                         ·
                          rintro w' ⟨s0, s1, s2, s3, s4, s5, s6, s7⟩
                          go_simp
                          with_reducible rfl
                         rotate_left
                         ·
                          simp only [Act.put, List.setIfInBounds_toArray, List.set_cons_zero, List.set_cons_succ, i64_w, i32_w]
                          rfl
                         refine take_ (i := 12) (N := some 54) (v := ?_) (a' := ?_) #[true,true,true,true,true,true,true,true,true,true,true,true,true,false,true,true,true,false,true,true,false,true,true,false,true,true,false,false,false,false] rfl rfl (take_ofW HT_.out HW_.out (by kernel_rfl)) (fun _ _ _ h => h) (Or.inl ⟨by rfl, ?_⟩) hHeld ?_ ?_
                         rotate_left
                         ·
                          rintro w' ⟨s0, s1, s2, s3, s4, s5, s6, s7⟩
                          go_simp
                          with_reducible rfl
                         rotate_left
                         ·
                          simp only [Act.put, List.setIfInBounds_toArray, List.set_cons_zero, List.set_cons_succ, i64_w, i32_w]
                          rfl
                         refine take_ (i := 17) (N := some 59) (v := ?_) (a' := ?_) #[true,true,true,true,true,true,true,true,true,true,true,true,true,false,true,true,true,true,true,true,false,true,true,false,true,true,false,false,false,false] rfl rfl (take_ofW HT_.out HW_.out (by kernel_rfl)) (fun _ _ _ h => h) (Or.inl ⟨by rfl, ?_⟩) hHeld ?_ ?_
                         rotate_left
                         ·
                          rintro w' ⟨s0, s1, s2, s3, s4, s5, s6, s7⟩
                          go_simp
                          with_reducible rfl
                         rotate_left
                         ·
                          simp only [Act.put, List.setIfInBounds_toArray, List.set_cons_zero, List.set_cons_succ, i64_w, i32_w]
                          rfl
                         refine take_ (i := 20) (N := some 62) (v := ?_) (a' := ?_) #[true,true,true,true,true,true,true,true,true,true,true,true,true,false,true,true,true,true,true,true,true,true,true,false,true,true,false,false,false,false] rfl rfl (take_ofW HT_.out HW_.out (by kernel_rfl)) (fun _ _ _ h => h) (Or.inl ⟨by rfl, ?_⟩) hHeld ?_ ?_
                         rotate_left
                         ·
                          rintro w' ⟨s0, s1, s2, s3, s4, s5, s6, s7⟩
                          go_simp
                          with_reducible rfl
                         rotate_left
                         ·
                          simp only [Act.put, List.setIfInBounds_toArray, List.set_cons_zero, List.set_cons_succ, i64_w, i32_w]
                          rfl
                         refine take_ (i := 23) (N := some 65) (v := ?_) (a' := ?_) #[true,true,true,true,true,true,true,true,true,true,true,true,true,false,true,true,true,true,true,true,true,true,true,true,true,true,false,false,false,false] rfl rfl (take_ofW HT_.out HW_.out (by kernel_rfl)) (fun _ _ _ h => h) (Or.inl ⟨by rfl, ?_⟩) hHeld ?_ ?_
                         rotate_left
                         ·
                          rintro w' ⟨s0, s1, s2, s3, s4, s5, s6, s7⟩
                          go_simp
                          with_reducible rfl
                         rotate_left
                         ·
                          simp only [Act.put, List.setIfInBounds_toArray, List.set_cons_zero, List.set_cons_succ, i64_w, i32_w]
                          rfl
                         refine take_ (i := 26) (N := some 68) (v := ?_) (a' := ?_) #[true,true,true,true,true,true,true,true,true,true,true,true,true,false,true,true,true,true,true,true,true,true,true,true,true,true,true,false,false,false] rfl rfl (take_ofW HT_.out HW_.out (by kernel_rfl)) (fun _ _ _ h => h) (Or.inl ⟨by rfl, ?_⟩) hHeld ?_ ?_
                         rotate_left
                         ·
                          rintro w' ⟨s0, s1, s2, s3, s4, s5, s6, s7⟩
                          go_simp
                          with_reducible rfl
                         rotate_left
                         ·
                          simp only [Act.put, List.setIfInBounds_toArray, List.set_cons_zero, List.set_cons_succ, i64_w, i32_w]
                          rfl
                         refine one_ (i := 13) (N := some 55) #[true,true,true,true,true,true,true,true,true,true,true,true,true,true,true,true,true,true,true,true,true,true,true,true,true,true,true,false,false,false] rfl rfl (one_of HT_.out (by kernel_rfl)) (by decide) (fun K hK => ?_)
                         refine goes_ Tryd.func9 (by kernel_rfl) rfl #[.pointer (some ⟨g234, 0, none⟩), .int .i64 (rd l0 3), .int .i64 (rd l0 4), .int .i64 (rd l0 0), .int .i64 (rd l0 1)] (by rfl) rfl rfl (by (try simp only [List.map_toArray, List.map_cons, List.map_nil]); first | done | rfl | (simp only [List.length_drop, List.length_take]; rfl)) ?_
                         with_reducible refine (schedule_Context.calls (hrG := ?sideG) kj4 g234 t233 (rd l0 3) (rd l0 4) (rd l0 0) (rd l0 1) t239 t240 w _ ?side1 ?side2 A23.out).mono ?_
                         (case sideG => (first | (with_reducible exact HRG.out) | exact TabG.below HRG.out (by repeat (first | (with_reducible first | exact HB.out | apply below_alloc | apply pw_below_drewN | apply below_drew1 | refine below_set ?_ (IsS80.ge HI234.out)) | (with_reducible exact Below.refl _ _)))))
                         (case side1 => repeat (first | (with_reducible first | exact HI234.out | apply IsS80.alloc | apply IsS80.drewN | apply IsS80.drew | apply IsS80.set_0) | exact HI234.out))
                         (case side2 => repeat (first | (with_reducible first | exact HB.out | apply below_alloc | apply pw_below_drewN | apply below_drew1 | refine below_set ?_ (IsS80.ge HI234.out)) | exact HB.out))
                         rintro e w223 ⟨rfl, hi, hb, hk⟩
                         refine ⟨_, rfl, ?_⟩
                         have n0_ := Aside0.mk (hb)
                         have n1_ := Aside0.mk (hi)
                         clear HB
                         clear HI234
                         have HB := n0_
                         have HI234 := n1_
                         clear n0_ n1_
                         (try clear hb)
                         (try clear hb2)
                         (try clear hk)
                         (try clear hi)
                         refine hK.out _ _ ⟨((HB.out.cell (World.block_lt_of_cell? w _ hw235_0)).trans hw235_0), ((HB.out.cell (World.block_lt_of_cell? w _ hw236_0)).trans hw236_0), ((HB.out.cell (World.block_lt_of_cell? w _ hw237_0)).trans hw237_0), ((HB.out.cell (World.block_lt_of_cell? w _ hw238_0)).trans hw238_0), ((HB.out.cell (World.block_lt_of_cell? w _ hw241_0)).trans hw241_0), ((HB.out.cell (World.block_lt_of_cell? w _ hw242_0)).trans hw242_0), ((HB.out.cell (World.block_lt_of_cell? w _ hw243_0)).trans hw243_0), ((HB.out.cell (World.block_lt_of_cell? w _ hw244_0)).trans hw244_0)⟩ (fun hHeld => ?_)
                         clear hK K
                         refine norm_ (a' := ?_) ?_ ?_
                         rotate_left
                         ·
                          show Act.put _ (some 55) _ = _
                          simp only [Act.put, List.setIfInBounds_toArray, List.set_cons_zero, List.set_cons_succ, i64_w, i32_w]
                          rfl
                         refine one_ (i := 27) (N := some 69) #[true,true,true,true,true,true,true,true,true,true,true,true,true,true,true,true,true,true,true,true,true,true,true,true,true,true,true,true,false,false] rfl rfl (one_of HT_.out (by kernel_rfl)) (by decide) (fun K hK => ?_)
                         refine goes_ Tryd.func9 (by kernel_rfl) rfl #[.pointer (some ⟨g234, 0, none⟩), .int .i64 (rd l1 3), .int .i64 (rd l1 4), .int .i64 (rd l1 0), .int .i64 (rd l1 1)] (by rfl) rfl rfl (by (try simp only [List.map_toArray, List.map_cons, List.map_nil]); first | done | rfl | (simp only [List.length_drop, List.length_take]; rfl)) ?_
                         with_reducible refine (schedule_Context.calls (hrG := ?sideG) kj4 g234 t240 (rd l1 3) (rd l1 4) (rd l1 0) (rd l1 1) t245 t246 w _ ?side1 ?side2 A28.out).mono ?_
                         (case sideG => (first | (with_reducible exact HRG.out) | exact TabG.below HRG.out (by repeat (first | (with_reducible first | exact HB.out | apply below_alloc | apply pw_below_drewN | apply below_drew1 | refine below_set ?_ (IsS80.ge HI234.out)) | (with_reducible exact Below.refl _ _)))))
                         (case side1 => repeat (first | (with_reducible first | exact HI234.out | apply IsS80.alloc | apply IsS80.drewN | apply IsS80.drew | apply IsS80.set_0) | exact HI234.out))
                         (case side2 => repeat (first | (with_reducible first | exact HB.out | apply below_alloc | apply pw_below_drewN | apply below_drew1 | refine below_set ?_ (IsS80.ge HI234.out)) | exact HB.out))
                         rintro e w224 ⟨rfl, hi, hb, hk⟩
                         refine ⟨_, rfl, ?_⟩
                         have n0_ := Aside0.mk (hb)
                         have n1_ := Aside0.mk (hi)
                         clear HB
                         clear HI234
                         have HB := n0_
                         have HI234 := n1_
                         clear n0_ n1_
                         (try clear hb)
                         (try clear hb2)
                         (try clear hk)
                         (try clear hi)
                         refine hK.out _ _ ⟨((HB.out.cell (World.block_lt_of_cell? w _ hw235_0)).trans hw235_0), ((HB.out.cell (World.block_lt_of_cell? w _ hw236_0)).trans hw236_0), ((HB.out.cell (World.block_lt_of_cell? w _ hw237_0)).trans hw237_0), ((HB.out.cell (World.block_lt_of_cell? w _ hw238_0)).trans hw238_0), ((HB.out.cell (World.block_lt_of_cell? w _ hw241_0)).trans hw241_0), ((HB.out.cell (World.block_lt_of_cell? w _ hw242_0)).trans hw242_0), ((HB.out.cell (World.block_lt_of_cell? w _ hw243_0)).trans hw243_0), ((HB.out.cell (World.block_lt_of_cell? w _ hw244_0)).trans hw244_0)⟩ (fun hHeld => ?_)
                         clear hK K
                         refine norm_ (a' := ?_) ?_ ?_
                         rotate_left
                         ·
                          show Act.put _ (some 69) _ = _
                          simp only [Act.put, List.setIfInBounds_toArray, List.set_cons_zero, List.set_cons_succ, i64_w, i32_w]
                          rfl
                         refine pure_ (i := 28) (N := some 7) (v := ?_) (a' := ?_) #[true,true,true,true,true,true,true,true,true,true,true,true,true,true,true,true,true,true,true,true,true,true,true,true,true,true,true,true,true,false] rfl rfl (any_of HT_.out (by kernel_rfl)) (fun _ _ _ h => h) (Or.inl ⟨by rfl, ?_⟩) ?_ ?_
                         rotate_left; (intro w'; go_simp; with_reducible rfl); rotate_left; (simp only [Act.put, List.setIfInBounds_toArray, List.set_cons_zero, List.set_cons_succ, i64_w, i32_w]; rfl)
                         refine pure_ (i := 29) (N := some 8) (v := ?_) (a' := ?_) #[true,true,true,true,true,true,true,true,true,true,true,true,true,true,true,true,true,true,true,true,true,true,true,true,true,true,true,true,true,true] rfl rfl (any_of HT_.out (by kernel_rfl)) (fun _ _ _ h => h) (Or.inl ⟨by rfl, ?_⟩) ?_ ?_
                         rotate_left; (intro w'; go_simp; with_reducible rfl); rotate_left; (simp only [Act.put, List.setIfInBounds_toArray, List.set_cons_zero, List.set_cons_succ, i64_w, i32_w]; rfl)
                         refine done_ (done_of HT_.out (by kernel_rfl)) ?_
                         try go_wp2
                         have n0_ := Aside0.mk (IsS80.drew HI234.out)
                         have n1_ := Aside0.mk (below_drew1 HB.out)
                         clear HI234
                         clear HB
                         have HI234 := n0_
                         have HB := n1_
                         clear n0_ n1_
                         have p247 : 0 ≤ (0 : Int) := (by omega)
                         have q247 : 0 < (l0.length : Int) := of_decide_eq_true (by first | (with_reducible assumption) | assumption)
                         obtain ⟨ad247, e247, hx247_0⟩ := Kd.at_int HR0.out 0 p247 q247
                         have hw247_0 := hx247_0
                         (try rw [show ((0 : Int)).toNat = 0 from rfl] at hw247_0)
                         (try rw [show 0 * 1 = 0 from rfl] at hw247_0)
                         (try rw [Addr.add_zero'] at hw247_0)
                         obtain rfl : ad235 = ad247 := (by injection e247)
                         have qi247 : (0 < l0.length) = True := eq_true (by omega)
                         (try rw [show ((0 : Int)).toNat = 0 from rfl] at hx247_0)
                         (try rw [Addr.add_zero'] at hx247_0)
                         replace hx247_0 := (HB.out.cell (World.block_lt_of_cell? w _ hx247_0)).trans hx247_0
                         replace p247 := eq_true p247
                         replace q247 := eq_true q247
                         have p248 : 0 ≤ (1 : Int) := (by omega)
                         have q248 : 1 < (l0.length : Int) := of_decide_eq_true (by first | (with_reducible assumption) | assumption)
                         obtain ⟨ad248, e248, hx248_0⟩ := Kd.at_int HR0.out 1 p248 q248
                         have hw248_0 := hx248_0
                         (try rw [show ((1 : Int)).toNat = 1 from rfl] at hw248_0)
                         (try rw [show 1 * 1 = 1 from rfl] at hw248_0)
                         (try simp only [Nat.reduceMul, Nat.reduceEqDiff, Go.Addr.add, ↓reduceIte] at hw248_0)
                         obtain rfl : ad235 = ad248 := (by injection e248)
                         (try simp only [show (1 : Int).toNat = 1 from rfl, Nat.reduceMul, Nat.reduceEqDiff, Go.Addr.add, ↓reduceIte] at hx248_0)
                         have qi248 : (1 < l0.length) = True := eq_true (by omega)
                         (try rw [show ((1 : Int)).toNat = 1 from rfl] at hx248_0)
                         replace hx248_0 := (HB.out.cell (World.block_lt_of_cell? w _ hx248_0)).trans hx248_0
                         replace p248 := eq_true p248
                         replace q248 := eq_true q248
                         have p249 : 0 ≤ (2 : Int) := (by omega)
                         have q249 : 2 < (l0.length : Int) := of_decide_eq_true (by first | (with_reducible assumption) | assumption)
                         obtain ⟨ad249, e249, hx249_0⟩ := Kd.at_int HR0.out 2 p249 q249
                         have hw249_0 := hx249_0
                         (try rw [show ((2 : Int)).toNat = 2 from rfl] at hw249_0)
                         (try rw [show 2 * 1 = 2 from rfl] at hw249_0)
                         (try simp only [Nat.reduceMul, Nat.reduceEqDiff, Go.Addr.add, ↓reduceIte] at hw249_0)
                         obtain rfl : ad235 = ad249 := (by injection e249)
                         (try simp only [show (2 : Int).toNat = 2 from rfl, Nat.reduceMul, Nat.reduceEqDiff, Go.Addr.add, ↓reduceIte] at hx249_0)
                         have qi249 : (2 < l0.length) = True := eq_true (by omega)
                         (try rw [show ((2 : Int)).toNat = 2 from rfl] at hx249_0)
                         replace hx249_0 := (HB.out.cell (World.block_lt_of_cell? w _ hx249_0)).trans hx249_0
                         replace p249 := eq_true p249
                         replace q249 := eq_true q249
                         have p252 : 0 ≤ (0 : Int) := (by omega)
                         have q252 : 0 < (l1.length : Int) := of_decide_eq_true (by first | (with_reducible assumption) | assumption)
                         obtain ⟨ad252, e252, hx252_0⟩ := Kd.at_int HR1.out 0 p252 q252
                         have hw252_0 := hx252_0
                         (try rw [show ((0 : Int)).toNat = 0 from rfl] at hw252_0)
                         (try rw [show 0 * 1 = 0 from rfl] at hw252_0)
                         (try rw [Addr.add_zero'] at hw252_0)
                         obtain rfl : ad241 = ad252 := (by injection e252)
                         have qi252 : (0 < l1.length) = True := eq_true (by omega)
                         (try rw [show ((0 : Int)).toNat = 0 from rfl] at hx252_0)
                         (try rw [Addr.add_zero'] at hx252_0)
                         replace hx252_0 := (HB.out.cell (World.block_lt_of_cell? w _ hx252_0)).trans hx252_0
                         replace p252 := eq_true p252
                         replace q252 := eq_true q252
                         have p253 : 0 ≤ (1 : Int) := (by omega)
                         have q253 : 1 < (l1.length : Int) := of_decide_eq_true (by first | (with_reducible assumption) | assumption)
                         obtain ⟨ad253, e253, hx253_0⟩ := Kd.at_int HR1.out 1 p253 q253
                         have hw253_0 := hx253_0
                         (try rw [show ((1 : Int)).toNat = 1 from rfl] at hw253_0)
                         (try rw [show 1 * 1 = 1 from rfl] at hw253_0)
                         (try simp only [Nat.reduceMul, Nat.reduceEqDiff, Go.Addr.add, ↓reduceIte] at hw253_0)
                         obtain rfl : ad241 = ad253 := (by injection e253)
                         (try simp only [show (1 : Int).toNat = 1 from rfl, Nat.reduceMul, Nat.reduceEqDiff, Go.Addr.add, ↓reduceIte] at hx253_0)
                         have qi253 : (1 < l1.length) = True := eq_true (by omega)
                         (try rw [show ((1 : Int)).toNat = 1 from rfl] at hx253_0)
                         replace hx253_0 := (HB.out.cell (World.block_lt_of_cell? w _ hx253_0)).trans hx253_0
                         replace p253 := eq_true p253
                         replace q253 := eq_true q253
                         have p254 : 0 ≤ (2 : Int) := (by omega)
                         have q254 : 2 < (l1.length : Int) := of_decide_eq_true (by first | (with_reducible assumption) | assumption)
                         obtain ⟨ad254, e254, hx254_0⟩ := Kd.at_int HR1.out 2 p254 q254
                         have hw254_0 := hx254_0
                         (try rw [show ((2 : Int)).toNat = 2 from rfl] at hw254_0)
                         (try rw [show 2 * 1 = 2 from rfl] at hw254_0)
                         (try simp only [Nat.reduceMul, Nat.reduceEqDiff, Go.Addr.add, ↓reduceIte] at hw254_0)
                         obtain rfl : ad241 = ad254 := (by injection e254)
                         (try simp only [show (2 : Int).toNat = 2 from rfl, Nat.reduceMul, Nat.reduceEqDiff, Go.Addr.add, ↓reduceIte] at hx254_0)
                         have qi254 : (2 < l1.length) = True := eq_true (by omega)
                         (try rw [show ((2 : Int)).toNat = 2 from rfl] at hx254_0)
                         replace hx254_0 := (HB.out.cell (World.block_lt_of_cell? w _ hx254_0)).trans hx254_0
                         replace p254 := eq_true p254
                         replace q254 := eq_true q254
                         refine start_ (n := 24) (S := fun w' => w'.cell? ad235 = some (.int .i64 (rd l0 0)) ∧ w'.cell? ⟨ad235.block, ad235.off + 1, none⟩ = some (.int .i64 (rd l0 1)) ∧ w'.cell? ⟨ad235.block, ad235.off + 2, none⟩ = some (.int .i64 (rd l0 2)) ∧ w'.cell? ad241 = some (.int .i64 (rd l1 0)) ∧ w'.cell? ⟨ad241.block, ad241.off + 1, none⟩ = some (.int .i64 (rd l1 1)) ∧ w'.cell? ⟨ad241.block, ad241.off + 2, none⟩ = some (.int .i64 (rd l1 2))) (ds := []) #[false,false,false,false,false,false,false,false,false,false,false,false,false,false,false,false,false,false,false,false,false,false,false,false] (by kernel_rfl) rfl rfl ⟨((HB.out.cell (World.block_lt_of_cell? w _ hw247_0)).trans hw247_0), ((HB.out.cell (World.block_lt_of_cell? w _ hw248_0)).trans hw248_0), ((HB.out.cell (World.block_lt_of_cell? w _ hw249_0)).trans hw249_0), ((HB.out.cell (World.block_lt_of_cell? w _ hw252_0)).trans hw252_0), ((HB.out.cell (World.block_lt_of_cell? w _ hw253_0)).trans hw253_0), ((HB.out.cell (World.block_lt_of_cell? w _ hw254_0)).trans hw254_0)⟩ (fun hHeld => ?_); refine with_tabW conclavelaw07_ScheduleBinds.tab9 conclavelaw07_ScheduleBinds.bits9 (fun HT_ HW_ => ?_)
                         generalize w224.drew = w225 at HI234 HB hx247_0 hx248_0 hx249_0 hx252_0 hx253_0 hx254_0 hHeld ⊢
                         refine pure_ (i := 0) (N := some 70) (v := ?_) (a' := ?_) #[true,false,false,false,false,false,false,false,false,false,false,false,false,false,false,false,false,false,false,false,false,false,false,false] rfl rfl (any_of HT_.out (by kernel_rfl)) (fun _ _ _ h => h) (Or.inl ⟨by rfl, ?_⟩) ?_ ?_
                         rotate_left; (intro w'; go_simp; with_reducible rfl); rotate_left; (simp only [Act.put, List.setIfInBounds_toArray, List.set_cons_zero, List.set_cons_succ, i64_w, i32_w]; rfl)
                         refine pure_ (i := 1) (N := some 71) (v := ?_) (a' := ?_) #[true,true,false,false,false,false,false,false,false,false,false,false,false,false,false,false,false,false,false,false,false,false,false,false] rfl rfl (any_of HT_.out (by kernel_rfl)) (fun _ _ _ h => h) (Or.inl ⟨by rfl, ?_⟩) ?_ ?_
                         rotate_left; (intro w'; go_simp; with_reducible rfl); rotate_left; (simp only [Act.put, List.setIfInBounds_toArray, List.set_cons_zero, List.set_cons_succ, i64_w, i32_w]; rfl)
                         refine pure_ (i := 2) (N := some 72) (v := ?_) (a' := ?_) #[true,true,true,false,false,false,false,false,false,false,false,false,false,false,false,false,false,false,false,false,false,false,false,false] rfl rfl (any_of HT_.out (by kernel_rfl)) (fun _ _ _ h => h) (Or.inl ⟨by rfl, ?_⟩) ?_ ?_
                         rotate_left; (intro w'; go_simp; with_reducible rfl); rotate_left; (simp only [Act.put, List.setIfInBounds_toArray, List.set_cons_zero, List.set_cons_succ, i64_w, i32_w]; rfl)
                         refine pure_ (i := 4) (N := some 74) (v := ?_) (a' := ?_) #[true,true,true,false,true,false,false,false,false,false,false,false,false,false,false,false,false,false,false,false,false,false,false,false] rfl rfl (any_of HT_.out (by kernel_rfl)) (fun _ _ _ h => h) (Or.inl ⟨by rfl, ?_⟩) ?_ ?_
                         rotate_left; (intro w'; go_simp; with_reducible rfl); rotate_left; (simp only [Act.put, List.setIfInBounds_toArray, List.set_cons_zero, List.set_cons_succ, i64_w, i32_w]; rfl)
                         refine pure_ (i := 5) (N := some 75) (v := ?_) (a' := ?_) #[true,true,true,false,true,true,false,false,false,false,false,false,false,false,false,false,false,false,false,false,false,false,false,false] rfl rfl (any_of HT_.out (by kernel_rfl)) (fun _ _ _ h => h) (Or.inl ⟨by rfl, ?_⟩) ?_ ?_
                         rotate_left; (intro w'; go_simp; with_reducible rfl); rotate_left; (simp only [Act.put, List.setIfInBounds_toArray, List.set_cons_zero, List.set_cons_succ, i64_w, i32_w]; rfl)
                         refine pure_ (i := 7) (N := some 77) (v := ?_) (a' := ?_) #[true,true,true,false,true,true,false,true,false,false,false,false,false,false,false,false,false,false,false,false,false,false,false,false] rfl rfl (any_of HT_.out (by kernel_rfl)) (fun _ _ _ h => h) (Or.inl ⟨by rfl, ?_⟩) ?_ ?_
                         rotate_left; (intro w'; go_simp; with_reducible rfl); rotate_left; (simp only [Act.put, List.setIfInBounds_toArray, List.set_cons_zero, List.set_cons_succ, i64_w, i32_w]; rfl)
                         refine pure_ (i := 8) (N := some 78) (v := ?_) (a' := ?_) #[true,true,true,false,true,true,false,true,true,false,false,false,false,false,false,false,false,false,false,false,false,false,false,false] rfl rfl (any_of HT_.out (by kernel_rfl)) (fun _ _ _ h => h) (Or.inl ⟨by rfl, ?_⟩) ?_ ?_
                         rotate_left; (intro w'; go_simp; with_reducible rfl); rotate_left; (simp only [Act.put, List.setIfInBounds_toArray, List.set_cons_zero, List.set_cons_succ, i64_w, i32_w]; rfl)
                         refine pure_ (i := 11) (N := some 81) (v := ?_) (a' := ?_) #[true,true,true,false,true,true,false,true,true,false,false,true,false,false,false,false,false,false,false,false,false,false,false,false] rfl rfl (any_of HT_.out (by kernel_rfl)) (fun _ _ _ h => h) (Or.inl ⟨by rfl, ?_⟩) ?_ ?_
                         rotate_left; (intro w'; go_simp; with_reducible rfl); rotate_left; (simp only [Act.put, List.setIfInBounds_toArray, List.set_cons_zero, List.set_cons_succ, i64_w, i32_w]; rfl)
                         refine pure_ (i := 12) (N := some 82) (v := ?_) (a' := ?_) #[true,true,true,false,true,true,false,true,true,false,false,true,true,false,false,false,false,false,false,false,false,false,false,false] rfl rfl (any_of HT_.out (by kernel_rfl)) (fun _ _ _ h => h) (Or.inl ⟨by rfl, ?_⟩) ?_ ?_
                         rotate_left; (intro w'; go_simp; with_reducible rfl); rotate_left; (simp only [Act.put, List.setIfInBounds_toArray, List.set_cons_zero, List.set_cons_succ, i64_w, i32_w]; rfl)
                         refine pure_ (i := 13) (N := some 83) (v := ?_) (a' := ?_) #[true,true,true,false,true,true,false,true,true,false,false,true,true,true,false,false,false,false,false,false,false,false,false,false] rfl rfl (any_of HT_.out (by kernel_rfl)) (fun _ _ _ h => h) (Or.inl ⟨by rfl, ?_⟩) ?_ ?_
                         rotate_left; (intro w'; go_simp; with_reducible rfl); rotate_left; (simp only [Act.put, List.setIfInBounds_toArray, List.set_cons_zero, List.set_cons_succ, i64_w, i32_w]; rfl)
                         refine pure_ (i := 15) (N := some 85) (v := ?_) (a' := ?_) #[true,true,true,false,true,true,false,true,true,false,false,true,true,true,false,true,false,false,false,false,false,false,false,false] rfl rfl (any_of HT_.out (by kernel_rfl)) (fun _ _ _ h => h) (Or.inl ⟨by rfl, ?_⟩) ?_ ?_
                         rotate_left; (intro w'; go_simp; with_reducible rfl); rotate_left; (simp only [Act.put, List.setIfInBounds_toArray, List.set_cons_zero, List.set_cons_succ, i64_w, i32_w]; rfl)
                         refine pure_ (i := 16) (N := some 86) (v := ?_) (a' := ?_) #[true,true,true,false,true,true,false,true,true,false,false,true,true,true,false,true,true,false,false,false,false,false,false,false] rfl rfl (any_of HT_.out (by kernel_rfl)) (fun _ _ _ h => h) (Or.inl ⟨by rfl, ?_⟩) ?_ ?_
                         rotate_left; (intro w'; go_simp; with_reducible rfl); rotate_left; (simp only [Act.put, List.setIfInBounds_toArray, List.set_cons_zero, List.set_cons_succ, i64_w, i32_w]; rfl)
                         refine pure_ (i := 18) (N := some 88) (v := ?_) (a' := ?_) #[true,true,true,false,true,true,false,true,true,false,false,true,true,true,false,true,true,false,true,false,false,false,false,false] rfl rfl (any_of HT_.out (by kernel_rfl)) (fun _ _ _ h => h) (Or.inl ⟨by rfl, ?_⟩) ?_ ?_
                         rotate_left; (intro w'; go_simp; with_reducible rfl); rotate_left; (simp only [Act.put, List.setIfInBounds_toArray, List.set_cons_zero, List.set_cons_succ, i64_w, i32_w]; rfl)
                         refine pure_ (i := 19) (N := some 89) (v := ?_) (a' := ?_) #[true,true,true,false,true,true,false,true,true,false,false,true,true,true,false,true,true,false,true,true,false,false,false,false] rfl rfl (any_of HT_.out (by kernel_rfl)) (fun _ _ _ h => h) (Or.inl ⟨by rfl, ?_⟩) ?_ ?_
                         rotate_left; (intro w'; go_simp; with_reducible rfl); rotate_left; (simp only [Act.put, List.setIfInBounds_toArray, List.set_cons_zero, List.set_cons_succ, i64_w, i32_w]; rfl)
                         refine take_ (i := 3) (N := some 73) (v := ?_) (a' := ?_) #[true,true,true,true,true,true,false,true,true,false,false,true,true,true,false,true,true,false,true,true,false,false,false,false] rfl rfl (take_ofW HT_.out HW_.out (by kernel_rfl)) (fun _ _ _ h => h) (Or.inl ⟨by rfl, ?_⟩) hHeld ?_ ?_
                         rotate_left
                         ·
                          rintro w' ⟨s0, s1, s2, s3, s4, s5⟩
                          go_simp
                          with_reducible rfl
                         rotate_left
                         ·
                          simp only [Act.put, List.setIfInBounds_toArray, List.set_cons_zero, List.set_cons_succ, i64_w, i32_w]
                          rfl
                         refine take_ (i := 6) (N := some 76) (v := ?_) (a' := ?_) #[true,true,true,true,true,true,true,true,true,false,false,true,true,true,false,true,true,false,true,true,false,false,false,false] rfl rfl (take_ofW HT_.out HW_.out (by kernel_rfl)) (fun _ _ _ h => h) (Or.inl ⟨by rfl, ?_⟩) hHeld ?_ ?_
                         rotate_left
                         ·
                          rintro w' ⟨s0, s1, s2, s3, s4, s5⟩
                          go_simp
                          with_reducible rfl
                         rotate_left
                         ·
                          simp only [Act.put, List.setIfInBounds_toArray, List.set_cons_zero, List.set_cons_succ, i64_w, i32_w]
                          rfl
                         refine take_ (i := 9) (N := some 79) (v := ?_) (a' := ?_) #[true,true,true,true,true,true,true,true,true,true,false,true,true,true,false,true,true,false,true,true,false,false,false,false] rfl rfl (take_ofW HT_.out HW_.out (by kernel_rfl)) (fun _ _ _ h => h) (Or.inl ⟨by rfl, ?_⟩) hHeld ?_ ?_
                         rotate_left
                         ·
                          rintro w' ⟨s0, s1, s2, s3, s4, s5⟩
                          go_simp
                          with_reducible rfl
                         rotate_left
                         ·
                          simp only [Act.put, List.setIfInBounds_toArray, List.set_cons_zero, List.set_cons_succ, i64_w, i32_w]
                          rfl
                         refine take_ (i := 14) (N := some 84) (v := ?_) (a' := ?_) #[true,true,true,true,true,true,true,true,true,true,false,true,true,true,true,true,true,false,true,true,false,false,false,false] rfl rfl (take_ofW HT_.out HW_.out (by kernel_rfl)) (fun _ _ _ h => h) (Or.inl ⟨by rfl, ?_⟩) hHeld ?_ ?_
                         rotate_left
                         ·
                          rintro w' ⟨s0, s1, s2, s3, s4, s5⟩
                          go_simp
                          with_reducible rfl
                         rotate_left
                         ·
                          simp only [Act.put, List.setIfInBounds_toArray, List.set_cons_zero, List.set_cons_succ, i64_w, i32_w]
                          rfl
                         refine take_ (i := 17) (N := some 87) (v := ?_) (a' := ?_) #[true,true,true,true,true,true,true,true,true,true,false,true,true,true,true,true,true,true,true,true,false,false,false,false] rfl rfl (take_ofW HT_.out HW_.out (by kernel_rfl)) (fun _ _ _ h => h) (Or.inl ⟨by rfl, ?_⟩) hHeld ?_ ?_
                         rotate_left
                         ·
                          rintro w' ⟨s0, s1, s2, s3, s4, s5⟩
                          go_simp
                          with_reducible rfl
                         rotate_left
                         ·
                          simp only [Act.put, List.setIfInBounds_toArray, List.set_cons_zero, List.set_cons_succ, i64_w, i32_w]
                          rfl
                         refine take_ (i := 20) (N := some 90) (v := ?_) (a' := ?_) #[true,true,true,true,true,true,true,true,true,true,false,true,true,true,true,true,true,true,true,true,true,false,false,false] rfl rfl (take_ofW HT_.out HW_.out (by kernel_rfl)) (fun _ _ _ h => h) (Or.inl ⟨by rfl, ?_⟩) hHeld ?_ ?_
                         rotate_left
                         ·
                          rintro w' ⟨s0, s1, s2, s3, s4, s5⟩
                          go_simp
                          with_reducible rfl
                         rotate_left
                         ·
                          simp only [Act.put, List.setIfInBounds_toArray, List.set_cons_zero, List.set_cons_succ, i64_w, i32_w]
                          rfl
                         refine one_ (i := 10) (N := some 80) #[true,true,true,true,true,true,true,true,true,true,true,true,true,true,true,true,true,true,true,true,true,false,false,false] rfl rfl (one_of HT_.out (by kernel_rfl)) (by decide) (fun K hK => ?_)
                         refine goes_ Tryd.func15 (by kernel_rfl) rfl #[.pointer (some ⟨g234, 0, none⟩), .int .i64 (rd l0 0), .int .i64 (rd l0 1), .int .i64 (rd l0 2)] (by rfl) rfl rfl (by (try simp only [List.map_toArray, List.map_cons, List.map_nil]); first | done | rfl | (simp only [List.length_drop, List.length_take]; rfl)) ?_
                         with_reducible refine (schedule_Confirmed.calls kj4 g234 t246 (rd l0 0) (rd l0 1) (rd l0 2) t250 t251 w _ ?side1 ?side2 A30.out).mono ?_
                         (case side1 => repeat (first | (with_reducible first | exact HI234.out | apply IsS80.alloc | apply IsS80.drewN | apply IsS80.drew | apply IsS80.set_0) | exact HI234.out))
                         (case side2 => repeat (first | (with_reducible first | exact HB.out | apply below_alloc | apply pw_below_drewN | apply below_drew1 | refine below_set ?_ (IsS80.ge HI234.out)) | exact HB.out))
                         rintro e w226 ⟨rfl, hi, hb, hk⟩
                         refine ⟨_, rfl, ?_⟩
                         have n0_ := Aside0.mk (hb)
                         have n1_ := Aside0.mk (hi)
                         clear HB
                         clear HI234
                         have HB := n0_
                         have HI234 := n1_
                         clear n0_ n1_
                         (try clear hb)
                         (try clear hb2)
                         (try clear hk)
                         (try clear hi)
                         refine hK.out _ _ ⟨((HB.out.cell (World.block_lt_of_cell? w _ hw247_0)).trans hw247_0), ((HB.out.cell (World.block_lt_of_cell? w _ hw248_0)).trans hw248_0), ((HB.out.cell (World.block_lt_of_cell? w _ hw249_0)).trans hw249_0), ((HB.out.cell (World.block_lt_of_cell? w _ hw252_0)).trans hw252_0), ((HB.out.cell (World.block_lt_of_cell? w _ hw253_0)).trans hw253_0), ((HB.out.cell (World.block_lt_of_cell? w _ hw254_0)).trans hw254_0)⟩ (fun hHeld => ?_)
                         clear hK K
                         refine norm_ (a' := ?_) ?_ ?_
                         rotate_left
                         ·
                          show Act.put _ (some 80) _ = _
                          simp only [Act.put, List.setIfInBounds_toArray, List.set_cons_zero, List.set_cons_succ, i64_w, i32_w]
                          rfl
                         refine one_ (i := 21) (N := some 91) #[true,true,true,true,true,true,true,true,true,true,true,true,true,true,true,true,true,true,true,true,true,true,false,false] rfl rfl (one_of HT_.out (by kernel_rfl)) (by decide) (fun K hK => ?_)
                         refine goes_ Tryd.func15 (by kernel_rfl) rfl #[.pointer (some ⟨g234, 0, none⟩), .int .i64 (rd l1 0), .int .i64 (rd l1 1), .int .i64 (rd l1 2)] (by rfl) rfl rfl (by (try simp only [List.map_toArray, List.map_cons, List.map_nil]); first | done | rfl | (simp only [List.length_drop, List.length_take]; rfl)) ?_
                         with_reducible refine (schedule_Confirmed.calls kj4 g234 t251 (rd l1 0) (rd l1 1) (rd l1 2) t255 t256 w _ ?side1 ?side2 A32.out).mono ?_
                         (case side1 => repeat (first | (with_reducible first | exact HI234.out | apply IsS80.alloc | apply IsS80.drewN | apply IsS80.drew | apply IsS80.set_0) | exact HI234.out))
                         (case side2 => repeat (first | (with_reducible first | exact HB.out | apply below_alloc | apply pw_below_drewN | apply below_drew1 | refine below_set ?_ (IsS80.ge HI234.out)) | exact HB.out))
                         rintro e w227 ⟨rfl, hi, hb, hk⟩
                         refine ⟨_, rfl, ?_⟩
                         have n0_ := Aside0.mk (hb)
                         have n1_ := Aside0.mk (hi)
                         clear HB
                         clear HI234
                         have HB := n0_
                         have HI234 := n1_
                         clear n0_ n1_
                         (try clear hb)
                         (try clear hb2)
                         (try clear hk)
                         (try clear hi)
                         refine hK.out _ _ ⟨((HB.out.cell (World.block_lt_of_cell? w _ hw247_0)).trans hw247_0), ((HB.out.cell (World.block_lt_of_cell? w _ hw248_0)).trans hw248_0), ((HB.out.cell (World.block_lt_of_cell? w _ hw249_0)).trans hw249_0), ((HB.out.cell (World.block_lt_of_cell? w _ hw252_0)).trans hw252_0), ((HB.out.cell (World.block_lt_of_cell? w _ hw253_0)).trans hw253_0), ((HB.out.cell (World.block_lt_of_cell? w _ hw254_0)).trans hw254_0)⟩ (fun hHeld => ?_)
                         clear hK K
                         refine norm_ (a' := ?_) ?_ ?_
                         rotate_left
                         ·
                          show Act.put _ (some 91) _ = _
                          simp only [Act.put, List.setIfInBounds_toArray, List.set_cons_zero, List.set_cons_succ, i64_w, i32_w]
                          rfl
                         refine pure_ (i := 22) (N := some 9) (v := ?_) (a' := ?_) #[true,true,true,true,true,true,true,true,true,true,true,true,true,true,true,true,true,true,true,true,true,true,true,false] rfl rfl (any_of HT_.out (by kernel_rfl)) (fun _ _ _ h => h) (Or.inl ⟨by rfl, ?_⟩) ?_ ?_
                         rotate_left; (intro w'; go_simp; with_reducible rfl); rotate_left; (simp only [Act.put, List.setIfInBounds_toArray, List.set_cons_zero, List.set_cons_succ, i64_w, i32_w]; rfl)
                         refine pure_ (i := 23) (N := some 10) (v := ?_) (a' := ?_) #[true,true,true,true,true,true,true,true,true,true,true,true,true,true,true,true,true,true,true,true,true,true,true,true] rfl rfl (any_of HT_.out (by kernel_rfl)) (fun _ _ _ h => h) (Or.inl ⟨by rfl, ?_⟩) ?_ ?_
                         rotate_left; (intro w'; go_simp; with_reducible rfl); rotate_left; (simp only [Act.put, List.setIfInBounds_toArray, List.set_cons_zero, List.set_cons_succ, i64_w, i32_w]; rfl)
                         refine done_ (done_of HT_.out (by kernel_rfl)) ?_
                         try go_wp2
                         have n0_ := Aside0.mk (IsS80.drew HI234.out)
                         have n1_ := Aside0.mk (below_drew1 HB.out)
                         clear HI234
                         clear HB
                         have HI234 := n0_
                         have HB := n1_
                         clear n0_ n1_
                         have p257 : 0 ≤ (0 : Int) := (by omega)
                         have q257 : 0 < (l0.length : Int) := of_decide_eq_true (by first | (with_reducible assumption) | assumption)
                         obtain ⟨ad257, e257, hx257_0⟩ := Kd.at_int HR0.out 0 p257 q257
                         have hw257_0 := hx257_0
                         (try rw [show ((0 : Int)).toNat = 0 from rfl] at hw257_0)
                         (try rw [show 0 * 1 = 0 from rfl] at hw257_0)
                         (try rw [Addr.add_zero'] at hw257_0)
                         obtain rfl : ad235 = ad257 := (by injection e257)
                         have qi257 : (0 < l0.length) = True := eq_true (by omega)
                         (try rw [show ((0 : Int)).toNat = 0 from rfl] at hx257_0)
                         (try rw [Addr.add_zero'] at hx257_0)
                         replace hx257_0 := (HB.out.cell (World.block_lt_of_cell? w _ hx257_0)).trans hx257_0
                         replace p257 := eq_true p257
                         replace q257 := eq_true q257
                         have p258 : 0 ≤ (1 : Int) := (by omega)
                         have q258 : 1 < (l0.length : Int) := of_decide_eq_true (by first | (with_reducible assumption) | assumption)
                         obtain ⟨ad258, e258, hx258_0⟩ := Kd.at_int HR0.out 1 p258 q258
                         have hw258_0 := hx258_0
                         (try rw [show ((1 : Int)).toNat = 1 from rfl] at hw258_0)
                         (try rw [show 1 * 1 = 1 from rfl] at hw258_0)
                         (try simp only [Nat.reduceMul, Nat.reduceEqDiff, Go.Addr.add, ↓reduceIte] at hw258_0)
                         obtain rfl : ad235 = ad258 := (by injection e258)
                         (try simp only [show (1 : Int).toNat = 1 from rfl, Nat.reduceMul, Nat.reduceEqDiff, Go.Addr.add, ↓reduceIte] at hx258_0)
                         have qi258 : (1 < l0.length) = True := eq_true (by omega)
                         (try rw [show ((1 : Int)).toNat = 1 from rfl] at hx258_0)
                         replace hx258_0 := (HB.out.cell (World.block_lt_of_cell? w _ hx258_0)).trans hx258_0
                         replace p258 := eq_true p258
                         replace q258 := eq_true q258
                         have p261 : 0 ≤ (0 : Int) := (by omega)
                         have q261 : 0 < (l1.length : Int) := of_decide_eq_true (by first | (with_reducible assumption) | assumption)
                         obtain ⟨ad261, e261, hx261_0⟩ := Kd.at_int HR1.out 0 p261 q261
                         have hw261_0 := hx261_0
                         (try rw [show ((0 : Int)).toNat = 0 from rfl] at hw261_0)
                         (try rw [show 0 * 1 = 0 from rfl] at hw261_0)
                         (try rw [Addr.add_zero'] at hw261_0)
                         obtain rfl : ad241 = ad261 := (by injection e261)
                         have qi261 : (0 < l1.length) = True := eq_true (by omega)
                         (try rw [show ((0 : Int)).toNat = 0 from rfl] at hx261_0)
                         (try rw [Addr.add_zero'] at hx261_0)
                         replace hx261_0 := (HB.out.cell (World.block_lt_of_cell? w _ hx261_0)).trans hx261_0
                         replace p261 := eq_true p261
                         replace q261 := eq_true q261
                         have p262 : 0 ≤ (1 : Int) := (by omega)
                         have q262 : 1 < (l1.length : Int) := of_decide_eq_true (by first | (with_reducible assumption) | assumption)
                         obtain ⟨ad262, e262, hx262_0⟩ := Kd.at_int HR1.out 1 p262 q262
                         have hw262_0 := hx262_0
                         (try rw [show ((1 : Int)).toNat = 1 from rfl] at hw262_0)
                         (try rw [show 1 * 1 = 1 from rfl] at hw262_0)
                         (try simp only [Nat.reduceMul, Nat.reduceEqDiff, Go.Addr.add, ↓reduceIte] at hw262_0)
                         obtain rfl : ad241 = ad262 := (by injection e262)
                         (try simp only [show (1 : Int).toNat = 1 from rfl, Nat.reduceMul, Nat.reduceEqDiff, Go.Addr.add, ↓reduceIte] at hx262_0)
                         have qi262 : (1 < l1.length) = True := eq_true (by omega)
                         (try rw [show ((1 : Int)).toNat = 1 from rfl] at hx262_0)
                         replace hx262_0 := (HB.out.cell (World.block_lt_of_cell? w _ hx262_0)).trans hx262_0
                         replace p262 := eq_true p262
                         replace q262 := eq_true q262
                         refine start_ (n := 18) (S := fun w' => w'.cell? ad235 = some (.int .i64 (rd l0 0)) ∧ w'.cell? ⟨ad235.block, ad235.off + 1, none⟩ = some (.int .i64 (rd l0 1)) ∧ w'.cell? ad241 = some (.int .i64 (rd l1 0)) ∧ w'.cell? ⟨ad241.block, ad241.off + 1, none⟩ = some (.int .i64 (rd l1 1))) (ds := []) #[false,false,false,false,false,false,false,false,false,false,false,false,false,false,false,false,false,false] (by kernel_rfl) rfl rfl ⟨((HB.out.cell (World.block_lt_of_cell? w _ hw257_0)).trans hw257_0), ((HB.out.cell (World.block_lt_of_cell? w _ hw258_0)).trans hw258_0), ((HB.out.cell (World.block_lt_of_cell? w _ hw261_0)).trans hw261_0), ((HB.out.cell (World.block_lt_of_cell? w _ hw262_0)).trans hw262_0)⟩ (fun hHeld => ?_); refine with_tabW conclavelaw07_ScheduleBinds.tab10 conclavelaw07_ScheduleBinds.bits10 (fun HT_ HW_ => ?_)
                         generalize w227.drew = w228 at HI234 HB hx257_0 hx258_0 hx261_0 hx262_0 hHeld ⊢
                         refine pure_ (i := 0) (N := some 92) (v := ?_) (a' := ?_) #[true,false,false,false,false,false,false,false,false,false,false,false,false,false,false,false,false,false] rfl rfl (any_of HT_.out (by kernel_rfl)) (fun _ _ _ h => h) (Or.inl ⟨by rfl, ?_⟩) ?_ ?_
                         rotate_left; (intro w'; go_simp; with_reducible rfl); rotate_left; (simp only [Act.put, List.setIfInBounds_toArray, List.set_cons_zero, List.set_cons_succ, i64_w, i32_w]; rfl)
                         refine pure_ (i := 1) (N := some 93) (v := ?_) (a' := ?_) #[true,true,false,false,false,false,false,false,false,false,false,false,false,false,false,false,false,false] rfl rfl (any_of HT_.out (by kernel_rfl)) (fun _ _ _ h => h) (Or.inl ⟨by rfl, ?_⟩) ?_ ?_
                         rotate_left; (intro w'; go_simp; with_reducible rfl); rotate_left; (simp only [Act.put, List.setIfInBounds_toArray, List.set_cons_zero, List.set_cons_succ, i64_w, i32_w]; rfl)
                         refine pure_ (i := 2) (N := some 94) (v := ?_) (a' := ?_) #[true,true,true,false,false,false,false,false,false,false,false,false,false,false,false,false,false,false] rfl rfl (any_of HT_.out (by kernel_rfl)) (fun _ _ _ h => h) (Or.inl ⟨by rfl, ?_⟩) ?_ ?_
                         rotate_left; (intro w'; go_simp; with_reducible rfl); rotate_left; (simp only [Act.put, List.setIfInBounds_toArray, List.set_cons_zero, List.set_cons_succ, i64_w, i32_w]; rfl)
                         refine pure_ (i := 4) (N := some 96) (v := ?_) (a' := ?_) #[true,true,true,false,true,false,false,false,false,false,false,false,false,false,false,false,false,false] rfl rfl (any_of HT_.out (by kernel_rfl)) (fun _ _ _ h => h) (Or.inl ⟨by rfl, ?_⟩) ?_ ?_
                         rotate_left; (intro w'; go_simp; with_reducible rfl); rotate_left; (simp only [Act.put, List.setIfInBounds_toArray, List.set_cons_zero, List.set_cons_succ, i64_w, i32_w]; rfl)
                         refine pure_ (i := 5) (N := some 97) (v := ?_) (a' := ?_) #[true,true,true,false,true,true,false,false,false,false,false,false,false,false,false,false,false,false] rfl rfl (any_of HT_.out (by kernel_rfl)) (fun _ _ _ h => h) (Or.inl ⟨by rfl, ?_⟩) ?_ ?_
                         rotate_left; (intro w'; go_simp; with_reducible rfl); rotate_left; (simp only [Act.put, List.setIfInBounds_toArray, List.set_cons_zero, List.set_cons_succ, i64_w, i32_w]; rfl)
                         refine pure_ (i := 8) (N := some 100) (v := ?_) (a' := ?_) #[true,true,true,false,true,true,false,false,true,false,false,false,false,false,false,false,false,false] rfl rfl (any_of HT_.out (by kernel_rfl)) (fun _ _ _ h => h) (Or.inl ⟨by rfl, ?_⟩) ?_ ?_
                         rotate_left; (intro w'; go_simp; with_reducible rfl); rotate_left; (simp only [Act.put, List.setIfInBounds_toArray, List.set_cons_zero, List.set_cons_succ, i64_w, i32_w]; rfl)
                         refine pure_ (i := 9) (N := some 101) (v := ?_) (a' := ?_) #[true,true,true,false,true,true,false,false,true,true,false,false,false,false,false,false,false,false] rfl rfl (any_of HT_.out (by kernel_rfl)) (fun _ _ _ h => h) (Or.inl ⟨by rfl, ?_⟩) ?_ ?_
                         rotate_left; (intro w'; go_simp; with_reducible rfl); rotate_left; (simp only [Act.put, List.setIfInBounds_toArray, List.set_cons_zero, List.set_cons_succ, i64_w, i32_w]; rfl)
                         refine pure_ (i := 10) (N := some 102) (v := ?_) (a' := ?_) #[true,true,true,false,true,true,false,false,true,true,true,false,false,false,false,false,false,false] rfl rfl (any_of HT_.out (by kernel_rfl)) (fun _ _ _ h => h) (Or.inl ⟨by rfl, ?_⟩) ?_ ?_
                         rotate_left; (intro w'; go_simp; with_reducible rfl); rotate_left; (simp only [Act.put, List.setIfInBounds_toArray, List.set_cons_zero, List.set_cons_succ, i64_w, i32_w]; rfl)
                         refine pure_ (i := 12) (N := some 104) (v := ?_) (a' := ?_) #[true,true,true,false,true,true,false,false,true,true,true,false,true,false,false,false,false,false] rfl rfl (any_of HT_.out (by kernel_rfl)) (fun _ _ _ h => h) (Or.inl ⟨by rfl, ?_⟩) ?_ ?_
                         rotate_left; (intro w'; go_simp; with_reducible rfl); rotate_left; (simp only [Act.put, List.setIfInBounds_toArray, List.set_cons_zero, List.set_cons_succ, i64_w, i32_w]; rfl)
                         refine pure_ (i := 13) (N := some 105) (v := ?_) (a' := ?_) #[true,true,true,false,true,true,false,false,true,true,true,false,true,true,false,false,false,false] rfl rfl (any_of HT_.out (by kernel_rfl)) (fun _ _ _ h => h) (Or.inl ⟨by rfl, ?_⟩) ?_ ?_
                         rotate_left; (intro w'; go_simp; with_reducible rfl); rotate_left; (simp only [Act.put, List.setIfInBounds_toArray, List.set_cons_zero, List.set_cons_succ, i64_w, i32_w]; rfl)
                         refine take_ (i := 3) (N := some 95) (v := ?_) (a' := ?_) #[true,true,true,true,true,true,false,false,true,true,true,false,true,true,false,false,false,false] rfl rfl (take_ofW HT_.out HW_.out (by kernel_rfl)) (fun _ _ _ h => h) (Or.inl ⟨by rfl, ?_⟩) hHeld ?_ ?_
                         rotate_left
                         ·
                          rintro w' ⟨s0, s1, s2, s3⟩
                          go_simp
                          with_reducible rfl
                         rotate_left
                         ·
                          simp only [Act.put, List.setIfInBounds_toArray, List.set_cons_zero, List.set_cons_succ, i64_w, i32_w]
                          rfl
                         refine take_ (i := 6) (N := some 98) (v := ?_) (a' := ?_) #[true,true,true,true,true,true,true,false,true,true,true,false,true,true,false,false,false,false] rfl rfl (take_ofW HT_.out HW_.out (by kernel_rfl)) (fun _ _ _ h => h) (Or.inl ⟨by rfl, ?_⟩) hHeld ?_ ?_
                         rotate_left
                         ·
                          rintro w' ⟨s0, s1, s2, s3⟩
                          go_simp
                          with_reducible rfl
                         rotate_left
                         ·
                          simp only [Act.put, List.setIfInBounds_toArray, List.set_cons_zero, List.set_cons_succ, i64_w, i32_w]
                          rfl
                         refine take_ (i := 11) (N := some 103) (v := ?_) (a' := ?_) #[true,true,true,true,true,true,true,false,true,true,true,true,true,true,false,false,false,false] rfl rfl (take_ofW HT_.out HW_.out (by kernel_rfl)) (fun _ _ _ h => h) (Or.inl ⟨by rfl, ?_⟩) hHeld ?_ ?_
                         rotate_left
                         ·
                          rintro w' ⟨s0, s1, s2, s3⟩
                          go_simp
                          with_reducible rfl
                         rotate_left
                         ·
                          simp only [Act.put, List.setIfInBounds_toArray, List.set_cons_zero, List.set_cons_succ, i64_w, i32_w]
                          rfl
                         refine take_ (i := 14) (N := some 106) (v := ?_) (a' := ?_) #[true,true,true,true,true,true,true,false,true,true,true,true,true,true,true,false,false,false] rfl rfl (take_ofW HT_.out HW_.out (by kernel_rfl)) (fun _ _ _ h => h) (Or.inl ⟨by rfl, ?_⟩) hHeld ?_ ?_
                         rotate_left
                         ·
                          rintro w' ⟨s0, s1, s2, s3⟩
                          go_simp
                          with_reducible rfl
                         rotate_left
                         ·
                          simp only [Act.put, List.setIfInBounds_toArray, List.set_cons_zero, List.set_cons_succ, i64_w, i32_w]
                          rfl
                         refine one_ (i := 7) (N := some 99) #[true,true,true,true,true,true,true,true,true,true,true,true,true,true,true,false,false,false] rfl rfl (one_of HT_.out (by kernel_rfl)) (by decide) (fun K hK => ?_)
                         refine goes_ Tryd.func16 (by kernel_rfl) rfl #[.pointer (some ⟨g234, 0, none⟩), .int .i64 (rd l0 0), .int .i64 (rd l0 1)] (by rfl) rfl rfl (by (try simp only [List.map_toArray, List.map_cons, List.map_nil]); first | done | rfl | (simp only [List.length_drop, List.length_take]; rfl)) ?_
                         with_reducible refine (schedule_Interim.calls kj4 g234 t256 (rd l0 0) (rd l0 1) t259 t260 w _ ?side1 ?side2 A33.out).mono ?_
                         (case side1 => repeat (first | (with_reducible first | exact HI234.out | apply IsS80.alloc | apply IsS80.drewN | apply IsS80.drew | apply IsS80.set_0) | exact HI234.out))
                         (case side2 => repeat (first | (with_reducible first | exact HB.out | apply below_alloc | apply pw_below_drewN | apply below_drew1 | refine below_set ?_ (IsS80.ge HI234.out)) | exact HB.out))
                         rintro e w229 ⟨rfl, hi, hb, hk⟩
                         refine ⟨_, rfl, ?_⟩
                         have n0_ := Aside0.mk (hb)
                         have n1_ := Aside0.mk (hi)
                         clear HB
                         clear HI234
                         have HB := n0_
                         have HI234 := n1_
                         clear n0_ n1_
                         (try clear hb)
                         (try clear hb2)
                         (try clear hk)
                         (try clear hi)
                         refine hK.out _ _ ⟨((HB.out.cell (World.block_lt_of_cell? w _ hw257_0)).trans hw257_0), ((HB.out.cell (World.block_lt_of_cell? w _ hw258_0)).trans hw258_0), ((HB.out.cell (World.block_lt_of_cell? w _ hw261_0)).trans hw261_0), ((HB.out.cell (World.block_lt_of_cell? w _ hw262_0)).trans hw262_0)⟩ (fun hHeld => ?_)
                         clear hK K
                         refine norm_ (a' := ?_) ?_ ?_
                         rotate_left
                         ·
                          show Act.put _ (some 99) _ = _
                          simp only [Act.put, List.setIfInBounds_toArray, List.set_cons_zero, List.set_cons_succ, i64_w, i32_w]
                          rfl
                         refine one_ (i := 15) (N := some 107) #[true,true,true,true,true,true,true,true,true,true,true,true,true,true,true,true,false,false] rfl rfl (one_of HT_.out (by kernel_rfl)) (by decide) (fun K hK => ?_)
                         refine goes_ Tryd.func16 (by kernel_rfl) rfl #[.pointer (some ⟨g234, 0, none⟩), .int .i64 (rd l1 0), .int .i64 (rd l1 1)] (by rfl) rfl rfl (by (try simp only [List.map_toArray, List.map_cons, List.map_nil]); first | done | rfl | (simp only [List.length_drop, List.length_take]; rfl)) ?_
                         with_reducible refine (schedule_Interim.calls kj4 g234 t260 (rd l1 0) (rd l1 1) t263 t264 w _ ?side1 ?side2 A34.out).mono ?_
                         (case side1 => repeat (first | (with_reducible first | exact HI234.out | apply IsS80.alloc | apply IsS80.drewN | apply IsS80.drew | apply IsS80.set_0) | exact HI234.out))
                         (case side2 => repeat (first | (with_reducible first | exact HB.out | apply below_alloc | apply pw_below_drewN | apply below_drew1 | refine below_set ?_ (IsS80.ge HI234.out)) | exact HB.out))
                         rintro e w230 ⟨rfl, hi, hb, hk⟩
                         refine ⟨_, rfl, ?_⟩
                         have n0_ := Aside0.mk (hb)
                         have n1_ := Aside0.mk (hi)
                         clear HB
                         clear HI234
                         have HB := n0_
                         have HI234 := n1_
                         clear n0_ n1_
                         (try clear hb)
                         (try clear hb2)
                         (try clear hk)
                         (try clear hi)
                         refine hK.out _ _ ⟨((HB.out.cell (World.block_lt_of_cell? w _ hw257_0)).trans hw257_0), ((HB.out.cell (World.block_lt_of_cell? w _ hw258_0)).trans hw258_0), ((HB.out.cell (World.block_lt_of_cell? w _ hw261_0)).trans hw261_0), ((HB.out.cell (World.block_lt_of_cell? w _ hw262_0)).trans hw262_0)⟩ (fun hHeld => ?_)
                         clear hK K
                         refine norm_ (a' := ?_) ?_ ?_
                         rotate_left
                         ·
                          show Act.put _ (some 107) _ = _
                          simp only [Act.put, List.setIfInBounds_toArray, List.set_cons_zero, List.set_cons_succ, i64_w, i32_w]
                          rfl
                         refine pure_ (i := 16) (N := some 11) (v := ?_) (a' := ?_) #[true,true,true,true,true,true,true,true,true,true,true,true,true,true,true,true,true,false] rfl rfl (any_of HT_.out (by kernel_rfl)) (fun _ _ _ h => h) (Or.inl ⟨by rfl, ?_⟩) ?_ ?_
                         rotate_left; (intro w'; go_simp; with_reducible rfl); rotate_left; (simp only [Act.put, List.setIfInBounds_toArray, List.set_cons_zero, List.set_cons_succ, i64_w, i32_w]; rfl)
                         refine pure_ (i := 17) (N := some 12) (v := ?_) (a' := ?_) #[true,true,true,true,true,true,true,true,true,true,true,true,true,true,true,true,true,true] rfl rfl (any_of HT_.out (by kernel_rfl)) (fun _ _ _ h => h) (Or.inl ⟨by rfl, ?_⟩) ?_ ?_
                         rotate_left; (intro w'; go_simp; with_reducible rfl); rotate_left; (simp only [Act.put, List.setIfInBounds_toArray, List.set_cons_zero, List.set_cons_succ, i64_w, i32_w]; rfl)
                         refine done_ (done_of HT_.out (by kernel_rfl)) ?_
                         try go_wp2
                         have n0_ := Aside0.mk (IsS80.drew HI234.out)
                         have n1_ := Aside0.mk (below_drew1 HB.out)
                         clear HI234
                         clear HB
                         have HI234 := n0_
                         have HB := n1_
                         clear n0_ n1_
                         have p265 : 0 ≤ (0 : Int) := (by omega)
                         have q265 : 0 < (l0.length : Int) := of_decide_eq_true (by first | (with_reducible assumption) | assumption)
                         obtain ⟨ad265, e265, hx265_0⟩ := Kd.at_int HR0.out 0 p265 q265
                         have hw265_0 := hx265_0
                         (try rw [show ((0 : Int)).toNat = 0 from rfl] at hw265_0)
                         (try rw [show 0 * 1 = 0 from rfl] at hw265_0)
                         (try rw [Addr.add_zero'] at hw265_0)
                         obtain rfl : ad235 = ad265 := (by injection e265)
                         have qi265 : (0 < l0.length) = True := eq_true (by omega)
                         (try rw [show ((0 : Int)).toNat = 0 from rfl] at hx265_0)
                         (try rw [Addr.add_zero'] at hx265_0)
                         replace hx265_0 := (HB.out.cell (World.block_lt_of_cell? w _ hx265_0)).trans hx265_0
                         replace p265 := eq_true p265
                         replace q265 := eq_true q265
                         have p266 : 0 ≤ (0 : Int) := (by omega)
                         have q266 : 0 < (l1.length : Int) := of_decide_eq_true (by first | (with_reducible assumption) | assumption)
                         obtain ⟨ad266, e266, hx266_0⟩ := Kd.at_int HR1.out 0 p266 q266
                         have hw266_0 := hx266_0
                         (try rw [show ((0 : Int)).toNat = 0 from rfl] at hw266_0)
                         (try rw [show 0 * 1 = 0 from rfl] at hw266_0)
                         (try rw [Addr.add_zero'] at hw266_0)
                         obtain rfl : ad241 = ad266 := (by injection e266)
                         have qi266 : (0 < l1.length) = True := eq_true (by omega)
                         (try rw [show ((0 : Int)).toNat = 0 from rfl] at hx266_0)
                         (try rw [Addr.add_zero'] at hx266_0)
                         replace hx266_0 := (HB.out.cell (World.block_lt_of_cell? w _ hx266_0)).trans hx266_0
                         replace p266 := eq_true p266
                         replace q266 := eq_true q266
                         have p267 : 0 ≤ (1 : Int) := (by omega)
                         have q267 : 1 < (l0.length : Int) := of_decide_eq_true (by first | (with_reducible assumption) | assumption)
                         obtain ⟨ad267, e267, hx267_0⟩ := Kd.at_int HR0.out 1 p267 q267
                         have hw267_0 := hx267_0
                         (try rw [show ((1 : Int)).toNat = 1 from rfl] at hw267_0)
                         (try rw [show 1 * 1 = 1 from rfl] at hw267_0)
                         (try simp only [Nat.reduceMul, Nat.reduceEqDiff, Go.Addr.add, ↓reduceIte] at hw267_0)
                         obtain rfl : ad235 = ad267 := (by injection e267)
                         (try simp only [show (1 : Int).toNat = 1 from rfl, Nat.reduceMul, Nat.reduceEqDiff, Go.Addr.add, ↓reduceIte] at hx267_0)
                         have qi267 : (1 < l0.length) = True := eq_true (by omega)
                         (try rw [show ((1 : Int)).toNat = 1 from rfl] at hx267_0)
                         replace hx267_0 := (HB.out.cell (World.block_lt_of_cell? w _ hx267_0)).trans hx267_0
                         replace p267 := eq_true p267
                         replace q267 := eq_true q267
                         have p268 : 0 ≤ (1 : Int) := (by omega)
                         have q268 : 1 < (l1.length : Int) := of_decide_eq_true (by first | (with_reducible assumption) | assumption)
                         obtain ⟨ad268, e268, hx268_0⟩ := Kd.at_int HR1.out 1 p268 q268
                         have hw268_0 := hx268_0
                         (try rw [show ((1 : Int)).toNat = 1 from rfl] at hw268_0)
                         (try rw [show 1 * 1 = 1 from rfl] at hw268_0)
                         (try simp only [Nat.reduceMul, Nat.reduceEqDiff, Go.Addr.add, ↓reduceIte] at hw268_0)
                         obtain rfl : ad241 = ad268 := (by injection e268)
                         (try simp only [show (1 : Int).toNat = 1 from rfl, Nat.reduceMul, Nat.reduceEqDiff, Go.Addr.add, ↓reduceIte] at hx268_0)
                         have qi268 : (1 < l1.length) = True := eq_true (by omega)
                         (try rw [show ((1 : Int)).toNat = 1 from rfl] at hx268_0)
                         replace hx268_0 := (HB.out.cell (World.block_lt_of_cell? w _ hx268_0)).trans hx268_0
                         replace p268 := eq_true p268
                         replace q268 := eq_true q268
                         refine start_ (n := 17) (S := fun w' => w'.cell? ad235 = some (.int .i64 (rd l0 0)) ∧ w'.cell? ad241 = some (.int .i64 (rd l1 0)) ∧ w'.cell? ⟨ad235.block, ad235.off + 1, none⟩ = some (.int .i64 (rd l0 1)) ∧ w'.cell? ⟨ad241.block, ad241.off + 1, none⟩ = some (.int .i64 (rd l1 1))) (ds := []) #[false,false,false,false,false,false,false,false,false,false,false,false,false,false,false,false,false] (by kernel_rfl) rfl rfl ⟨((HB.out.cell (World.block_lt_of_cell? w _ hw265_0)).trans hw265_0), ((HB.out.cell (World.block_lt_of_cell? w _ hw266_0)).trans hw266_0), ((HB.out.cell (World.block_lt_of_cell? w _ hw267_0)).trans hw267_0), ((HB.out.cell (World.block_lt_of_cell? w _ hw268_0)).trans hw268_0)⟩ (fun hHeld => ?_); refine with_tabW conclavelaw07_ScheduleBinds.tab11 conclavelaw07_ScheduleBinds.bits11 (fun HT_ HW_ => ?_)
                         generalize w230.drew = w231 at HI234 HB hx265_0 hx266_0 hx267_0 hx268_0 hHeld ⊢
                         refine pure_ (i := 0) (N := some 108) (v := ?_) (a' := ?_) #[true,false,false,false,false,false,false,false,false,false,false,false,false,false,false,false,false] rfl rfl (any_of HT_.out (by kernel_rfl)) (fun _ _ _ h => h) (Or.inl ⟨by rfl, ?_⟩) ?_ ?_
                         rotate_left; (intro w'; go_simp; with_reducible rfl); rotate_left; (simp only [Act.put, List.setIfInBounds_toArray, List.set_cons_zero, List.set_cons_succ, i64_w, i32_w]; rfl)
                         refine pure_ (i := 1) (N := some 109) (v := ?_) (a' := ?_) #[true,true,false,false,false,false,false,false,false,false,false,false,false,false,false,false,false] rfl rfl (any_of HT_.out (by kernel_rfl)) (fun _ _ _ h => h) (Or.inl ⟨by rfl, ?_⟩) ?_ ?_
                         rotate_left; (intro w'; go_simp; with_reducible rfl); rotate_left; (simp only [Act.put, List.setIfInBounds_toArray, List.set_cons_zero, List.set_cons_succ, i64_w, i32_w]; rfl)
                         refine pure_ (i := 3) (N := some 111) (v := ?_) (a' := ?_) #[true,true,false,true,false,false,false,false,false,false,false,false,false,false,false,false,false] rfl rfl (any_of HT_.out (by kernel_rfl)) (fun _ _ _ h => h) (Or.inl ⟨by rfl, ?_⟩) ?_ ?_
                         rotate_left; (intro w'; go_simp; with_reducible rfl); rotate_left; (simp only [Act.put, List.setIfInBounds_toArray, List.set_cons_zero, List.set_cons_succ, i64_w, i32_w]; rfl)
                         refine pure_ (i := 4) (N := some 112) (v := ?_) (a' := ?_) #[true,true,false,true,true,false,false,false,false,false,false,false,false,false,false,false,false] rfl rfl (any_of HT_.out (by kernel_rfl)) (fun _ _ _ h => h) (Or.inl ⟨by rfl, ?_⟩) ?_ ?_
                         rotate_left; (intro w'; go_simp; with_reducible rfl); rotate_left; (simp only [Act.put, List.setIfInBounds_toArray, List.set_cons_zero, List.set_cons_succ, i64_w, i32_w]; rfl)
                         refine take_ (i := 2) (N := some 110) (v := ?_) (a' := ?_) #[true,true,true,true,true,false,false,false,false,false,false,false,false,false,false,false,false] rfl rfl (take_ofW HT_.out HW_.out (by kernel_rfl)) (fun _ _ _ h => h) (Or.inl ⟨by rfl, ?_⟩) hHeld ?_ ?_
                         rotate_left
                         ·
                          rintro w' ⟨s0, s1, s2, s3⟩
                          go_simp
                          with_reducible rfl
                         rotate_left
                         ·
                          simp only [Act.put, List.setIfInBounds_toArray, List.set_cons_zero, List.set_cons_succ, i64_w, i32_w]
                          rfl
                         refine take_ (i := 5) (N := some 113) (v := ?_) (a' := ?_) #[true,true,true,true,true,true,false,false,false,false,false,false,false,false,false,false,false] rfl rfl (take_ofW HT_.out HW_.out (by kernel_rfl)) (fun _ _ _ h => h) (Or.inl ⟨by rfl, ?_⟩) hHeld ?_ ?_
                         rotate_left
                         ·
                          rintro w' ⟨s0, s1, s2, s3⟩
                          go_simp
                          with_reducible rfl
                         rotate_left
                         ·
                          simp only [Act.put, List.setIfInBounds_toArray, List.set_cons_zero, List.set_cons_succ, i64_w, i32_w]
                          rfl
                         refine pure_ (i := 6) (N := some 114) (v := ?_) (a' := ?_) #[true,true,true,true,true,true,true,false,false,false,false,false,false,false,false,false,false] rfl rfl (any_of HT_.out (by kernel_rfl)) (fun _ _ _ h => h) (Or.inl ⟨by rfl, ?_⟩) ?_ ?_
                         rotate_left; (intro w'; go_simp; with_reducible rfl); rotate_left; (simp only [Act.put, List.setIfInBounds_toArray, List.set_cons_zero, List.set_cons_succ, i64_w, i32_w]; rfl)
                         refine pure_ (i := 7) (N := some 115) (v := ?_) (a' := ?_) #[true,true,true,true,true,true,true,true,false,false,false,false,false,false,false,false,false] rfl rfl (any_of HT_.out (by kernel_rfl)) (fun _ _ _ h => h) (Or.inl ⟨by rfl, ?_⟩) ?_ ?_
                         rotate_left; (intro w'; go_simp; with_reducible rfl); rotate_left; (simp only [Act.put, List.setIfInBounds_toArray, List.set_cons_zero, List.set_cons_succ, i64_w, i32_w]; rfl)
                         refine pure_ (i := 8) (N := some 116) (v := ?_) (a' := ?_) #[true,true,true,true,true,true,true,true,true,false,false,false,false,false,false,false,false] rfl rfl (any_of HT_.out (by kernel_rfl)) (fun _ _ _ h => h) (Or.inl ⟨by rfl, ?_⟩) ?_ ?_
                         rotate_left; (intro w'; go_simp; with_reducible rfl); rotate_left; (simp only [Act.put, List.setIfInBounds_toArray, List.set_cons_zero, List.set_cons_succ, i64_w, i32_w]; rfl)
                         refine pure_ (i := 9) (N := some 117) (v := ?_) (a' := ?_) #[true,true,true,true,true,true,true,true,true,true,false,false,false,false,false,false,false] rfl rfl (any_of HT_.out (by kernel_rfl)) (fun _ _ _ h => h) (Or.inl ⟨by rfl, ?_⟩) ?_ ?_
                         rotate_left; (intro w'; go_simp; with_reducible rfl); rotate_left; (simp only [Act.put, List.setIfInBounds_toArray, List.set_cons_zero, List.set_cons_succ, i64_w, i32_w]; rfl)
                         refine pure_ (i := 11) (N := some 119) (v := ?_) (a' := ?_) #[true,true,true,true,true,true,true,true,true,true,false,true,false,false,false,false,false] rfl rfl (any_of HT_.out (by kernel_rfl)) (fun _ _ _ h => h) (Or.inl ⟨by rfl, ?_⟩) ?_ ?_
                         rotate_left; (intro w'; go_simp; with_reducible rfl); rotate_left; (simp only [Act.put, List.setIfInBounds_toArray, List.set_cons_zero, List.set_cons_succ, i64_w, i32_w]; rfl)
                         refine pure_ (i := 12) (N := some 120) (v := ?_) (a' := ?_) #[true,true,true,true,true,true,true,true,true,true,false,true,true,false,false,false,false] rfl rfl (any_of HT_.out (by kernel_rfl)) (fun _ _ _ h => h) (Or.inl ⟨by rfl, ?_⟩) ?_ ?_
                         rotate_left; (intro w'; go_simp; with_reducible rfl); rotate_left; (simp only [Act.put, List.setIfInBounds_toArray, List.set_cons_zero, List.set_cons_succ, i64_w, i32_w]; rfl)
                         refine take_ (i := 10) (N := some 118) (v := ?_) (a' := ?_) #[true,true,true,true,true,true,true,true,true,true,true,true,true,false,false,false,false] rfl rfl (take_ofW HT_.out HW_.out (by kernel_rfl)) (fun _ _ _ h => h) (Or.inl ⟨by rfl, ?_⟩) hHeld ?_ ?_
                         rotate_left
                         ·
                          rintro w' ⟨s0, s1, s2, s3⟩
                          go_simp
                          with_reducible rfl
                         rotate_left
                         ·
                          simp only [Act.put, List.setIfInBounds_toArray, List.set_cons_zero, List.set_cons_succ, i64_w, i32_w]
                          rfl
                         refine take_ (i := 13) (N := some 121) (v := ?_) (a' := ?_) #[true,true,true,true,true,true,true,true,true,true,true,true,true,true,false,false,false] rfl rfl (take_ofW HT_.out HW_.out (by kernel_rfl)) (fun _ _ _ h => h) (Or.inl ⟨by rfl, ?_⟩) hHeld ?_ ?_
                         rotate_left
                         ·
                          rintro w' ⟨s0, s1, s2, s3⟩
                          go_simp
                          with_reducible rfl
                         rotate_left
                         ·
                          simp only [Act.put, List.setIfInBounds_toArray, List.set_cons_zero, List.set_cons_succ, i64_w, i32_w]
                          rfl
                         refine pure_ (i := 14) (N := some 122) (v := ?_) (a' := ?_) #[true,true,true,true,true,true,true,true,true,true,true,true,true,true,true,false,false] rfl rfl (any_of HT_.out (by kernel_rfl)) (fun _ _ _ h => h) (Or.inl ⟨by rfl, ?_⟩) ?_ ?_
                         rotate_left; (intro w'; go_simp; with_reducible rfl); rotate_left; (simp only [Act.put, List.setIfInBounds_toArray, List.set_cons_zero, List.set_cons_succ, i64_w, i32_w]; rfl)
                         refine pure_ (i := 15) (N := some 123) (v := ?_) (a' := ?_) #[true,true,true,true,true,true,true,true,true,true,true,true,true,true,true,true,false] rfl rfl (any_of HT_.out (by kernel_rfl)) (fun _ _ _ h => h) (Or.inl ⟨by rfl, ?_⟩) ?_ ?_
                         rotate_left; (intro w'; go_simp; with_reducible rfl); rotate_left; (simp only [Act.put, List.setIfInBounds_toArray, List.set_cons_zero, List.set_cons_succ, i64_w, i32_w]; rfl)
                         refine pure_ (i := 16) (N := some 13) (v := ?_) (a' := ?_) #[true,true,true,true,true,true,true,true,true,true,true,true,true,true,true,true,true] rfl rfl (any_of HT_.out (by kernel_rfl)) (fun _ _ _ h => h) (Or.inl ⟨by rfl, ?_⟩) ?_ ?_
                         rotate_left; (intro w'; go_simp; with_reducible rfl); rotate_left; (simp only [Act.put, List.setIfInBounds_toArray, List.set_cons_zero, List.set_cons_succ, i64_w, i32_w]; rfl)
                         refine done_ (done_of HT_.out (by kernel_rfl)) ?_
                         try go_wp2
                         have n0_ := Aside0.mk (IsS80.drew HI234.out)
                         have n1_ := Aside0.mk (below_drew1 HB.out)
                         clear HI234
                         clear HB
                         have HI234 := n0_
                         have HB := n1_
                         clear n0_ n1_
                         refine start_ (n := 69) (S := fun w' => True) (ds := []) #[false,false,false,false,false,false,false,false,false,false,false,false,false,false,false,false,false,false,false,false,false,false,false,false,false,false,false,false,false,false,false,false,false,false,false,false,false,false,false,false,false,false,false,false,false,false,false,false,false,false,false,false,false,false,false,false,false,false,false,false,false,false,false,false,false,false,false,false,false] (by kernel_rfl) rfl rfl trivial (fun hHeld => ?_); refine with_tabW conclavelaw07_ScheduleBinds.tab12 conclavelaw07_ScheduleBinds.bits12 (fun HT_ HW_ => ?_)
                         generalize w231.drew = w232 at HI234 HB hHeld ⊢
                         refine pure_ (i := 0) (N := some 124) (v := ?_) (a' := ?_) #[true,false,false,false,false,false,false,false,false,false,false,false,false,false,false,false,false,false,false,false,false,false,false,false,false,false,false,false,false,false,false,false,false,false,false,false,false,false,false,false,false,false,false,false,false,false,false,false,false,false,false,false,false,false,false,false,false,false,false,false,false,false,false,false,false,false,false,false,false] rfl rfl (any_of HT_.out (by kernel_rfl)) (fun _ _ _ h => h) (Or.inl ⟨by rfl, ?_⟩) ?_ ?_
                         rotate_left; (intro w'; go_simp; with_reducible rfl); rotate_left; (simp only [Act.put, List.setIfInBounds_toArray, List.set_cons_zero, List.set_cons_succ, i64_w, i32_w]; rfl)
                         refine pure_ (i := 1) (N := some 125) (v := ?_) (a' := ?_) #[true,true,false,false,false,false,false,false,false,false,false,false,false,false,false,false,false,false,false,false,false,false,false,false,false,false,false,false,false,false,false,false,false,false,false,false,false,false,false,false,false,false,false,false,false,false,false,false,false,false,false,false,false,false,false,false,false,false,false,false,false,false,false,false,false,false,false,false,false] rfl rfl (any_of HT_.out (by kernel_rfl)) (fun _ _ _ h => h) (Or.inl ⟨by rfl, ?_⟩) ?_ ?_
                         rotate_left; (intro w'; go_simp; with_reducible rfl); rotate_left; (simp only [Act.put, List.setIfInBounds_toArray, List.set_cons_zero, List.set_cons_succ, i64_w, i32_w]; rfl)
                         refine pure_ (i := 2) (N := some 126) (v := ?_) (a' := ?_) #[true,true,true,false,false,false,false,false,false,false,false,false,false,false,false,false,false,false,false,false,false,false,false,false,false,false,false,false,false,false,false,false,false,false,false,false,false,false,false,false,false,false,false,false,false,false,false,false,false,false,false,false,false,false,false,false,false,false,false,false,false,false,false,false,false,false,false,false,false] rfl rfl (any_of HT_.out (by kernel_rfl)) (fun _ _ _ h => h) (Or.inl ⟨by rfl, ?_⟩) ?_ ?_
                         rotate_left; (intro w'; go_simp; with_reducible rfl); rotate_left; (simp only [Act.put, List.setIfInBounds_toArray, List.set_cons_zero, List.set_cons_succ, i64_w, i32_w]; rfl)
                         refine pure_ (i := 3) (N := some 127) (v := ?_) (a' := ?_) #[true,true,true,true,false,false,false,false,false,false,false,false,false,false,false,false,false,false,false,false,false,false,false,false,false,false,false,false,false,false,false,false,false,false,false,false,false,false,false,false,false,false,false,false,false,false,false,false,false,false,false,false,false,false,false,false,false,false,false,false,false,false,false,false,false,false,false,false,false] rfl rfl (any_of HT_.out (by kernel_rfl)) (fun _ _ _ h => h) (Or.inl ⟨by rfl, ?_⟩) ?_ ?_
                         rotate_left; (intro w'; go_simp; with_reducible rfl); rotate_left; (simp only [Act.put, List.setIfInBounds_toArray, List.set_cons_zero, List.set_cons_succ, i64_w, i32_w]; rfl)
                         refine pure_ (i := 4) (N := some 128) (v := ?_) (a' := ?_) #[true,true,true,true,true,false,false,false,false,false,false,false,false,false,false,false,false,false,false,false,false,false,false,false,false,false,false,false,false,false,false,false,false,false,false,false,false,false,false,false,false,false,false,false,false,false,false,false,false,false,false,false,false,false,false,false,false,false,false,false,false,false,false,false,false,false,false,false,false] rfl rfl (any_of HT_.out (by kernel_rfl)) (fun _ _ _ h => h) (Or.inl ⟨by rfl, ?_⟩) ?_ ?_
                         rotate_left; (intro w'; go_simp; with_reducible rfl); rotate_left; (simp only [Act.put, List.setIfInBounds_toArray, List.set_cons_zero, List.set_cons_succ, i64_w, i32_w]; rfl)
                         refine pure_ (i := 5) (N := some 129) (v := ?_) (a' := ?_) #[true,true,true,true,true,true,false,false,false,false,false,false,false,false,false,false,false,false,false,false,false,false,false,false,false,false,false,false,false,false,false,false,false,false,false,false,false,false,false,false,false,false,false,false,false,false,false,false,false,false,false,false,false,false,false,false,false,false,false,false,false,false,false,false,false,false,false,false,false] rfl rfl (any_of HT_.out (by kernel_rfl)) (fun _ _ _ h => h) (Or.inl ⟨by rfl, ?_⟩) ?_ ?_
                         rotate_left; (intro w'; go_simp; with_reducible rfl); rotate_left; (simp only [Act.put, List.setIfInBounds_toArray, List.set_cons_zero, List.set_cons_succ, i64_w, i32_w]; rfl)
                         refine pure_ (i := 6) (N := some 130) (v := ?_) (a' := ?_) #[true,true,true,true,true,true,true,false,false,false,false,false,false,false,false,false,false,false,false,false,false,false,false,false,false,false,false,false,false,false,false,false,false,false,false,false,false,false,false,false,false,false,false,false,false,false,false,false,false,false,false,false,false,false,false,false,false,false,false,false,false,false,false,false,false,false,false,false,false] rfl rfl (any_of HT_.out (by kernel_rfl)) (fun _ _ _ h => h) (Or.inl ⟨by rfl, ?_⟩) ?_ ?_
                         rotate_left; (intro w'; go_simp; with_reducible rfl); rotate_left; (simp only [Act.put, List.setIfInBounds_toArray, List.set_cons_zero, List.set_cons_succ, i64_w, i32_w]; rfl)
                         refine pure_ (i := 7) (N := some 131) (v := ?_) (a' := ?_) #[true,true,true,true,true,true,true,true,false,false,false,false,false,false,false,false,false,false,false,false,false,false,false,false,false,false,false,false,false,false,false,false,false,false,false,false,false,false,false,false,false,false,false,false,false,false,false,false,false,false,false,false,false,false,false,false,false,false,false,false,false,false,false,false,false,false,false,false,false] rfl rfl (any_of HT_.out (by kernel_rfl)) (fun _ _ _ h => h) (Or.inl ⟨by rfl, ?_⟩) ?_ ?_
                         rotate_left; (intro w'; go_simp; with_reducible rfl); rotate_left; (simp only [Act.put, List.setIfInBounds_toArray, List.set_cons_zero, List.set_cons_succ, i64_w, i32_w]; rfl)
                         refine pure_ (i := 8) (N := some 132) (v := ?_) (a' := ?_) #[true,true,true,true,true,true,true,true,true,false,false,false,false,false,false,false,false,false,false,false,false,false,false,false,false,false,false,false,false,false,false,false,false,false,false,false,false,false,false,false,false,false,false,false,false,false,false,false,false,false,false,false,false,false,false,false,false,false,false,false,false,false,false,false,false,false,false,false,false] rfl rfl (any_of HT_.out (by kernel_rfl)) (fun _ _ _ h => h) (Or.inl ⟨by rfl, ?_⟩) ?_ ?_
                         rotate_left; (intro w'; go_simp; with_reducible rfl); rotate_left; (simp only [Act.put, List.setIfInBounds_toArray, List.set_cons_zero, List.set_cons_succ, i64_w, i32_w]; rfl)
                         refine pure_ (i := 9) (N := some 133) (v := ?_) (a' := ?_) #[true,true,true,true,true,true,true,true,true,true,false,false,false,false,false,false,false,false,false,false,false,false,false,false,false,false,false,false,false,false,false,false,false,false,false,false,false,false,false,false,false,false,false,false,false,false,false,false,false,false,false,false,false,false,false,false,false,false,false,false,false,false,false,false,false,false,false,false,false] rfl rfl (any_of HT_.out (by kernel_rfl)) (fun _ _ _ h => h) (Or.inl ⟨by rfl, ?_⟩) ?_ ?_
                         rotate_left; (intro w'; go_simp; with_reducible rfl); rotate_left; (simp only [Act.put, List.setIfInBounds_toArray, List.set_cons_zero, List.set_cons_succ, i64_w, i32_w]; rfl)
                         refine pure_ (i := 10) (N := some 134) (v := ?_) (a' := ?_) #[true,true,true,true,true,true,true,true,true,true,true,false,false,false,false,false,false,false,false,false,false,false,false,false,false,false,false,false,false,false,false,false,false,false,false,false,false,false,false,false,false,false,false,false,false,false,false,false,false,false,false,false,false,false,false,false,false,false,false,false,false,false,false,false,false,false,false,false,false] rfl rfl (any_of HT_.out (by kernel_rfl)) (fun _ _ _ h => h) (Or.inl ⟨by rfl, ?_⟩) ?_ ?_
                         rotate_left; (intro w'; go_simp; with_reducible rfl); rotate_left; (simp only [Act.put, List.setIfInBounds_toArray, List.set_cons_zero, List.set_cons_succ, i64_w, i32_w]; rfl)
                         refine pure_ (i := 11) (N := some 135) (v := ?_) (a' := ?_) #[true,true,true,true,true,true,true,true,true,true,true,true,false,false,false,false,false,false,false,false,false,false,false,false,false,false,false,false,false,false,false,false,false,false,false,false,false,false,false,false,false,false,false,false,false,false,false,false,false,false,false,false,false,false,false,false,false,false,false,false,false,false,false,false,false,false,false,false,false] rfl rfl (any_of HT_.out (by kernel_rfl)) (fun _ _ _ h => h) (Or.inl ⟨by rfl, ?_⟩) ?_ ?_
                         rotate_left; (intro w'; go_simp; with_reducible rfl); rotate_left; (simp only [Act.put, List.setIfInBounds_toArray, List.set_cons_zero, List.set_cons_succ, i64_w, i32_w]; rfl)
                         refine pure_ (i := 12) (N := some 136) (v := ?_) (a' := ?_) #[true,true,true,true,true,true,true,true,true,true,true,true,true,false,false,false,false,false,false,false,false,false,false,false,false,false,false,false,false,false,false,false,false,false,false,false,false,false,false,false,false,false,false,false,false,false,false,false,false,false,false,false,false,false,false,false,false,false,false,false,false,false,false,false,false,false,false,false,false] rfl rfl (any_of HT_.out (by kernel_rfl)) (fun _ _ _ h => h) (Or.inl ⟨by rfl, ?_⟩) ?_ ?_
                         rotate_left; (intro w'; go_simp; with_reducible rfl); rotate_left; (simp only [Act.put, List.setIfInBounds_toArray, List.set_cons_zero, List.set_cons_succ, i64_w, i32_w]; rfl)
                         refine pure_ (i := 13) (N := some 137) (v := ?_) (a' := ?_) #[true,true,true,true,true,true,true,true,true,true,true,true,true,true,false,false,false,false,false,false,false,false,false,false,false,false,false,false,false,false,false,false,false,false,false,false,false,false,false,false,false,false,false,false,false,false,false,false,false,false,false,false,false,false,false,false,false,false,false,false,false,false,false,false,false,false,false,false,false] rfl rfl (any_of HT_.out (by kernel_rfl)) (fun _ _ _ h => h) (Or.inl ⟨by rfl, ?_⟩) ?_ ?_
                         rotate_left; (intro w'; go_simp; with_reducible rfl); rotate_left; (simp only [Act.put, List.setIfInBounds_toArray, List.set_cons_zero, List.set_cons_succ, i64_w, i32_w]; rfl)
                         refine pure_ (i := 14) (N := some 138) (v := ?_) (a' := ?_) #[true,true,true,true,true,true,true,true,true,true,true,true,true,true,true,false,false,false,false,false,false,false,false,false,false,false,false,false,false,false,false,false,false,false,false,false,false,false,false,false,false,false,false,false,false,false,false,false,false,false,false,false,false,false,false,false,false,false,false,false,false,false,false,false,false,false,false,false,false] rfl rfl (any_of HT_.out (by kernel_rfl)) (fun _ _ _ h => h) (Or.inl ⟨by rfl, ?_⟩) ?_ ?_
                         rotate_left; (intro w'; go_simp; with_reducible rfl); rotate_left; (simp only [Act.put, List.setIfInBounds_toArray, List.set_cons_zero, List.set_cons_succ, i64_w, i32_w]; rfl)
                         refine pure_ (i := 15) (N := some 139) (v := ?_) (a' := ?_) #[true,true,true,true,true,true,true,true,true,true,true,true,true,true,true,true,false,false,false,false,false,false,false,false,false,false,false,false,false,false,false,false,false,false,false,false,false,false,false,false,false,false,false,false,false,false,false,false,false,false,false,false,false,false,false,false,false,false,false,false,false,false,false,false,false,false,false,false,false] rfl rfl (any_of HT_.out (by kernel_rfl)) (fun _ _ _ h => h) (Or.inl ⟨by rfl, ?_⟩) ?_ ?_
                         rotate_left; (intro w'; go_simp; with_reducible rfl); rotate_left; (simp only [Act.put, List.setIfInBounds_toArray, List.set_cons_zero, List.set_cons_succ, i64_w, i32_w]; rfl)
                         refine pure_ (i := 16) (N := some 140) (v := undef) (a' := ?_) #[true,true,true,true,true,true,true,true,true,true,true,true,true,true,true,true,true,false,false,false,false,false,false,false,false,false,false,false,false,false,false,false,false,false,false,false,false,false,false,false,false,false,false,false,false,false,false,false,false,false,false,false,false,false,false,false,false,false,false,false,false,false,false,false,false,false,false,false,false] rfl rfl (any_of HT_.out (by kernel_rfl)) (fun _ _ _ h => h) (Or.inr ⟨by rfl, rfl⟩) ?_ ?_
                         rotate_left
                         ·
                          simp only [Act.put, List.setIfInBounds_toArray, List.set_cons_zero, List.set_cons_succ, i64_w, i32_w]
                          rfl
                         refine pure_ (i := 17) (N := some 141) (v := undef) (a' := ?_) #[true,true,true,true,true,true,true,true,true,true,true,true,true,true,true,true,true,true,false,false,false,false,false,false,false,false,false,false,false,false,false,false,false,false,false,false,false,false,false,false,false,false,false,false,false,false,false,false,false,false,false,false,false,false,false,false,false,false,false,false,false,false,false,false,false,false,false,false,false] rfl rfl (any_of HT_.out (by kernel_rfl)) (fun _ _ _ h => h) (Or.inr ⟨by rfl, rfl⟩) ?_ ?_
                         rotate_left
                         ·
                          simp only [Act.put, List.setIfInBounds_toArray, List.set_cons_zero, List.set_cons_succ, i64_w, i32_w]
                          rfl
                         refine pure_ (i := 18) (N := some 142) (v := undef) (a' := ?_) #[true,true,true,true,true,true,true,true,true,true,true,true,true,true,true,true,true,true,true,false,false,false,false,false,false,false,false,false,false,false,false,false,false,false,false,false,false,false,false,false,false,false,false,false,false,false,false,false,false,false,false,false,false,false,false,false,false,false,false,false,false,false,false,false,false,false,false,false,false] rfl rfl (any_of HT_.out (by kernel_rfl)) (fun _ _ _ h => h) (Or.inr ⟨by rfl, rfl⟩) ?_ ?_
                         rotate_left
                         ·
                          simp only [Act.put, List.setIfInBounds_toArray, List.set_cons_zero, List.set_cons_succ, i64_w, i32_w]
                          rfl
                         refine pure_ (i := 19) (N := some 143) (v := undef) (a' := ?_) #[true,true,true,true,true,true,true,true,true,true,true,true,true,true,true,true,true,true,true,true,false,false,false,false,false,false,false,false,false,false,false,false,false,false,false,false,false,false,false,false,false,false,false,false,false,false,false,false,false,false,false,false,false,false,false,false,false,false,false,false,false,false,false,false,false,false,false,false,false] rfl rfl (any_of HT_.out (by kernel_rfl)) (fun _ _ _ h => h) (Or.inr ⟨by rfl, rfl⟩) ?_ ?_
                         rotate_left
                         ·
                          simp only [Act.put, List.setIfInBounds_toArray, List.set_cons_zero, List.set_cons_succ, i64_w, i32_w]
                          rfl
                         refine pure_ (i := 20) (N := some 144) (v := undef) (a' := ?_) #[true,true,true,true,true,true,true,true,true,true,true,true,true,true,true,true,true,true,true,true,true,false,false,false,false,false,false,false,false,false,false,false,false,false,false,false,false,false,false,false,false,false,false,false,false,false,false,false,false,false,false,false,false,false,false,false,false,false,false,false,false,false,false,false,false,false,false,false,false] rfl rfl (any_of HT_.out (by kernel_rfl)) (fun _ _ _ h => h) (Or.inr ⟨by rfl, rfl⟩) ?_ ?_
                         rotate_left
                         ·
                          simp only [Act.put, List.setIfInBounds_toArray, List.set_cons_zero, List.set_cons_succ, i64_w, i32_w]
                          rfl
                         refine pure_ (i := 21) (N := some 145) (v := undef) (a' := ?_) #[true,true,true,true,true,true,true,true,true,true,true,true,true,true,true,true,true,true,true,true,true,true,false,false,false,false,false,false,false,false,false,false,false,false,false,false,false,false,false,false,false,false,false,false,false,false,false,false,false,false,false,false,false,false,false,false,false,false,false,false,false,false,false,false,false,false,false,false,false] rfl rfl (any_of HT_.out (by kernel_rfl)) (fun _ _ _ h => h) (Or.inr ⟨by rfl, rfl⟩) ?_ ?_
                         rotate_left
                         ·
                          simp only [Act.put, List.setIfInBounds_toArray, List.set_cons_zero, List.set_cons_succ, i64_w, i32_w]
                          rfl
                         refine pure_ (i := 22) (N := some 146) (v := undef) (a' := ?_) #[true,true,true,true,true,true,true,true,true,true,true,true,true,true,true,true,true,true,true,true,true,true,true,false,false,false,false,false,false,false,false,false,false,false,false,false,false,false,false,false,false,false,false,false,false,false,false,false,false,false,false,false,false,false,false,false,false,false,false,false,false,false,false,false,false,false,false,false,false] rfl rfl (any_of HT_.out (by kernel_rfl)) (fun _ _ _ h => h) (Or.inr ⟨by rfl, rfl⟩) ?_ ?_
                         rotate_left
                         ·
                          simp only [Act.put, List.setIfInBounds_toArray, List.set_cons_zero, List.set_cons_succ, i64_w, i32_w]
                          rfl
                         refine pure_ (i := 23) (N := some 147) (v := ?_) (a' := ?_) #[true,true,true,true,true,true,true,true,true,true,true,true,true,true,true,true,true,true,true,true,true,true,true,true,false,false,false,false,false,false,false,false,false,false,false,false,false,false,false,false,false,false,false,false,false,false,false,false,false,false,false,false,false,false,false,false,false,false,false,false,false,false,false,false,false,false,false,false,false] rfl rfl (any_of HT_.out (by kernel_rfl)) (fun _ _ _ h => h) (Or.inl ⟨by rfl, ?_⟩) ?_ ?_
                         rotate_left; (intro w'; go_simp; with_reducible rfl); rotate_left; (simp only [Act.put, List.setIfInBounds_toArray, List.set_cons_zero, List.set_cons_succ, i64_w, i32_w]; rfl)
                         refine pure_ (i := 24) (N := some 148) (v := ?_) (a' := ?_) #[true,true,true,true,true,true,true,true,true,true,true,true,true,true,true,true,true,true,true,true,true,true,true,true,true,false,false,false,false,false,false,false,false,false,false,false,false,false,false,false,false,false,false,false,false,false,false,false,false,false,false,false,false,false,false,false,false,false,false,false,false,false,false,false,false,false,false,false,false] rfl rfl (any_of HT_.out (by kernel_rfl)) (fun _ _ _ h => h) (Or.inl ⟨by rfl, ?_⟩) ?_ ?_
                         rotate_left; (intro w'; go_simp; with_reducible rfl); rotate_left; (simp only [Act.put, List.setIfInBounds_toArray, List.set_cons_zero, List.set_cons_succ, i64_w, i32_w]; rfl)
                         refine pure_ (i := 25) (N := some 149) (v := undef) (a' := ?_) #[true,true,true,true,true,true,true,true,true,true,true,true,true,true,true,true,true,true,true,true,true,true,true,true,true,true,false,false,false,false,false,false,false,false,false,false,false,false,false,false,false,false,false,false,false,false,false,false,false,false,false,false,false,false,false,false,false,false,false,false,false,false,false,false,false,false,false,false,false] rfl rfl (any_of HT_.out (by kernel_rfl)) (fun _ _ _ h => h) (Or.inr ⟨by rfl, rfl⟩) ?_ ?_
                         rotate_left
                         ·
                          simp only [Act.put, List.setIfInBounds_toArray, List.set_cons_zero, List.set_cons_succ, i64_w, i32_w]
                          rfl
                         refine pure_ (i := 26) (N := some 150) (v := undef) (a' := ?_) #[true,true,true,true,true,true,true,true,true,true,true,true,true,true,true,true,true,true,true,true,true,true,true,true,true,true,true,false,false,false,false,false,false,false,false,false,false,false,false,false,false,false,false,false,false,false,false,false,false,false,false,false,false,false,false,false,false,false,false,false,false,false,false,false,false,false,false,false,false] rfl rfl (any_of HT_.out (by kernel_rfl)) (fun _ _ _ h => h) (Or.inr ⟨by rfl, rfl⟩) ?_ ?_
                         rotate_left
                         ·
                          simp only [Act.put, List.setIfInBounds_toArray, List.set_cons_zero, List.set_cons_succ, i64_w, i32_w]
                          rfl
                         refine pure_ (i := 27) (N := some 151) (v := undef) (a' := ?_) #[true,true,true,true,true,true,true,true,true,true,true,true,true,true,true,true,true,true,true,true,true,true,true,true,true,true,true,true,false,false,false,false,false,false,false,false,false,false,false,false,false,false,false,false,false,false,false,false,false,false,false,false,false,false,false,false,false,false,false,false,false,false,false,false,false,false,false,false,false] rfl rfl (any_of HT_.out (by kernel_rfl)) (fun _ _ _ h => h) (Or.inr ⟨by rfl, rfl⟩) ?_ ?_
                         rotate_left
                         ·
                          simp only [Act.put, List.setIfInBounds_toArray, List.set_cons_zero, List.set_cons_succ, i64_w, i32_w]
                          rfl
                         refine pure_ (i := 28) (N := some 152) (v := undef) (a' := ?_) #[true,true,true,true,true,true,true,true,true,true,true,true,true,true,true,true,true,true,true,true,true,true,true,true,true,true,true,true,true,false,false,false,false,false,false,false,false,false,false,false,false,false,false,false,false,false,false,false,false,false,false,false,false,false,false,false,false,false,false,false,false,false,false,false,false,false,false,false,false] rfl rfl (any_of HT_.out (by kernel_rfl)) (fun _ _ _ h => h) (Or.inr ⟨by rfl, rfl⟩) ?_ ?_
                         rotate_left
                         ·
                          simp only [Act.put, List.setIfInBounds_toArray, List.set_cons_zero, List.set_cons_succ, i64_w, i32_w]
                          rfl
                         refine pure_ (i := 29) (N := some 153) (v := undef) (a' := ?_) #[true,true,true,true,true,true,true,true,true,true,true,true,true,true,true,true,true,true,true,true,true,true,true,true,true,true,true,true,true,true,false,false,false,false,false,false,false,false,false,false,false,false,false,false,false,false,false,false,false,false,false,false,false,false,false,false,false,false,false,false,false,false,false,false,false,false,false,false,false] rfl rfl (any_of HT_.out (by kernel_rfl)) (fun _ _ _ h => h) (Or.inr ⟨by rfl, rfl⟩) ?_ ?_
                         rotate_left
                         ·
                          simp only [Act.put, List.setIfInBounds_toArray, List.set_cons_zero, List.set_cons_succ, i64_w, i32_w]
                          rfl
                         refine pure_ (i := 30) (N := some 154) (v := undef) (a' := ?_) #[true,true,true,true,true,true,true,true,true,true,true,true,true,true,true,true,true,true,true,true,true,true,true,true,true,true,true,true,true,true,true,false,false,false,false,false,false,false,false,false,false,false,false,false,false,false,false,false,false,false,false,false,false,false,false,false,false,false,false,false,false,false,false,false,false,false,false,false,false] rfl rfl (any_of HT_.out (by kernel_rfl)) (fun _ _ _ h => h) (Or.inr ⟨by rfl, rfl⟩) ?_ ?_
                         rotate_left
                         ·
                          simp only [Act.put, List.setIfInBounds_toArray, List.set_cons_zero, List.set_cons_succ, i64_w, i32_w]
                          rfl
                         refine pure_ (i := 31) (N := some 155) (v := undef) (a' := ?_) #[true,true,true,true,true,true,true,true,true,true,true,true,true,true,true,true,true,true,true,true,true,true,true,true,true,true,true,true,true,true,true,true,false,false,false,false,false,false,false,false,false,false,false,false,false,false,false,false,false,false,false,false,false,false,false,false,false,false,false,false,false,false,false,false,false,false,false,false,false] rfl rfl (any_of HT_.out (by kernel_rfl)) (fun _ _ _ h => h) (Or.inr ⟨by rfl, rfl⟩) ?_ ?_
                         rotate_left
                         ·
                          simp only [Act.put, List.setIfInBounds_toArray, List.set_cons_zero, List.set_cons_succ, i64_w, i32_w]
                          rfl
                         refine pure_ (i := 32) (N := some 156) (v := ?_) (a' := ?_) #[true,true,true,true,true,true,true,true,true,true,true,true,true,true,true,true,true,true,true,true,true,true,true,true,true,true,true,true,true,true,true,true,true,false,false,false,false,false,false,false,false,false,false,false,false,false,false,false,false,false,false,false,false,false,false,false,false,false,false,false,false,false,false,false,false,false,false,false,false] rfl rfl (any_of HT_.out (by kernel_rfl)) (fun _ _ _ h => h) (Or.inl ⟨by rfl, ?_⟩) ?_ ?_
                         rotate_left; (intro w'; go_simp; with_reducible rfl); rotate_left; (simp only [Act.put, List.setIfInBounds_toArray, List.set_cons_zero, List.set_cons_succ, i64_w, i32_w]; rfl)
                         refine pure_ (i := 33) (N := some 157) (v := ?_) (a' := ?_) #[true,true,true,true,true,true,true,true,true,true,true,true,true,true,true,true,true,true,true,true,true,true,true,true,true,true,true,true,true,true,true,true,true,true,false,false,false,false,false,false,false,false,false,false,false,false,false,false,false,false,false,false,false,false,false,false,false,false,false,false,false,false,false,false,false,false,false,false,false] rfl rfl (any_of HT_.out (by kernel_rfl)) (fun _ _ _ h => h) (Or.inl ⟨by rfl, ?_⟩) ?_ ?_
                         rotate_left; (intro w'; go_simp; with_reducible rfl); rotate_left; (simp only [Act.put, List.setIfInBounds_toArray, List.set_cons_zero, List.set_cons_succ, i64_w, i32_w]; rfl)
                         refine pure_ (i := 34) (N := some 158) (v := ?_) (a' := ?_) #[true,true,true,true,true,true,true,true,true,true,true,true,true,true,true,true,true,true,true,true,true,true,true,true,true,true,true,true,true,true,true,true,true,true,true,false,false,false,false,false,false,false,false,false,false,false,false,false,false,false,false,false,false,false,false,false,false,false,false,false,false,false,false,false,false,false,false,false,false] rfl rfl (any_of HT_.out (by kernel_rfl)) (fun _ _ _ h => h) (Or.inl ⟨by rfl, ?_⟩) ?_ ?_
                         rotate_left; (intro w'; go_simp; with_reducible rfl); rotate_left; (simp only [Act.put, List.setIfInBounds_toArray, List.set_cons_zero, List.set_cons_succ, i64_w, i32_w]; rfl)
                         refine pure_ (i := 35) (N := some 159) (v := ?_) (a' := ?_) #[true,true,true,true,true,true,true,true,true,true,true,true,true,true,true,true,true,true,true,true,true,true,true,true,true,true,true,true,true,true,true,true,true,true,true,true,false,false,false,false,false,false,false,false,false,false,false,false,false,false,false,false,false,false,false,false,false,false,false,false,false,false,false,false,false,false,false,false,false] rfl rfl (any_of HT_.out (by kernel_rfl)) (fun _ _ _ h => h) (Or.inl ⟨by rfl, ?_⟩) ?_ ?_
                         rotate_left; (intro w'; go_simp; with_reducible rfl); rotate_left; (simp only [Act.put, List.setIfInBounds_toArray, List.set_cons_zero, List.set_cons_succ, i64_w, i32_w]; rfl)
                         refine pure_ (i := 36) (N := some 160) (v := ?_) (a' := ?_) #[true,true,true,true,true,true,true,true,true,true,true,true,true,true,true,true,true,true,true,true,true,true,true,true,true,true,true,true,true,true,true,true,true,true,true,true,true,false,false,false,false,false,false,false,false,false,false,false,false,false,false,false,false,false,false,false,false,false,false,false,false,false,false,false,false,false,false,false,false] rfl rfl (any_of HT_.out (by kernel_rfl)) (fun _ _ _ h => h) (Or.inl ⟨by rfl, ?_⟩) ?_ ?_
                         rotate_left; (intro w'; go_simp; with_reducible rfl); rotate_left; (simp only [Act.put, List.setIfInBounds_toArray, List.set_cons_zero, List.set_cons_succ, i64_w, i32_w]; rfl)
                         refine pure_ (i := 37) (N := some 161) (v := ?_) (a' := ?_) #[true,true,true,true,true,true,true,true,true,true,true,true,true,true,true,true,true,true,true,true,true,true,true,true,true,true,true,true,true,true,true,true,true,true,true,true,true,true,false,false,false,false,false,false,false,false,false,false,false,false,false,false,false,false,false,false,false,false,false,false,false,false,false,false,false,false,false,false,false] rfl rfl (any_of HT_.out (by kernel_rfl)) (fun _ _ _ h => h) (Or.inl ⟨by rfl, ?_⟩) ?_ ?_
                         rotate_left; (intro w'; go_simp; with_reducible rfl); rotate_left; (simp only [Act.put, List.setIfInBounds_toArray, List.set_cons_zero, List.set_cons_succ, i64_w, i32_w]; rfl)
                         refine pure_ (i := 38) (N := some 162) (v := ?_) (a' := ?_) #[true,true,true,true,true,true,true,true,true,true,true,true,true,true,true,true,true,true,true,true,true,true,true,true,true,true,true,true,true,true,true,true,true,true,true,true,true,true,true,false,false,false,false,false,false,false,false,false,false,false,false,false,false,false,false,false,false,false,false,false,false,false,false,false,false,false,false,false,false] rfl rfl (any_of HT_.out (by kernel_rfl)) (fun _ _ _ h => h) (Or.inl ⟨by rfl, ?_⟩) ?_ ?_
                         rotate_left; (intro w'; go_simp; with_reducible rfl); rotate_left; (simp only [Act.put, List.setIfInBounds_toArray, List.set_cons_zero, List.set_cons_succ, i64_w, i32_w]; rfl)
                         refine pure_ (i := 39) (N := some 163) (v := ?_) (a' := ?_) #[true,true,true,true,true,true,true,true,true,true,true,true,true,true,true,true,true,true,true,true,true,true,true,true,true,true,true,true,true,true,true,true,true,true,true,true,true,true,true,true,false,false,false,false,false,false,false,false,false,false,false,false,false,false,false,false,false,false,false,false,false,false,false,false,false,false,false,false,false] rfl rfl (any_of HT_.out (by kernel_rfl)) (fun _ _ _ h => h) (Or.inl ⟨by rfl, ?_⟩) ?_ ?_
                         rotate_left; (intro w'; go_simp; with_reducible rfl); rotate_left; (simp only [Act.put, List.setIfInBounds_toArray, List.set_cons_zero, List.set_cons_succ, i64_w, i32_w]; rfl)
                         refine pure_ (i := 40) (N := some 164) (v := ?_) (a' := ?_) #[true,true,true,true,true,true,true,true,true,true,true,true,true,true,true,true,true,true,true,true,true,true,true,true,true,true,true,true,true,true,true,true,true,true,true,true,true,true,true,true,true,false,false,false,false,false,false,false,false,false,false,false,false,false,false,false,false,false,false,false,false,false,false,false,false,false,false,false,false] rfl rfl (any_of HT_.out (by kernel_rfl)) (fun _ _ _ h => h) (Or.inl ⟨by rfl, ?_⟩) ?_ ?_
                         rotate_left; (intro w'; go_simp; with_reducible rfl); rotate_left; (simp only [Act.put, List.setIfInBounds_toArray, List.set_cons_zero, List.set_cons_succ, i64_w, i32_w]; rfl)
                         refine pure_ (i := 41) (N := some 165) (v := undef) (a' := ?_) #[true,true,true,true,true,true,true,true,true,true,true,true,true,true,true,true,true,true,true,true,true,true,true,true,true,true,true,true,true,true,true,true,true,true,true,true,true,true,true,true,true,true,false,false,false,false,false,false,false,false,false,false,false,false,false,false,false,false,false,false,false,false,false,false,false,false,false,false,false] rfl rfl (any_of HT_.out (by kernel_rfl)) (fun _ _ _ h => h) (Or.inr ⟨by rfl, rfl⟩) ?_ ?_
                         rotate_left
                         ·
                          simp only [Act.put, List.setIfInBounds_toArray, List.set_cons_zero, List.set_cons_succ, i64_w, i32_w]
                          rfl
                         refine pure_ (i := 42) (N := some 166) (v := undef) (a' := ?_) #[true,true,true,true,true,true,true,true,true,true,true,true,true,true,true,true,true,true,true,true,true,true,true,true,true,true,true,true,true,true,true,true,true,true,true,true,true,true,true,true,true,true,true,false,false,false,false,false,false,false,false,false,false,false,false,false,false,false,false,false,false,false,false,false,false,false,false,false,false] rfl rfl (any_of HT_.out (by kernel_rfl)) (fun _ _ _ h => h) (Or.inr ⟨by rfl, rfl⟩) ?_ ?_
                         rotate_left
                         ·
                          simp only [Act.put, List.setIfInBounds_toArray, List.set_cons_zero, List.set_cons_succ, i64_w, i32_w]
                          rfl
                         refine pure_ (i := 43) (N := some 167) (v := undef) (a' := ?_) #[true,true,true,true,true,true,true,true,true,true,true,true,true,true,true,true,true,true,true,true,true,true,true,true,true,true,true,true,true,true,true,true,true,true,true,true,true,true,true,true,true,true,true,true,false,false,false,false,false,false,false,false,false,false,false,false,false,false,false,false,false,false,false,false,false,false,false,false,false] rfl rfl (any_of HT_.out (by kernel_rfl)) (fun _ _ _ h => h) (Or.inr ⟨by rfl, rfl⟩) ?_ ?_
                         rotate_left
                         ·
                          simp only [Act.put, List.setIfInBounds_toArray, List.set_cons_zero, List.set_cons_succ, i64_w, i32_w]
                          rfl
                         refine pure_ (i := 44) (N := some 168) (v := undef) (a' := ?_) #[true,true,true,true,true,true,true,true,true,true,true,true,true,true,true,true,true,true,true,true,true,true,true,true,true,true,true,true,true,true,true,true,true,true,true,true,true,true,true,true,true,true,true,true,true,false,false,false,false,false,false,false,false,false,false,false,false,false,false,false,false,false,false,false,false,false,false,false,false] rfl rfl (any_of HT_.out (by kernel_rfl)) (fun _ _ _ h => h) (Or.inr ⟨by rfl, rfl⟩) ?_ ?_
                         rotate_left
                         ·
                          simp only [Act.put, List.setIfInBounds_toArray, List.set_cons_zero, List.set_cons_succ, i64_w, i32_w]
                          rfl
                         refine pure_ (i := 45) (N := some 169) (v := undef) (a' := ?_) #[true,true,true,true,true,true,true,true,true,true,true,true,true,true,true,true,true,true,true,true,true,true,true,true,true,true,true,true,true,true,true,true,true,true,true,true,true,true,true,true,true,true,true,true,true,true,false,false,false,false,false,false,false,false,false,false,false,false,false,false,false,false,false,false,false,false,false,false,false] rfl rfl (any_of HT_.out (by kernel_rfl)) (fun _ _ _ h => h) (Or.inr ⟨by rfl, rfl⟩) ?_ ?_
                         rotate_left
                         ·
                          simp only [Act.put, List.setIfInBounds_toArray, List.set_cons_zero, List.set_cons_succ, i64_w, i32_w]
                          rfl
                         refine pure_ (i := 46) (N := some 170) (v := undef) (a' := ?_) #[true,true,true,true,true,true,true,true,true,true,true,true,true,true,true,true,true,true,true,true,true,true,true,true,true,true,true,true,true,true,true,true,true,true,true,true,true,true,true,true,true,true,true,true,true,true,true,false,false,false,false,false,false,false,false,false,false,false,false,false,false,false,false,false,false,false,false,false,false] rfl rfl (any_of HT_.out (by kernel_rfl)) (fun _ _ _ h => h) (Or.inr ⟨by rfl, rfl⟩) ?_ ?_
                         rotate_left
                         ·
                          simp only [Act.put, List.setIfInBounds_toArray, List.set_cons_zero, List.set_cons_succ, i64_w, i32_w]
                          rfl
                         refine pure_ (i := 47) (N := some 171) (v := undef) (a' := ?_) #[true,true,true,true,true,true,true,true,true,true,true,true,true,true,true,true,true,true,true,true,true,true,true,true,true,true,true,true,true,true,true,true,true,true,true,true,true,true,true,true,true,true,true,true,true,true,true,true,false,false,false,false,false,false,false,false,false,false,false,false,false,false,false,false,false,false,false,false,false] rfl rfl (any_of HT_.out (by kernel_rfl)) (fun _ _ _ h => h) (Or.inr ⟨by rfl, rfl⟩) ?_ ?_
                         rotate_left
                         ·
                          simp only [Act.put, List.setIfInBounds_toArray, List.set_cons_zero, List.set_cons_succ, i64_w, i32_w]
                          rfl
                         refine pure_ (i := 48) (N := some 172) (v := ?_) (a' := ?_) #[true,true,true,true,true,true,true,true,true,true,true,true,true,true,true,true,true,true,true,true,true,true,true,true,true,true,true,true,true,true,true,true,true,true,true,true,true,true,true,true,true,true,true,true,true,true,true,true,true,false,false,false,false,false,false,false,false,false,false,false,false,false,false,false,false,false,false,false,false] rfl rfl (any_of HT_.out (by kernel_rfl)) (fun _ _ _ h => h) (Or.inl ⟨by rfl, ?_⟩) ?_ ?_
                         rotate_left; (intro w'; go_simp; with_reducible rfl); rotate_left; (simp only [Act.put, List.setIfInBounds_toArray, List.set_cons_zero, List.set_cons_succ, i64_w, i32_w]; rfl)
                         refine pure_ (i := 49) (N := some 173) (v := ?_) (a' := ?_) #[true,true,true,true,true,true,true,true,true,true,true,true,true,true,true,true,true,true,true,true,true,true,true,true,true,true,true,true,true,true,true,true,true,true,true,true,true,true,true,true,true,true,true,true,true,true,true,true,true,true,false,false,false,false,false,false,false,false,false,false,false,false,false,false,false,false,false,false,false] rfl rfl (any_of HT_.out (by kernel_rfl)) (fun _ _ _ h => h) (Or.inl ⟨by rfl, ?_⟩) ?_ ?_
                         rotate_left; (intro w'; go_simp; with_reducible rfl); rotate_left; (simp only [Act.put, List.setIfInBounds_toArray, List.set_cons_zero, List.set_cons_succ, i64_w, i32_w]; rfl)
                         refine pure_ (i := 50) (N := some 174) (v := ?_) (a' := ?_) #[true,true,true,true,true,true,true,true,true,true,true,true,true,true,true,true,true,true,true,true,true,true,true,true,true,true,true,true,true,true,true,true,true,true,true,true,true,true,true,true,true,true,true,true,true,true,true,true,true,true,true,false,false,false,false,false,false,false,false,false,false,false,false,false,false,false,false,false,false] rfl rfl (any_of HT_.out (by kernel_rfl)) (fun _ _ _ h => h) (Or.inl ⟨by rfl, ?_⟩) ?_ ?_
                         rotate_left; (intro w'; go_simp; with_reducible rfl); rotate_left; (simp only [Act.put, List.setIfInBounds_toArray, List.set_cons_zero, List.set_cons_succ, i64_w, i32_w]; rfl)
                         refine pure_ (i := 51) (N := some 175) (v := ?_) (a' := ?_) #[true,true,true,true,true,true,true,true,true,true,true,true,true,true,true,true,true,true,true,true,true,true,true,true,true,true,true,true,true,true,true,true,true,true,true,true,true,true,true,true,true,true,true,true,true,true,true,true,true,true,true,true,false,false,false,false,false,false,false,false,false,false,false,false,false,false,false,false,false] rfl rfl (any_of HT_.out (by kernel_rfl)) (fun _ _ _ h => h) (Or.inl ⟨by rfl, ?_⟩) ?_ ?_
                         rotate_left; (intro w'; go_simp; with_reducible rfl); rotate_left; (simp only [Act.put, List.setIfInBounds_toArray, List.set_cons_zero, List.set_cons_succ, i64_w, i32_w]; rfl)
                         refine pure_ (i := 52) (N := some 176) (v := ?_) (a' := ?_) #[true,true,true,true,true,true,true,true,true,true,true,true,true,true,true,true,true,true,true,true,true,true,true,true,true,true,true,true,true,true,true,true,true,true,true,true,true,true,true,true,true,true,true,true,true,true,true,true,true,true,true,true,true,false,false,false,false,false,false,false,false,false,false,false,false,false,false,false,false] rfl rfl (any_of HT_.out (by kernel_rfl)) (fun _ _ _ h => h) (Or.inl ⟨by rfl, ?_⟩) ?_ ?_
                         rotate_left; (intro w'; go_simp; with_reducible rfl); rotate_left; (simp only [Act.put, List.setIfInBounds_toArray, List.set_cons_zero, List.set_cons_succ, i64_w, i32_w]; rfl)
                         refine pure_ (i := 53) (N := some 177) (v := ?_) (a' := ?_) #[true,true,true,true,true,true,true,true,true,true,true,true,true,true,true,true,true,true,true,true,true,true,true,true,true,true,true,true,true,true,true,true,true,true,true,true,true,true,true,true,true,true,true,true,true,true,true,true,true,true,true,true,true,true,false,false,false,false,false,false,false,false,false,false,false,false,false,false,false] rfl rfl (any_of HT_.out (by kernel_rfl)) (fun _ _ _ h => h) (Or.inl ⟨by rfl, ?_⟩) ?_ ?_
                         rotate_left; (intro w'; go_simp; with_reducible rfl); rotate_left; (simp only [Act.put, List.setIfInBounds_toArray, List.set_cons_zero, List.set_cons_succ, i64_w, i32_w]; rfl)
                         refine pure_ (i := 54) (N := some 178) (v := ?_) (a' := ?_) #[true,true,true,true,true,true,true,true,true,true,true,true,true,true,true,true,true,true,true,true,true,true,true,true,true,true,true,true,true,true,true,true,true,true,true,true,true,true,true,true,true,true,true,true,true,true,true,true,true,true,true,true,true,true,true,false,false,false,false,false,false,false,false,false,false,false,false,false,false] rfl rfl (any_of HT_.out (by kernel_rfl)) (fun _ _ _ h => h) (Or.inl ⟨by rfl, ?_⟩) ?_ ?_
                         rotate_left; (intro w'; go_simp; with_reducible rfl); rotate_left; (simp only [Act.put, List.setIfInBounds_toArray, List.set_cons_zero, List.set_cons_succ, i64_w, i32_w]; rfl)
                         refine pure_ (i := 55) (N := some 179) (v := ?_) (a' := ?_) #[true,true,true,true,true,true,true,true,true,true,true,true,true,true,true,true,true,true,true,true,true,true,true,true,true,true,true,true,true,true,true,true,true,true,true,true,true,true,true,true,true,true,true,true,true,true,true,true,true,true,true,true,true,true,true,true,false,false,false,false,false,false,false,false,false,false,false,false,false] rfl rfl (any_of HT_.out (by kernel_rfl)) (fun _ _ _ h => h) (Or.inl ⟨by rfl, ?_⟩) ?_ ?_
                         rotate_left; (intro w'; go_simp; with_reducible rfl); rotate_left; (simp only [Act.put, List.setIfInBounds_toArray, List.set_cons_zero, List.set_cons_succ, i64_w, i32_w]; rfl)
                         refine pure_ (i := 56) (N := some 180) (v := ?_) (a' := ?_) #[true,true,true,true,true,true,true,true,true,true,true,true,true,true,true,true,true,true,true,true,true,true,true,true,true,true,true,true,true,true,true,true,true,true,true,true,true,true,true,true,true,true,true,true,true,true,true,true,true,true,true,true,true,true,true,true,true,false,false,false,false,false,false,false,false,false,false,false,false] rfl rfl (any_of HT_.out (by kernel_rfl)) (fun _ _ _ h => h) (Or.inl ⟨by rfl, ?_⟩) ?_ ?_
                         rotate_left; (intro w'; go_simp; with_reducible rfl); rotate_left; (simp only [Act.put, List.setIfInBounds_toArray, List.set_cons_zero, List.set_cons_succ, i64_w, i32_w]; rfl)
                         refine pure_ (i := 57) (N := some 181) (v := ?_) (a' := ?_) #[true,true,true,true,true,true,true,true,true,true,true,true,true,true,true,true,true,true,true,true,true,true,true,true,true,true,true,true,true,true,true,true,true,true,true,true,true,true,true,true,true,true,true,true,true,true,true,true,true,true,true,true,true,true,true,true,true,true,false,false,false,false,false,false,false,false,false,false,false] rfl rfl (any_of HT_.out (by kernel_rfl)) (fun _ _ _ h => h) (Or.inl ⟨by rfl, ?_⟩) ?_ ?_
                         rotate_left; (intro w'; go_simp; with_reducible rfl); rotate_left; (simp only [Act.put, List.setIfInBounds_toArray, List.set_cons_zero, List.set_cons_succ, i64_w, i32_w]; rfl)
                         refine pure_ (i := 58) (N := some 182) (v := ?_) (a' := ?_) #[true,true,true,true,true,true,true,true,true,true,true,true,true,true,true,true,true,true,true,true,true,true,true,true,true,true,true,true,true,true,true,true,true,true,true,true,true,true,true,true,true,true,true,true,true,true,true,true,true,true,true,true,true,true,true,true,true,true,true,false,false,false,false,false,false,false,false,false,false] rfl rfl (any_of HT_.out (by kernel_rfl)) (fun _ _ _ h => h) (Or.inl ⟨by rfl, ?_⟩) ?_ ?_
                         rotate_left; (intro w'; go_simp; with_reducible rfl); rotate_left; (simp only [Act.put, List.setIfInBounds_toArray, List.set_cons_zero, List.set_cons_succ, i64_w, i32_w]; rfl)
                         refine pure_ (i := 59) (N := some 183) (v := ?_) (a' := ?_) #[true,true,true,true,true,true,true,true,true,true,true,true,true,true,true,true,true,true,true,true,true,true,true,true,true,true,true,true,true,true,true,true,true,true,true,true,true,true,true,true,true,true,true,true,true,true,true,true,true,true,true,true,true,true,true,true,true,true,true,true,false,false,false,false,false,false,false,false,false] rfl rfl (any_of HT_.out (by kernel_rfl)) (fun _ _ _ h => h) (Or.inl ⟨by rfl, ?_⟩) ?_ ?_
                         rotate_left; (intro w'; go_simp; with_reducible rfl); rotate_left; (simp only [Act.put, List.setIfInBounds_toArray, List.set_cons_zero, List.set_cons_succ, i64_w, i32_w]; rfl)
                         refine pure_ (i := 60) (N := some 184) (v := ?_) (a' := ?_) #[true,true,true,true,true,true,true,true,true,true,true,true,true,true,true,true,true,true,true,true,true,true,true,true,true,true,true,true,true,true,true,true,true,true,true,true,true,true,true,true,true,true,true,true,true,true,true,true,true,true,true,true,true,true,true,true,true,true,true,true,true,false,false,false,false,false,false,false,false] rfl rfl (any_of HT_.out (by kernel_rfl)) (fun _ _ _ h => h) (Or.inl ⟨by rfl, ?_⟩) ?_ ?_
                         rotate_left; (intro w'; go_simp; with_reducible rfl); rotate_left; (simp only [Act.put, List.setIfInBounds_toArray, List.set_cons_zero, List.set_cons_succ, i64_w, i32_w]; rfl)
                         refine pure_ (i := 61) (N := some 185) (v := ?_) (a' := ?_) #[true,true,true,true,true,true,true,true,true,true,true,true,true,true,true,true,true,true,true,true,true,true,true,true,true,true,true,true,true,true,true,true,true,true,true,true,true,true,true,true,true,true,true,true,true,true,true,true,true,true,true,true,true,true,true,true,true,true,true,true,true,true,false,false,false,false,false,false,false] rfl rfl (any_of HT_.out (by kernel_rfl)) (fun _ _ _ h => h) (Or.inl ⟨by rfl, ?_⟩) ?_ ?_
                         rotate_left; (intro w'; go_simp; with_reducible rfl); rotate_left; (simp only [Act.put, List.setIfInBounds_toArray, List.set_cons_zero, List.set_cons_succ, i64_w, i32_w]; rfl)
                         refine pure_ (i := 62) (N := some 186) (v := ?_) (a' := ?_) #[true,true,true,true,true,true,true,true,true,true,true,true,true,true,true,true,true,true,true,true,true,true,true,true,true,true,true,true,true,true,true,true,true,true,true,true,true,true,true,true,true,true,true,true,true,true,true,true,true,true,true,true,true,true,true,true,true,true,true,true,true,true,true,false,false,false,false,false,false] rfl rfl (any_of HT_.out (by kernel_rfl)) (fun _ _ _ h => h) (Or.inl ⟨by rfl, ?_⟩) ?_ ?_
                         rotate_left; (intro w'; go_simp; with_reducible rfl); rotate_left; (simp only [Act.put, List.setIfInBounds_toArray, List.set_cons_zero, List.set_cons_succ, i64_w, i32_w]; rfl)
                         refine pure_ (i := 63) (N := some 187) (v := ?_) (a' := ?_) #[true,true,true,true,true,true,true,true,true,true,true,true,true,true,true,true,true,true,true,true,true,true,true,true,true,true,true,true,true,true,true,true,true,true,true,true,true,true,true,true,true,true,true,true,true,true,true,true,true,true,true,true,true,true,true,true,true,true,true,true,true,true,true,true,false,false,false,false,false] rfl rfl (any_of HT_.out (by kernel_rfl)) (fun _ _ _ h => h) (Or.inl ⟨by rfl, ?_⟩) ?_ ?_
                         rotate_left; (intro w'; go_simp; with_reducible rfl); rotate_left; (simp only [Act.put, List.setIfInBounds_toArray, List.set_cons_zero, List.set_cons_succ, i64_w, i32_w]; rfl)
                         refine pure_ (i := 64) (N := some 188) (v := ?_) (a' := ?_) #[true,true,true,true,true,true,true,true,true,true,true,true,true,true,true,true,true,true,true,true,true,true,true,true,true,true,true,true,true,true,true,true,true,true,true,true,true,true,true,true,true,true,true,true,true,true,true,true,true,true,true,true,true,true,true,true,true,true,true,true,true,true,true,true,true,false,false,false,false] rfl rfl (any_of HT_.out (by kernel_rfl)) (fun _ _ _ h => h) (Or.inl ⟨by rfl, ?_⟩) ?_ ?_
                         rotate_left; (intro w'; go_simp; with_reducible rfl); rotate_left; (simp only [Act.put, List.setIfInBounds_toArray, List.set_cons_zero, List.set_cons_succ, i64_w, i32_w]; rfl)
                         refine pure_ (i := 65) (N := some 189) (v := ?_) (a' := ?_) #[true,true,true,true,true,true,true,true,true,true,true,true,true,true,true,true,true,true,true,true,true,true,true,true,true,true,true,true,true,true,true,true,true,true,true,true,true,true,true,true,true,true,true,true,true,true,true,true,true,true,true,true,true,true,true,true,true,true,true,true,true,true,true,true,true,true,false,false,false] rfl rfl (any_of HT_.out (by kernel_rfl)) (fun _ _ _ h => h) (Or.inl ⟨by rfl, ?_⟩) ?_ ?_
                         rotate_left; (intro w'; go_simp; with_reducible rfl); rotate_left; (simp only [Act.put, List.setIfInBounds_toArray, List.set_cons_zero, List.set_cons_succ, i64_w, i32_w]; rfl)
                         refine pure_ (i := 66) (N := some 190) (v := ?_) (a' := ?_) #[true,true,true,true,true,true,true,true,true,true,true,true,true,true,true,true,true,true,true,true,true,true,true,true,true,true,true,true,true,true,true,true,true,true,true,true,true,true,true,true,true,true,true,true,true,true,true,true,true,true,true,true,true,true,true,true,true,true,true,true,true,true,true,true,true,true,true,false,false] rfl rfl (any_of HT_.out (by kernel_rfl)) (fun _ _ _ h => h) (Or.inl ⟨by rfl, ?_⟩) ?_ ?_
                         rotate_left; (intro w'; go_simp; with_reducible rfl); rotate_left; (simp only [Act.put, List.setIfInBounds_toArray, List.set_cons_zero, List.set_cons_succ, i64_w, i32_w]; rfl)
                         refine pure_ (i := 67) (N := some 191) (v := ?_) (a' := ?_) #[true,true,true,true,true,true,true,true,true,true,true,true,true,true,true,true,true,true,true,true,true,true,true,true,true,true,true,true,true,true,true,true,true,true,true,true,true,true,true,true,true,true,true,true,true,true,true,true,true,true,true,true,true,true,true,true,true,true,true,true,true,true,true,true,true,true,true,true,false] rfl rfl (any_of HT_.out (by kernel_rfl)) (fun _ _ _ h => h) (Or.inl ⟨by rfl, ?_⟩) ?_ ?_
                         rotate_left; (intro w'; go_simp; with_reducible rfl); rotate_left; (simp only [Act.put, List.setIfInBounds_toArray, List.set_cons_zero, List.set_cons_succ, i64_w, i32_w]; rfl)
                         refine pure_ (i := 68) (N := some 4) (v := ?_) (a' := ?_) #[true,true,true,true,true,true,true,true,true,true,true,true,true,true,true,true,true,true,true,true,true,true,true,true,true,true,true,true,true,true,true,true,true,true,true,true,true,true,true,true,true,true,true,true,true,true,true,true,true,true,true,true,true,true,true,true,true,true,true,true,true,true,true,true,true,true,true,true,true] rfl rfl (any_of HT_.out (by kernel_rfl)) (fun _ _ _ h => h) (Or.inl ⟨by rfl, ?_⟩) ?_ ?_
                         rotate_left; (intro w'; go_simp; with_reducible rfl); rotate_left; (simp only [Act.put, List.setIfInBounds_toArray, List.set_cons_zero, List.set_cons_succ, i64_w, i32_w]; rfl)
                         refine done_ (done_of HT_.out (by kernel_rfl)) ?_
                         try go_wp2
                         go_ret
                         exact ⟨by first | rfl | (simp [errW_none, errW_some] <;> rfl) | (simp [*, errW_none, errW_some] <;> rfl), by repeat (first | (with_reducible first | exact HB.out | apply below_alloc | apply pw_below_drewN | apply below_drew1 | refine below_set ?_ (IsS80.ge HI234.out)) | exact HB.out)⟩
                      ·
                       rw [if_neg c207] at H
                       exact absurd ((Option.some.inj H).trans hr) Bool.false_ne_true
                     ·
                      rw [if_neg c206] at H
                      exact absurd ((Option.some.inj H).trans hr) Bool.false_ne_true
                    ·
                     rw [if_neg c205] at H
                     exact absurd ((Option.some.inj H).trans hr) Bool.false_ne_true
               ·
                have hP := HP.out
                clear H HP
                exfalso
                omega
              ·
               rw [if_neg c31] at H
               exact absurd H (by simp)
             ·
              rw [if_neg c29] at H
              exact absurd H (by simp)
            ·
             rw [if_neg c27] at H
             exact absurd H (by simp)
           ·
            rw [if_neg c26] at H
            exact absurd H (by simp)
          ·
           rw [if_neg c25] at H
           exact absurd H (by simp)
         ·
          rw [if_neg c24] at H
          exact absurd H (by simp)
        ·
         rw [if_neg c22] at H
         exact absurd H (by simp)
       ·
        rw [if_neg c21] at H
        exact absurd H (by simp)
      ·
       rw [if_neg c20] at H
       exact absurd H (by simp)
     ·
      rw [if_neg c19] at H
      exact absurd H (by simp)
 ·
  replace c4 := Bool.eq_false_iff.mpr c4
  subst c4
  have H1 : (some false) = some r := by rw [if_neg (show ¬ (false = true) by decide)] at H; exact H
  clear H
  have H := H1
  clear H1
  obtain rfl := Option.some.inj H
  try exact absurd hr Bool.false_ne_true
  all_goals
   go_enter Tryd.func4, Tryd.ntmps4
   go_wp2_with (first | ((with_reducible refine gate_callee (f := 6) rfl ?_); refine goesL_ (some 14) rfl rfl Tryd.func6 (by kernel_rfl) rfl #[] rfl (by (try simp only [List.map_toArray, List.map_cons, List.map_nil]); first | done | rfl | (simp only [List.length_drop, List.length_take]; rfl)) ?_; (with_reducible refine (conclavelaw07_anchor.calls k  false _ A3.out).mono ?_); rintro e w372 ⟨rfl, hb⟩; refine ⟨_, rfl, ?_⟩; have n0_ := Aside0.mk (below_step (by repeat (first | (with_reducible first | exact HB.out | apply below_alloc | apply pw_below_drewN | apply below_drew1) | exact HB.out)) hb); clear HB; have HB := n0_; clear n0_; (try clear hb); (try clear hb2); (try clear hk); (try clear hi)))
   go_ret
   exact ⟨by first | rfl | (simp [errW_none, errW_some] <;> rfl) | (simp [*, errW_none, errW_some] <;> rfl), by repeat (first | (with_reducible first | exact HB.out | apply below_alloc | apply pw_below_drewN | apply below_drew1) | exact HB.out)⟩
end Go.Proofs.YteoamlnnaabomaaDoor.PSb
