/- What this claim reaches of a longer text of this session. -/
import Derived.Test.YtdipiigfjcaijaaDoorPDix0
import Derived.Test.YtdipiigfjcaijaaDoorPDix1
import Derived.Test.YtdipiigfjcaijaaDoorPDix3
import Derived.Test.YtdipiigfjcaijaaDoorPDix4
import Derived.Test.YtdipiigfjcaijaaDoorPDix6
import Derived.Test.YtdipiigfjcaijaaDoorPDix8
import Derived.Test.YtdipiigfjcaijaaDoorPDix10
namespace Go.Proofs.YtdipiigfjcaijaaDoor.PDi
open Go.RowKit Go.Proofs.YtdipiigfjcaijaaDoorW.PrintWords Go.Proofs.YtdipiigfjcaijaaDoorW.PrintLast Go.Proofs.YtdipiigfjcaijaaDoorW.PrintMore
attribute [local go_sem] max2_int min2_int max_two min_two max_three min_three max_four min_four   -- for this text's walks alone
set_option linter.unusedVariables false
set_option linter.unusedSimpArgs false
mutual
def conclavelaw05_DigestChange.j0 : Nat → List (S33) → Int → Int → Bool → Option (Bool)
  | 0, _, _, _, _ => none
  | k + 1, x0, x1, x2, x41 => if x41 = true then (some true) else ((conclavelaw05_stores.f 90).bind fun t290 => ((conclaveref04_Copy.f k x0).bind fun t292 => (if 0 ≤ (wrap64 (2 * x1)) then (if (wrap64 (2 * x1)) < (t292.length : Int) then (conclavelaw05_DigestChange.l0 k x0 x1 (t292.set ((wrap64 (2 * x1)) : Int).toNat (⟨(rd_T33 t292 (wrap64 (2 * x1))).f0, x2, (rd_T33 t292 (wrap64 (2 * x1))).f2, (rd_T33 t292 (wrap64 (2 * x1))).f3, (rd_T33 t292 (wrap64 (2 * x1))).f4, (rd_T33 t292 (wrap64 (2 * x1))).f5⟩ : S33)) (x0.length : Int) 0 t290) else (none)) else (none))))
def conclavelaw05_DigestChange.l0 : Nat → List (S33) → Int → List (S33) → Int → Int → TS → Option (Bool)
  | 0, _, _, _, _, _, _ => none
  | k + 1, x0, x1, x9, x57, x58, x292000 => if x58 < x57 then ((digest_Hash.f k x292000 x0 x58).bind fun bt296 => ((digest_Hash.f k bt296.2 x9 x58).bind fun bt298 => (if bt296.1 = 0 then (some false) else (if bt298.1 = 0 then (some false) else ((conclaveref04_Leaves.f x0).bind fun t300 => ((conclaveref03_Under.f k (wrap64 (2 * x1)) x58 t300).bind fun t301 => (if ((bt296.1 != bt298.1) != t301) = true then (some false) else (conclavelaw05_DigestChange.l0 k x0 x1 x9 x57 (wrap64 (x58 + 1)) bt298.2)))))))) else (some true)
end
def conclavelaw05_DigestChange.f (k : Nat) (l0 : List (S33)) (a1 : Int) (a2 : Int) : Option (Bool) := (conclavelaw05_anchor.f k).bind fun t286 => (if t286 = true then ((conclavelaw05_right.f k l0 90).bind fun t287 => (if t287 = true then ((conclaveref04_Full.f l0 a1).bind fun t288 => (if t288 = true then (if a2 < 1 then (conclavelaw05_DigestChange.j0 k l0 a1 a2 true) else (if a2 > 90 then (conclavelaw05_DigestChange.j0 k l0 a1 a2 true) else (if 0 ≤ (wrap64 (2 * a1)) then (if (wrap64 (2 * a1)) < (l0.length : Int) then (conclavelaw05_DigestChange.j0 k l0 a1 a2 (a2 == ((rd_T33 l0 (wrap64 (2 * a1))).f1))) else (none)) else (none)))) else (conclavelaw05_DigestChange.j0 k l0 a1 a2 true))) else (conclavelaw05_DigestChange.j0 k l0 a1 a2 true))) else (some false))
theorem conclavelaw05_DigestChange.mono_l : ∀ k, (∀ y0 y1 y2 y3, LeO (conclavelaw05_DigestChange.j0 k y0 y1 y2 y3) (conclavelaw05_DigestChange.j0 (k + 1) y0 y1 y2 y3)) ∧ (∀ y0 y1 y2 y3 y4 y5, LeO (conclavelaw05_DigestChange.l0 k y0 y1 y2 y3 y4 y5) (conclavelaw05_DigestChange.l0 (k + 1) y0 y1 y2 y3 y4 y5))
  | 0 => ⟨fun _ _ _ _ r h => by simp [conclavelaw05_DigestChange.j0] at h, fun _ _ _ _ _ _ r h => by simp [conclavelaw05_DigestChange.l0] at h⟩
  | k + 1 => by
    obtain ⟨ih0, ih1⟩ := conclavelaw05_DigestChange.mono_l k
    refine ⟨?_, ?_⟩
    · intro y0 y1 y2 y3
      unfold conclavelaw05_DigestChange.j0
      repeat' first
      | (with_reducible exact ih0 _ _ _ _)
      | (with_reducible exact ih1 _ _ _ _ _ _)
      | (with_reducible exact conclavelaw05_anchor.mono _)
      | (with_reducible exact conclavelaw05_right.mono _ _ _)
      | (with_reducible exact conclaveref03_Under.mono _ _ _ _)
      | (with_reducible exact conclaveref04_Copy.mono _ _)
      | (with_reducible exact digest_Hash.mono _ _ _ _)
      | (with_reducible exact LeO.refl _)
      | (with_reducible exact LeO.none _)
      | (with_reducible refine LeO.ite ?_ ?_)
      | (with_reducible refine LeO.bind ?_ (fun _ => ?_))
      | exact ih0 _ _ _ _
      | exact ih1 _ _ _ _ _ _
      | exact conclavelaw05_anchor.mono _
      | exact conclavelaw05_right.mono _ _ _
      | exact conclaveref03_Under.mono _ _ _ _
      | exact conclaveref04_Copy.mono _ _
      | exact digest_Hash.mono _ _ _ _
      | exact LeO.none _
      | refine LeO.ite ?_ ?_
      | refine LeO.bind ?_ (fun _ => ?_)
    · intro y0 y1 y2 y3 y4 y5
      unfold conclavelaw05_DigestChange.l0
      repeat' first
      | (with_reducible exact ih0 _ _ _ _)
      | (with_reducible exact ih1 _ _ _ _ _ _)
      | (with_reducible exact conclavelaw05_anchor.mono _)
      | (with_reducible exact conclavelaw05_right.mono _ _ _)
      | (with_reducible exact conclaveref03_Under.mono _ _ _ _)
      | (with_reducible exact conclaveref04_Copy.mono _ _)
      | (with_reducible exact digest_Hash.mono _ _ _ _)
      | (with_reducible exact LeO.refl _)
      | (with_reducible exact LeO.none _)
      | (with_reducible refine LeO.ite ?_ ?_)
      | (with_reducible refine LeO.bind ?_ (fun _ => ?_))
      | exact ih0 _ _ _ _
      | exact ih1 _ _ _ _ _ _
      | exact conclavelaw05_anchor.mono _
      | exact conclavelaw05_right.mono _ _ _
      | exact conclaveref03_Under.mono _ _ _ _
      | exact conclaveref04_Copy.mono _ _
      | exact digest_Hash.mono _ _ _ _
      | exact LeO.none _
      | refine LeO.ite ?_ ?_
      | refine LeO.bind ?_ (fun _ => ?_)
theorem conclavelaw05_DigestChange.mono : ∀ a0 a1 a2 k, LeO (conclavelaw05_DigestChange.f k a0 a1 a2) (conclavelaw05_DigestChange.f (k + 1) a0 a1 a2) := by
  intro a0 a1 a2 k
  obtain ⟨ih0, ih1⟩ := conclavelaw05_DigestChange.mono_l k
  unfold conclavelaw05_DigestChange.f
  repeat' first
      | (with_reducible exact ih0 _ _ _ _)
      | (with_reducible exact ih1 _ _ _ _ _ _)
      | (with_reducible exact conclavelaw05_anchor.mono _)
      | (with_reducible exact conclavelaw05_right.mono _ _ _)
      | (with_reducible exact conclaveref03_Under.mono _ _ _ _)
      | (with_reducible exact conclaveref04_Copy.mono _ _)
      | (with_reducible exact digest_Hash.mono _ _ _ _)
      | (with_reducible exact LeO.refl _)
      | (with_reducible exact LeO.none _)
      | (with_reducible refine LeO.ite ?_ ?_)
      | (with_reducible refine LeO.bind ?_ (fun _ => ?_))
      | exact ih0 _ _ _ _
      | exact ih1 _ _ _ _ _ _
      | exact conclavelaw05_anchor.mono _
      | exact conclavelaw05_right.mono _ _ _
      | exact conclaveref03_Under.mono _ _ _ _
      | exact conclaveref04_Copy.mono _ _
      | exact digest_Hash.mono _ _ _ _
      | exact LeO.none _
      | refine LeO.ite ?_ ?_
      | refine LeO.bind ?_ (fun _ => ?_)
set_option maxHeartbeats 8000000 in
set_option maxRecDepth 100000 in
theorem conclavelaw05_DigestChange.calls (k : Nat) (A0 : Option Addr) (c0 : Nat) (l0 : List (S33)) (a1 : Int) (a2 : Int) (r : Bool) (w : World) (hrG : TabG w) (hr0 : Kd.C k33 w A0 l0.length l0) (hc0 : l0.length ≤ c0) (h : conclavelaw05_DigestChange.f k l0 a1 a2 = some r) (hr : r = true) :
    Calls Tryd.prog 4 #[.slice A0 l0.length c0, .int .i64 a1, .int .i64 a2] w fun e w' => e = .returned (.bool r) ∧ Below w.heap.size w w' := by
  have HRG := Aside0.mk hrG
  clear hrG
  have HR0 := Aside0.mk hr0
  have HC0 := Aside0.mk hc0
  clear hr0 hc0
  have HB := Aside0.mk (Below.refl w.heap.size w)
  have H : ((conclavelaw05_anchor.f k).bind fun t286 => (if t286 = true then ((conclavelaw05_right.f k l0 90).bind fun t287 => (if t287 = true then ((conclaveref04_Full.f l0 a1).bind fun t288 => (if t288 = true then (if a2 < 1 then (conclavelaw05_DigestChange.j0 k l0 a1 a2 true) else (if a2 > 90 then (conclavelaw05_DigestChange.j0 k l0 a1 a2 true) else (if 0 ≤ (wrap64 (2 * a1)) then (if (wrap64 (2 * a1)) < (l0.length : Int) then (conclavelaw05_DigestChange.j0 k l0 a1 a2 (a2 == ((rd_T33 l0 (wrap64 (2 * a1))).f1))) else (none)) else (none)))) else (conclavelaw05_DigestChange.j0 k l0 a1 a2 true))) else (conclavelaw05_DigestChange.j0 k l0 a1 a2 true))) else (some false))) = some r := h
  clear h
  replace H := Option.bind_eq_some_iff.mp H
  obtain ⟨t286, A40, H⟩ := H
  replace H : (if t286 = true then ((conclavelaw05_right.f k l0 90).bind fun t287 => (if t287 = true then ((conclaveref04_Full.f l0 a1).bind fun t288 => (if t288 = true then (if a2 < 1 then (conclavelaw05_DigestChange.j0 k l0 a1 a2 true) else (if a2 > 90 then (conclavelaw05_DigestChange.j0 k l0 a1 a2 true) else (if 0 ≤ (wrap64 (2 * a1)) then (if (wrap64 (2 * a1)) < (l0.length : Int) then (conclavelaw05_DigestChange.j0 k l0 a1 a2 (a2 == ((rd_T33 l0 (wrap64 (2 * a1))).f1))) else (none)) else (none)))) else (conclavelaw05_DigestChange.j0 k l0 a1 a2 true))) else (conclavelaw05_DigestChange.j0 k l0 a1 a2 true))) else (some false)) = some r := H
  have A4 := Aside0.mk A40
  clear A40
  by_cases c5 : t286 = true
  · subst c5
    have H1 : ((conclavelaw05_right.f k l0 90).bind fun t287 => (if t287 = true then ((conclaveref04_Full.f l0 a1).bind fun t288 => (if t288 = true then (if a2 < 1 then (conclavelaw05_DigestChange.j0 k l0 a1 a2 true) else (if a2 > 90 then (conclavelaw05_DigestChange.j0 k l0 a1 a2 true) else (if 0 ≤ (wrap64 (2 * a1)) then (if (wrap64 (2 * a1)) < (l0.length : Int) then (conclavelaw05_DigestChange.j0 k l0 a1 a2 (a2 == ((rd_T33 l0 (wrap64 (2 * a1))).f1))) else (none)) else (none)))) else (conclavelaw05_DigestChange.j0 k l0 a1 a2 true))) else (conclavelaw05_DigestChange.j0 k l0 a1 a2 true))) = some r := by rw [if_pos rfl] at H; exact H
    clear H
    have H := H1
    clear H1
    have HC6 := Aside0.mk H
    clear H
    go_enter Tryd.func4, Tryd.ntmps4
    go_upto_region 3 with (first | ((with_reducible refine gate_callee (f := 10) rfl ?_); refine goesL_ (some 13) rfl rfl Tryd.func10 (by kernel_rfl) rfl #[] rfl (by (try simp only [List.map_toArray, List.map_cons, List.map_nil]); first | done | rfl | (simp only [List.length_drop, List.length_take]; rfl)) ?_; (with_reducible refine (conclavelaw05_anchor.calls (hrG := ?sideG) k  true _ A4.out).mono ?_); (case sideG => (first | (with_reducible exact HRG.out) | exact TabG.below HRG.out (by repeat (first | (with_reducible first | exact HB.out | apply below_alloc | apply pw_below_drewN | apply below_drew1 | refine below_set ?_ (IsS75.ge HI291.out)) | (with_reducible exact Below.refl _ _))))); rintro e w7 ⟨rfl, hb⟩; refine ⟨_, rfl, ?_⟩; have n0_ := Aside0.mk (below_step (by repeat (first | (with_reducible first | exact HB.out | apply below_alloc | apply pw_below_drewN | apply below_drew1) | exact HB.out)) hb); clear HB; have HB := n0_; clear n0_; (try clear hb); (try clear hb2); (try clear hk); (try clear hi)))
    (try simp only [Act.put, List.setIfInBounds_toArray, List.set_cons_zero, List.set_cons_succ])
    go_cut [41] (fun v41 wc => ∃ (kq : Nat) (x41_5 : Bool), v41 = .bool x41_5 ∧ Aside0 (conclavelaw05_DigestChange.j0 kq l0 a1 a2 x41_5 = some r) ∧ Aside0 (kq ≤ k) ∧ Aside0 (Below w.heap.size w wc))
    case first =>
      have H := HC6.out
      clear HC6
      replace H := Option.bind_eq_some_iff.mp H
      obtain ⟨t287, A80, H⟩ := H
      replace H : (if t287 = true then ((conclaveref04_Full.f l0 a1).bind fun t288 => (if t288 = true then (if a2 < 1 then (conclavelaw05_DigestChange.j0 k l0 a1 a2 true) else (if a2 > 90 then (conclavelaw05_DigestChange.j0 k l0 a1 a2 true) else (if 0 ≤ (wrap64 (2 * a1)) then (if (wrap64 (2 * a1)) < (l0.length : Int) then (conclavelaw05_DigestChange.j0 k l0 a1 a2 (a2 == ((rd_T33 l0 (wrap64 (2 * a1))).f1))) else (none)) else (none)))) else (conclavelaw05_DigestChange.j0 k l0 a1 a2 true))) else (conclavelaw05_DigestChange.j0 k l0 a1 a2 true)) = some r := H
      have A8 := Aside0.mk A80
      clear A80
      by_cases c9 : t287 = true
      · subst c9
        have H1 : ((conclaveref04_Full.f l0 a1).bind fun t288 => (if t288 = true then (if a2 < 1 then (conclavelaw05_DigestChange.j0 k l0 a1 a2 true) else (if a2 > 90 then (conclavelaw05_DigestChange.j0 k l0 a1 a2 true) else (if 0 ≤ (wrap64 (2 * a1)) then (if (wrap64 (2 * a1)) < (l0.length : Int) then (conclavelaw05_DigestChange.j0 k l0 a1 a2 (a2 == ((rd_T33 l0 (wrap64 (2 * a1))).f1))) else (none)) else (none)))) else (conclavelaw05_DigestChange.j0 k l0 a1 a2 true))) = some r := by rw [if_pos rfl] at H; exact H
        clear H
        have H := H1
        clear H1
        replace H := Option.bind_eq_some_iff.mp H
        obtain ⟨t288, A100, H⟩ := H
        replace H : (if t288 = true then (if a2 < 1 then (conclavelaw05_DigestChange.j0 k l0 a1 a2 true) else (if a2 > 90 then (conclavelaw05_DigestChange.j0 k l0 a1 a2 true) else (if 0 ≤ (wrap64 (2 * a1)) then (if (wrap64 (2 * a1)) < (l0.length : Int) then (conclavelaw05_DigestChange.j0 k l0 a1 a2 (a2 == ((rd_T33 l0 (wrap64 (2 * a1))).f1))) else (none)) else (none)))) else (conclavelaw05_DigestChange.j0 k l0 a1 a2 true)) = some r := H
        have A10 := Aside0.mk A100
        clear A100
        by_cases c11 : t288 = true
        · subst c11
          have H1 : (if a2 < 1 then (conclavelaw05_DigestChange.j0 k l0 a1 a2 true) else (if a2 > 90 then (conclavelaw05_DigestChange.j0 k l0 a1 a2 true) else (if 0 ≤ (wrap64 (2 * a1)) then (if (wrap64 (2 * a1)) < (l0.length : Int) then (conclavelaw05_DigestChange.j0 k l0 a1 a2 (a2 == ((rd_T33 l0 (wrap64 (2 * a1))).f1))) else (none)) else (none)))) = some r := by rw [if_pos rfl] at H; exact H
          clear H
          have H := H1
          clear H1
          by_cases c12 : a2 < 1
          · rw [if_pos c12] at H
            have c12b0 : decide (a2 < 1) = true := decide_eq_true c12
            clear c12
            (first | rw [c12b0] | (simp only [i64_w, i32_w]; rw [c12b0]) | skip)
            have H' := Aside0.mk H
            clear H
            go_wp2_with (first | ((with_reducible refine gate_callee (f := 11) rfl ?_); refine goesL_ (some 16) rfl rfl Tryd.func11 (by kernel_rfl) rfl #[.slice A0 l0.length c0, .int .i64 90] rfl (by (try simp only [List.map_toArray, List.map_cons, List.map_nil]); first | done | rfl | (simp only [List.length_drop, List.length_take]; rfl)) ?_; (with_reducible refine (conclavelaw05_right.calls k _ _ l0 90 true _ ?side1 ?side2 A8.out).mono ?_); (case side1 => repeat (first | exact (Kd.C_below HR0.out HB.out) | (with_reducible refine Kd.C_alloc ?_ _) | (with_reducible refine Kd.C_drewN ?_ _) | (with_reducible refine Kd.C_drew ?_))); (case side2 => exact HC0.out); rintro e w13 ⟨rfl, hb⟩; refine ⟨_, rfl, ?_⟩; have n0_ := Aside0.mk (below_step (by repeat (first | (with_reducible first | exact HB.out | apply below_alloc | apply pw_below_drewN | apply below_drew1) | exact HB.out)) hb); clear HB; have HB := n0_; clear n0_; (try clear hb); (try clear hb2); (try clear hk); (try clear hi)) | (go_at_call 15; (with_reducible refine (conclaveref04_Full.calls _ _ l0 a1 true _ ?side1 ?side2 A10.out).mono ?_); (case side1 => repeat (first | exact (Kd.C_below HR0.out HB.out) | (with_reducible refine Kd.C_alloc ?_ _) | (with_reducible refine Kd.C_drewN ?_ _) | (with_reducible refine Kd.C_drew ?_))); (case side2 => exact HC0.out); rintro e w' ⟨rfl, ⟨nd, rfl⟩⟩))
            go_meet
            case rel => exact ⟨_, (true), (by first | rfl | (simp; done) | (simp [*]; done)), H', ⟨by first | omega | exact Nat.le_refl _⟩, ⟨by repeat (first | (with_reducible first | exact HB.out | apply below_alloc | apply pw_below_drewN | apply below_drew1) | exact HB.out)⟩⟩
          · rw [if_neg c12] at H
            have c12b0 : decide (a2 < 1) = false := decide_eq_false c12
            clear c12
            (first | rw [c12b0] | (simp only [i64_w, i32_w]; rw [c12b0]) | skip)
            by_cases c14 : a2 > 90
            · rw [if_pos c14] at H
              have c14b0 : decide (90 < a2) = true := decide_eq_true c14
              clear c14
              have H' := Aside0.mk H
              clear H
              go_wp2_with (first | ((with_reducible refine gate_callee (f := 11) rfl ?_); refine goesL_ (some 16) rfl rfl Tryd.func11 (by kernel_rfl) rfl #[.slice A0 l0.length c0, .int .i64 90] rfl (by (try simp only [List.map_toArray, List.map_cons, List.map_nil]); first | done | rfl | (simp only [List.length_drop, List.length_take]; rfl)) ?_; (with_reducible refine (conclavelaw05_right.calls k _ _ l0 90 true _ ?side1 ?side2 A8.out).mono ?_); (case side1 => repeat (first | exact (Kd.C_below HR0.out HB.out) | (with_reducible refine Kd.C_alloc ?_ _) | (with_reducible refine Kd.C_drewN ?_ _) | (with_reducible refine Kd.C_drew ?_))); (case side2 => exact HC0.out); rintro e w15 ⟨rfl, hb⟩; refine ⟨_, rfl, ?_⟩; have n0_ := Aside0.mk (below_step (by repeat (first | (with_reducible first | exact HB.out | apply below_alloc | apply pw_below_drewN | apply below_drew1) | exact HB.out)) hb); clear HB; have HB := n0_; clear n0_; (try clear hb); (try clear hb2); (try clear hk); (try clear hi)) | (go_at_call 15; (with_reducible refine (conclaveref04_Full.calls _ _ l0 a1 true _ ?side1 ?side2 A10.out).mono ?_); (case side1 => repeat (first | exact (Kd.C_below HR0.out HB.out) | (with_reducible refine Kd.C_alloc ?_ _) | (with_reducible refine Kd.C_drewN ?_ _) | (with_reducible refine Kd.C_drew ?_))); (case side2 => exact HC0.out); rintro e w' ⟨rfl, ⟨nd, rfl⟩⟩))
              go_meet
              case rel => exact ⟨_, (true), (by first | rfl | (simp; done) | (simp [*]; done)), H', ⟨by first | omega | exact Nat.le_refl _⟩, ⟨by repeat (first | (with_reducible first | exact HB.out | apply below_alloc | apply pw_below_drewN | apply below_drew1) | exact HB.out)⟩⟩
            · rw [if_neg c14] at H
              have c14b0 : decide (90 < a2) = false := decide_eq_false c14
              clear c14
              obtain ⟨ji16, hji16⟩ : ∃ j_ : Int, (wrap64 (2 * a1)) = j_ := ⟨_, rfl⟩
              replace H : (if 0 ≤ (ji16) then (if (ji16) < (l0.length : Int) then (conclavelaw05_DigestChange.j0 k l0 a1 a2 (a2 == ((rd_T33 l0 (ji16)).f1))) else (none)) else (none)) = some r := by first | (rw [hji16] at H; exact H) | (simp only [hji16] at H ⊢; exact H)
              (try rw [hji16] at A8)
              (try rw [hji16] at A10)
              have hji16w : (IntKind.i64.wrap (2 * a1)) = ji16 := (i64_w _).trans hji16
              by_cases c17 : 0 ≤ (ji16)
              · rw [if_pos c17] at H
                have c17b0 : decide (0 ≤ (ji16)) = true := decide_eq_true c17
                clear c17
                by_cases c18 : (ji16) < (l0.length : Int)
                · rw [if_pos c18] at H
                  have c18b0 : decide ((ji16) < (l0.length : Int)) = true := decide_eq_true c18
                  clear c18
                  have H' := Aside0.mk H
                  clear H
                  go_wp2_with (first | ((with_reducible refine gate_callee (f := 11) rfl ?_); refine goesL_ (some 16) rfl rfl Tryd.func11 (by kernel_rfl) rfl #[.slice A0 l0.length c0, .int .i64 90] rfl (by (try simp only [List.map_toArray, List.map_cons, List.map_nil]); first | done | rfl | (simp only [List.length_drop, List.length_take]; rfl)) ?_; (with_reducible refine (conclavelaw05_right.calls k _ _ l0 90 true _ ?side1 ?side2 A8.out).mono ?_); (case side1 => repeat (first | exact (Kd.C_below HR0.out HB.out) | (with_reducible refine Kd.C_alloc ?_ _) | (with_reducible refine Kd.C_drewN ?_ _) | (with_reducible refine Kd.C_drew ?_))); (case side2 => exact HC0.out); rintro e w19 ⟨rfl, hb⟩; refine ⟨_, rfl, ?_⟩; have n0_ := Aside0.mk (below_step (by repeat (first | (with_reducible first | exact HB.out | apply below_alloc | apply pw_below_drewN | apply below_drew1) | exact HB.out)) hb); clear HB; have HB := n0_; clear n0_; (try clear hb); (try clear hb2); (try clear hk); (try clear hi)) | (go_at_call 15; (with_reducible refine (conclaveref04_Full.calls _ _ l0 a1 true _ ?side1 ?side2 A10.out).mono ?_); (case side1 => repeat (first | exact (Kd.C_below HR0.out HB.out) | (with_reducible refine Kd.C_alloc ?_ _) | (with_reducible refine Kd.C_drewN ?_ _) | (with_reducible refine Kd.C_drew ?_))); (case side2 => exact HC0.out); rintro e w' ⟨rfl, ⟨nd, rfl⟩⟩; have p289 : 0 ≤ ((ji16) : Int) := of_decide_eq_true (by first | (with_reducible assumption) | assumption); have q289 : (ji16) < (l0.length : Int) := of_decide_eq_true (by first | (with_reducible assumption) | assumption); obtain ⟨ad289, A289_5, c289_5, e289, hx289_0, hx289_1, hx289_2, hx289_3, hx289_4, hx289_5, hl289_5, hi289_5⟩ := at_T33 HR0.out (ji16) p289 q289; cases e289; replace hx289_0 := (HB.out.cell (World.block_lt_of_cell? w _ hx289_0)).trans hx289_0; replace hx289_1 := (HB.out.cell (World.block_lt_of_cell? w _ hx289_1)).trans hx289_1; replace hx289_2 := (HB.out.cell (World.block_lt_of_cell? w _ hx289_2)).trans hx289_2; replace hx289_3 := (HB.out.cell (World.block_lt_of_cell? w _ hx289_3)).trans hx289_3; replace hx289_4 := (HB.out.cell (World.block_lt_of_cell? w _ hx289_4)).trans hx289_4; replace hx289_5 := (HB.out.cell (World.block_lt_of_cell? w _ hx289_5)).trans hx289_5; have HR289_5 := Aside0.mk hi289_5; have HC289_5 := Aside0.mk hl289_5; clear hi289_5 hl289_5; replace p289 := eq_true p289; replace q289 := eq_true q289))
                  go_meet
                  case rel => exact ⟨_, ((a2 == ((rd_T33 l0 (ji16)).f1))), (by first | rfl | (simp; done) | (simp only [← hji16] <;> (first | rfl | simp)) | (simp [*]; done)), H', ⟨by first | omega | exact Nat.le_refl _⟩, ⟨by repeat (first | (with_reducible first | exact HB.out | apply below_alloc | apply pw_below_drewN | apply below_drew1) | exact HB.out)⟩⟩
                · rw [if_neg c18] at H
                  exact absurd H (by simp)
              · rw [if_neg c17] at H
                exact absurd H (by simp)
        · replace c11 := Bool.eq_false_iff.mpr c11
          subst c11
          have H1 : (conclavelaw05_DigestChange.j0 k l0 a1 a2 true) = some r := by rw [if_neg (show ¬ (false = true) by decide)] at H; exact H
          clear H
          have H := H1
          clear H1
          have H' := Aside0.mk H
          clear H
          go_wp2_with (first | ((with_reducible refine gate_callee (f := 11) rfl ?_); refine goesL_ (some 16) rfl rfl Tryd.func11 (by kernel_rfl) rfl #[.slice A0 l0.length c0, .int .i64 90] rfl (by (try simp only [List.map_toArray, List.map_cons, List.map_nil]); first | done | rfl | (simp only [List.length_drop, List.length_take]; rfl)) ?_; (with_reducible refine (conclavelaw05_right.calls k _ _ l0 90 true _ ?side1 ?side2 A8.out).mono ?_); (case side1 => repeat (first | exact (Kd.C_below HR0.out HB.out) | (with_reducible refine Kd.C_alloc ?_ _) | (with_reducible refine Kd.C_drewN ?_ _) | (with_reducible refine Kd.C_drew ?_))); (case side2 => exact HC0.out); rintro e w20 ⟨rfl, hb⟩; refine ⟨_, rfl, ?_⟩; have n0_ := Aside0.mk (below_step (by repeat (first | (with_reducible first | exact HB.out | apply below_alloc | apply pw_below_drewN | apply below_drew1) | exact HB.out)) hb); clear HB; have HB := n0_; clear n0_; (try clear hb); (try clear hb2); (try clear hk); (try clear hi)) | (go_at_call 15; (with_reducible refine (conclaveref04_Full.calls _ _ l0 a1 false _ ?side1 ?side2 A10.out).mono ?_); (case side1 => repeat (first | exact (Kd.C_below HR0.out HB.out) | (with_reducible refine Kd.C_alloc ?_ _) | (with_reducible refine Kd.C_drewN ?_ _) | (with_reducible refine Kd.C_drew ?_))); (case side2 => exact HC0.out); rintro e w' ⟨rfl, ⟨nd, rfl⟩⟩))
          go_meet
          case rel => exact ⟨_, (true), (by first | rfl | (simp; done) | (simp [*]; done)), H', ⟨by first | omega | exact Nat.le_refl _⟩, ⟨by repeat (first | (with_reducible first | exact HB.out | apply below_alloc | apply pw_below_drewN | apply below_drew1) | exact HB.out)⟩⟩
      · replace c9 := Bool.eq_false_iff.mpr c9
        subst c9
        have H1 : (conclavelaw05_DigestChange.j0 k l0 a1 a2 true) = some r := by rw [if_neg (show ¬ (false = true) by decide)] at H; exact H
        clear H
        have H := H1
        clear H1
        have H' := Aside0.mk H
        clear H
        go_wp2_with (first | ((with_reducible refine gate_callee (f := 11) rfl ?_); refine goesL_ (some 16) rfl rfl Tryd.func11 (by kernel_rfl) rfl #[.slice A0 l0.length c0, .int .i64 90] rfl (by (try simp only [List.map_toArray, List.map_cons, List.map_nil]); first | done | rfl | (simp only [List.length_drop, List.length_take]; rfl)) ?_; (with_reducible refine (conclavelaw05_right.calls k _ _ l0 90 false _ ?side1 ?side2 A8.out).mono ?_); (case side1 => repeat (first | exact (Kd.C_below HR0.out HB.out) | (with_reducible refine Kd.C_alloc ?_ _) | (with_reducible refine Kd.C_drewN ?_ _) | (with_reducible refine Kd.C_drew ?_))); (case side2 => exact HC0.out); rintro e w21 ⟨rfl, hb⟩; refine ⟨_, rfl, ?_⟩; have n0_ := Aside0.mk (below_step (by repeat (first | (with_reducible first | exact HB.out | apply below_alloc | apply pw_below_drewN | apply below_drew1) | exact HB.out)) hb); clear HB; have HB := n0_; clear n0_; (try clear hb); (try clear hb2); (try clear hk); (try clear hi)))
        go_meet
        case rel => exact ⟨_, (true), (by first | rfl | (simp; done) | (simp [*]; done)), H', ⟨by first | omega | exact Nat.le_refl _⟩, ⟨by repeat (first | (with_reducible first | exact HB.out | apply below_alloc | apply pw_below_drewN | apply below_drew1) | exact HB.out)⟩⟩
    case rest =>
      clear HC6
      try clear c1
      try clear c2
      try clear p2
      try clear q2
      try clear hx2
      try clear c4
      try clear c5
      try clear p6
      try clear c9
      try clear c10
      try clear c11
      try clear c12
      try clear c12b0
      try clear c14
      try clear c14b0
      try clear c17
      try clear c17b0
      try clear c18
      try clear c18b0
      try clear hx289_0
      try clear hx289_1
      try clear hx289_2
      try clear hx289_3
      try clear hx289_4
      try clear hx289_5
      try clear p289
      try clear q289
      obtain ⟨kq, x41_5, rfl, HA, HJ5, HB⟩ := hcut
      cases kq with
      | zero => exact absurd HA.out (by simp [conclavelaw05_DigestChange.j0])
      | succ kj5 =>
        have H := HA.out
        clear HA
        simp only [conclavelaw05_DigestChange.j0] at H
        by_cases c22 : x41_5 = true
        · subst c22
          have H1 : (some true) = some r := by rw [if_pos rfl] at H; exact H
          clear H
          have H := H1
          clear H1
          obtain rfl := Option.some.inj H
          try exact absurd hr Bool.false_ne_true
          all_goals
            go_wp2
            go_ret
            exact ⟨by first | rfl | (simp [errW_none, errW_some] <;> rfl) | (simp [*, errW_none, errW_some] <;> rfl), by repeat (first | (with_reducible first | exact HB.out | apply below_alloc | apply pw_below_drewN | apply below_drew1) | exact HB.out)⟩
        · replace c22 := Bool.eq_false_iff.mpr c22
          subst c22
          have H1 : ((conclavelaw05_stores.f 90).bind fun t290 => ((conclaveref04_Copy.f kj5 l0).bind fun t292 => (if 0 ≤ (wrap64 (2 * a1)) then (if (wrap64 (2 * a1)) < (t292.length : Int) then (conclavelaw05_DigestChange.l0 kj5 l0 a1 (t292.set ((wrap64 (2 * a1)) : Int).toNat (⟨(rd_T33 t292 (wrap64 (2 * a1))).f0, a2, (rd_T33 t292 (wrap64 (2 * a1))).f2, (rd_T33 t292 (wrap64 (2 * a1))).f3, (rd_T33 t292 (wrap64 (2 * a1))).f4, (rd_T33 t292 (wrap64 (2 * a1))).f5⟩ : S33)) (l0.length : Int) 0 t290) else (none)) else (none)))) = some r := by rw [if_neg (show ¬ (false = true) by decide)] at H; exact H
          clear H
          have H := H1
          clear H1
          replace H := Option.bind_eq_some_iff.mp H
          obtain ⟨t290, A230, H⟩ := H
          replace H : ((conclaveref04_Copy.f kj5 l0).bind fun t292 => (if 0 ≤ (wrap64 (2 * a1)) then (if (wrap64 (2 * a1)) < (t292.length : Int) then (conclavelaw05_DigestChange.l0 kj5 l0 a1 (t292.set ((wrap64 (2 * a1)) : Int).toNat (⟨(rd_T33 t292 (wrap64 (2 * a1))).f0, a2, (rd_T33 t292 (wrap64 (2 * a1))).f2, (rd_T33 t292 (wrap64 (2 * a1))).f3, (rd_T33 t292 (wrap64 (2 * a1))).f4, (rd_T33 t292 (wrap64 (2 * a1))).f5⟩ : S33)) (l0.length : Int) 0 t290) else (none)) else (none))) = some r := H
          have A23 := Aside0.mk A230
          clear A230
          replace H := Option.bind_eq_some_iff.mp H
          obtain ⟨t292, A240, H⟩ := H
          replace H : (if 0 ≤ (wrap64 (2 * a1)) then (if (wrap64 (2 * a1)) < (t292.length : Int) then (conclavelaw05_DigestChange.l0 kj5 l0 a1 (t292.set ((wrap64 (2 * a1)) : Int).toNat (⟨(rd_T33 t292 (wrap64 (2 * a1))).f0, a2, (rd_T33 t292 (wrap64 (2 * a1))).f2, (rd_T33 t292 (wrap64 (2 * a1))).f3, (rd_T33 t292 (wrap64 (2 * a1))).f4, (rd_T33 t292 (wrap64 (2 * a1))).f5⟩ : S33)) (l0.length : Int) 0 t290) else (none)) else (none)) = some r := H
          have A24 := Aside0.mk A240
          clear A240
          obtain ⟨ji25, hji25⟩ : ∃ j_ : Int, (wrap64 (2 * a1)) = j_ := ⟨_, rfl⟩
          replace H : (if 0 ≤ (ji25) then (if (ji25) < (t292.length : Int) then (conclavelaw05_DigestChange.l0 kj5 l0 a1 (t292.set ((ji25) : Int).toNat (⟨(rd_T33 t292 (ji25)).f0, a2, (rd_T33 t292 (ji25)).f2, (rd_T33 t292 (ji25)).f3, (rd_T33 t292 (ji25)).f4, (rd_T33 t292 (ji25)).f5⟩ : S33)) (l0.length : Int) 0 t290) else (none)) else (none)) = some r := by first | (rw [hji25] at H; exact H) | (simp only [hji25] at H ⊢; exact H)
          (try rw [hji25] at A23)
          (try rw [hji25] at A24)
          have hji25w : (IntKind.i64.wrap (2 * a1)) = ji25 := (i64_w _).trans hji25
          by_cases c26 : 0 ≤ (ji25)
          · rw [if_pos c26] at H
            have c26b0 : decide (0 ≤ (ji25)) = true := decide_eq_true c26
            clear c26
            by_cases c27 : (ji25) < (t292.length : Int)
            · rw [if_pos c27] at H
              have c27b0 : decide ((ji25) < (t292.length : Int)) = true := decide_eq_true c27
              clear c27
              obtain ⟨y295, hy295⟩ : ∃ y_ : List (S33), y_ = (t292.set ((ji25) : Int).toNat (⟨(rd_T33 t292 (ji25)).f0, a2, (rd_T33 t292 (ji25)).f2, (rd_T33 t292 (ji25)).f3, (rd_T33 t292 (ji25)).f4, (rd_T33 t292 (ji25)).f5⟩ : S33)) := ⟨_, rfl⟩
              replace H : (conclavelaw05_DigestChange.l0 kj5 l0 a1 y295 (l0.length : Int) 0 t290) = some r := by first | (rw [hy295]; with_reducible exact H) | (have H2_ := (Option.bind_some _ _).symm.trans H; rw [hy295]; with_reducible exact H2_) | (have H2_ := (Option.bind_some _ _).symm.trans H; with_reducible exact H2_) | with_reducible exact H | (rw [hy295]; exact H) | exact H
              have Ny295 := Aside0.mk hy295
              clear hy295
              have H' := Aside0.mk H
              clear H
              go_wp2_with (first | ((with_reducible refine gate_callee (f := 12) rfl ?_); refine goesL_ (some 43) rfl rfl Tryd.func12 (by kernel_rfl) rfl #[.int .i64 90] rfl (by (try simp only [List.map_toArray, List.map_cons, List.map_nil]); first | done | rfl | (simp only [List.length_drop, List.length_take]; rfl)) ?_; (with_reducible refine (conclavelaw05_stores.calls 90 t290 w _ ?side1 A23.out).mono ?_); (case side1 => repeat (first | (with_reducible first | exact HB.out | apply below_alloc | apply pw_below_drewN | apply below_drew1) | exact HB.out)); rintro e w29 ⟨g291, rfl, hi, hb, hb2⟩; refine ⟨_, rfl, ?_⟩; have n0_ := Aside0.mk (hb); have n1_ := Aside0.mk (hi); clear HB; have HB := n0_; have HI291 := n1_; clear n0_ n1_; (try clear hb); (try clear hb2); (try clear hk); (try clear hi)) | ((with_reducible refine gate_callee (f := 16) rfl ?_); refine goesL_ (some 49) rfl rfl Tryd.func16 (by kernel_rfl) rfl #[.slice A0 l0.length c0] rfl (by (try simp only [List.map_toArray, List.map_cons, List.map_nil]); first | done | rfl | (simp only [List.length_drop, List.length_take]; rfl)) ?_; (with_reducible refine (conclaveref04_Copy.calls kj5 _ _ l0 t292 _ ?side1 ?side2 A24.out).mono ?_); (case side1 => repeat (first | exact (Kd.C_below HR0.out HB.out) | (with_reducible refine Kd.C_alloc ?_ _) | (with_reducible refine Kd.C_drewN ?_ _) | (with_reducible refine Kd.C_drew ?_))); (case side2 => exact HC0.out); rintro e w30 ⟨v293, rfl, ho0, hb⟩; refine ⟨_, rfl, ?_⟩; have n0_ := Aside0.mk (Kd.S_lower ho0 (below_size (by repeat (first | (with_reducible first | exact HB.out | apply below_alloc | apply pw_below_drewN | apply below_drew1 | refine below_set ?_ (IsS75.ge HI291.out)) | exact HB.out)))); have n1_ := Aside0.mk (IsS75.below (by repeat (first | (with_reducible first | exact HI291.out | apply IsS75.alloc | apply IsS75.drewN | apply IsS75.drew | apply IsS75.set_0) | exact HI291.out)) hb); have n2_ := Aside0.mk (below_step (by repeat (first | (with_reducible first | exact HB.out | apply below_alloc | apply pw_below_drewN | apply below_drew1 | refine below_set ?_ (IsS75.ge HI291.out)) | exact HB.out)) hb); clear HI291; clear HB; have HO294 := n0_; have HI291 := n1_; have HB := n2_; clear n0_ n1_ n2_; (try clear hb); (try clear hb2); (try clear hk); (try clear hi); (try clear ho0); have p28 : 0 ≤ ((ji25) : Int) := of_decide_eq_true (by first | (with_reducible assumption) | assumption); have q28 : ((ji25) : Int) < ((t292.length : Int) : Int) := of_decide_eq_true (by first | (with_reducible assumption) | assumption); obtain ⟨go28, co28, eo28, gb28, gl28, cl28, HG28⟩ := Kd.S_form HO294.out (by omega); (first | cases eo28 | (injection eo28 with ea_ en_ ec_; (first | subst ea_ | (injection ea_ with ea_; subst ea_)); subst ec_; clear en_)); have GB28 := Aside0.mk gb28; have GG28 := Aside0.mk HG28; clear gb28 gl28 HG28; obtain ⟨_, ce28, hcl28, hM28, hcc28, hfr28, _, _⟩ := Kd.S_elem HO294.out z33 ((ji25) : Int) p28 q28; obtain ⟨ve28_5, rfl, ge28_5⟩ := k33_openM hM28; have hx28_0 : w30.cell? ⟨go28, ((ji25) : Int).toNat * 6, none⟩ = some (.bool ((rd_T33 t292 (ji25)).f0)) := hcc28 0 _ rfl; have hx28_1 : w30.cell? ⟨go28, ((ji25) : Int).toNat * 6 + 1, none⟩ = some (.int .i64 ((rd_T33 t292 (ji25)).f1)) := hcc28 1 _ rfl; have hx28_2 : w30.cell? ⟨go28, ((ji25) : Int).toNat * 6 + 2, none⟩ = some (.int .i64 ((rd_T33 t292 (ji25)).f2)) := hcc28 2 _ rfl; have hx28_3 : w30.cell? ⟨go28, ((ji25) : Int).toNat * 6 + 3, none⟩ = some (.int .i64 ((rd_T33 t292 (ji25)).f3)) := hcc28 3 _ rfl; have hx28_4 : w30.cell? ⟨go28, ((ji25) : Int).toNat * 6 + 4, none⟩ = some (.int .i64 ((rd_T33 t292 (ji25)).f4)) := hcc28 4 _ rfl; have hx28_5 : w30.cell? ⟨go28, ((ji25) : Int).toNat * 6 + 5, none⟩ = some (ve28_5) := hcc28 5 _ rfl; have hf28_0 : w30.frozen? ⟨go28, ((ji25) : Int).toNat * 6, none⟩ = false := hfr28 0; have hf28_1 : w30.frozen? ⟨go28, ((ji25) : Int).toNat * 6 + 1, none⟩ = false := hfr28 1; have hf28_2 : w30.frozen? ⟨go28, ((ji25) : Int).toNat * 6 + 2, none⟩ = false := hfr28 2; have hf28_3 : w30.frozen? ⟨go28, ((ji25) : Int).toNat * 6 + 3, none⟩ = false := hfr28 3; have hf28_4 : w30.frozen? ⟨go28, ((ji25) : Int).toNat * 6 + 4, none⟩ = false := hfr28 4; have hf28_5 : w30.frozen? ⟨go28, ((ji25) : Int).toNat * 6 + 5, none⟩ = false := hfr28 5; clear hcl28 hcc28 hfr28 hM28; replace p28 := eq_true p28; replace q28 := eq_true q28; have HX31 := Aside0.mk (show Kd.S k33 33 w30 w.heap.size (fun k_ => ((fun _ => True)) k_ ∧ ¬ ((fun _ => False)) k_) (.slice (some ⟨go28, 0, none⟩) t292.length co28) t292 from (by (with_reducible repeat (first | apply Kd.S_alloc | apply Kd.S_drewN | apply Kd.S_drew)); exact Kd.S_mono HO294.out (fun k_ hk => ⟨trivial, fun e_ => e_⟩))); obtain ⟨oki31, ce31, hcl31, hM31, hcc31, hfr31, hoki31, hH31⟩ := Kd.S_elem HX31.out z33 ((ji25) : Int) (of_decide_eq_true (by first | (with_reducible assumption) | assumption)) (by have h_ : ((ji25) : Int) < ((t292.length : Int) : Int) := of_decide_eq_true (by first | (with_reducible assumption) | assumption); first | exact h_ | (have e_ := (Kd.S_reads' HO294.out).1; omega) | simpa using h_); obtain ⟨ve31_5, rfl, ge31_5⟩ := k33_openM hM31; have HP31 := Kd.S_seg hH31 (of_decide_eq_true (by first | (with_reducible assumption) | assumption)) (by have h_ : ((ji25) : Int) < ((t292.length : Int) : Int) := of_decide_eq_true (by first | (with_reducible assumption) | assumption); first | exact h_ | (have e_ := (Kd.S_reads' HO294.out).1; omega) | simpa using h_) (seg := [.int .i64 a2]) (j := 1) (show 2 ≤ 6 from by decide) (x' := (⟨(rd_T33 t292 (ji25)).f0, a2, (rd_T33 t292 (ji25)).f2, (rd_T33 t292 (ji25)).f3, (rd_T33 t292 (ji25)).f4, (rd_T33 t292 (ji25)).f5⟩ : S33)) (k33_mkM _ _ _ (⟨(rd_T33 t292 (ji25)).f0, a2, (rd_T33 t292 (ji25)).f2, (rd_T33 t292 (ji25)).f3, (rd_T33 t292 (ji25)).f4, (rd_T33 t292 (ji25)).f5⟩ : S33) (Kd.R_mono ge31_5 (fun _ h_ => Or.inl h_))) (fun _ hk => hk) (fun k_ hk_ => hk_.elim); have hx31_1 := hcc31 1 _ rfl; (try simp only [show (k33).sz = 6 from rfl, Nat.mul_one, Nat.add_zero] at hx31_1); have hf31_1 := hfr31 1; (try simp only [show (k33).sz = 6 from rfl, Nat.mul_one, Nat.add_zero] at hf31_1); clear hcl31 hcc31 hfr31 hM31 hoki31 hH31) | ((with_reducible refine gate_store (t := 3) (p := 55) rfl ?_); refine store_event (t := 3) (p := 55) (v := ?vo_w32) (w1 := (w30.setCell ⟨go28, ((ji25) : Int).toNat * 6 + 1, none⟩ (.int .i64 a2))) ?hg ?ho ?hn ?hr ?_; (case ho => rfl); (case hg => rfl); (case hn => rfl); (case hr => first | (go_simp; done) | (go_simp; rfl)); intro w32 hw; have hg : w30.grownBy w32 (some go28) := (by rw [hw]; exact HP31.2); have hp_ : Kd.S k33 33 w32 w.heap.size (fun _ => True) (.slice (some ⟨go28, 0, none⟩) t292.length co28) y295 := (by rw [hw, Ny295.out]; exact HP31.1); clear HP31; have n0_ := Aside0.mk (IsS75.grown (by repeat (first | (with_reducible first | exact HI291.out | apply IsS75.alloc | apply IsS75.drewN | apply IsS75.drew | apply IsS75.set_0) | exact HI291.out)) hg (IsS75.own_neS HI291.out HO294.out (by decide))); have n1_ := Aside0.mk (hp_); have n2_ := Aside0.mk ((by rw [hw]; exact below_set (HB.out) GB28.out : Below w.heap.size w w32)); clear HI291; clear HO294; clear HB; have HI291 := n0_; have HO294 := n1_; have HB := n2_; clear n0_ n1_ n2_; clear hg hw hp_))
              go_loopg [58] kj5 (fun kq v58 w' => ∃ (x58_2 : Int) (x292000_2 : TS), v58 = .int .i64 x58_2 ∧ Aside0 (conclavelaw05_DigestChange.l0 kq l0 a1 y295 (l0.length : Int) x58_2 x292000_2 = some r) ∧ Aside0 (kq ≤ kj5) ∧ Aside0 (Kd.S k33 33 w' w.heap.size (fun _ => True) (.slice (some ⟨go28, 0, none⟩) t292.length co28) y295) ∧ Aside0 (IsS75 w w' g291 x292000_2) ∧ Aside0 (Below w.heap.size w w'))
              case atStart => exact ⟨(0), (t290), (by first | rfl | (simp; done) | (simp [*]; done)), H', ⟨Nat.le_refl _⟩, ⟨by (with_reducible repeat (first | apply Kd.S_alloc | apply Kd.S_drewN | apply Kd.S_drew)); exact HO294.out⟩, ⟨by repeat (first | (with_reducible first | exact HI291.out | apply IsS75.alloc | apply IsS75.drewN | apply IsS75.drew | apply IsS75.set_0) | exact HI291.out)⟩, ⟨by repeat (first | (with_reducible first | exact HB.out | apply below_alloc | apply pw_below_drewN | apply below_drew1 | refine below_set ?_ (IsS75.ge HI291.out)) | exact HB.out)⟩⟩
              case round =>
                clear H'
                try clear c1
                try clear c2
                try clear p2
                try clear q2
                try clear hx2
                try clear c3
                try clear hx3
                try clear hf3
                try clear c4
                try clear c5
                try clear p6
                try clear c9
                try clear c10
                try clear c11
                try clear c12
                try clear c12b0
                try clear c14
                try clear c14b0
                try clear c16
                try clear c17
                try clear c17b0
                try clear c18
                try clear c18b0
                try clear c22
                try clear c26
                try clear c26b0
                try clear c27
                try clear c27b0
                try clear c28
                try clear p28
                try clear q28
                try clear hx28
                try clear hf28
                try clear c31
                try clear hx31
                try clear hf31
                try clear hx289_0
                try clear hx289_1
                try clear hx289_2
                try clear hx289_3
                try clear hx289_4
                try clear hx289_5
                try clear hx28_0
                try clear hx28_1
                try clear hx28_2
                try clear hx28_3
                try clear hx28_4
                try clear hx28_5
                try clear hx31_1
                try clear p2
                try clear p28
                try clear p289
                try clear p6
                try clear q2
                try clear q28
                try clear q289
                obtain ⟨x58_2, x292000_2, rfl, HA, HK2, HO_9, HI291, HB⟩ := hrel
                have hl9_2 := (Kd.S_reads' HO_9.out).1
                rw [hl9_2] at HO_9
                (try simp only [hl9_2])
                cases gk with
                | zero => exact absurd HA.out (by simp [conclavelaw05_DigestChange.l0])
                | succ k2 =>
                  have H := HA.out
                  clear HA
                  simp only [conclavelaw05_DigestChange.l0] at H
                  by_cases c33 : x58_2 < (l0.length : Int)
                  · rw [if_pos c33] at H
                    have c33b0 : decide (x58_2 < (l0.length : Int)) = true := decide_eq_true c33
                    clear c33
                    replace H := Option.bind_eq_some_iff.mp H
                    obtain ⟨⟨t296, t297⟩, A340, H⟩ := H
                    replace H : ((digest_Hash.f k2 t297 y295 x58_2).bind fun bt298 => (if t296 = 0 then (some false) else (if bt298.1 = 0 then (some false) else ((conclaveref04_Leaves.f l0).bind fun t300 => ((conclaveref03_Under.f k2 (wrap64 (2 * a1)) x58_2 t300).bind fun t301 => (if ((t296 != bt298.1) != t301) = true then (some false) else (conclavelaw05_DigestChange.l0 k2 l0 a1 y295 (l0.length : Int) (wrap64 (x58_2 + 1)) bt298.2))))))) = some r := H
                    have A34 := Aside0.mk A340
                    clear A340
                    replace H := Option.bind_eq_some_iff.mp H
                    obtain ⟨⟨t298, t299⟩, A350, H⟩ := H
                    replace H : (if t296 = 0 then (some false) else (if t298 = 0 then (some false) else ((conclaveref04_Leaves.f l0).bind fun t300 => ((conclaveref03_Under.f k2 (wrap64 (2 * a1)) x58_2 t300).bind fun t301 => (if ((t296 != t298) != t301) = true then (some false) else (conclavelaw05_DigestChange.l0 k2 l0 a1 y295 (l0.length : Int) (wrap64 (x58_2 + 1)) t299)))))) = some r := H
                    have A35 := Aside0.mk A350
                    clear A350
                    by_cases c36 : t296 = 0
                    · rw [if_pos c36] at H
                      exact absurd ((Option.some.inj H).trans hr) Bool.false_ne_true
                    · rw [if_neg c36] at H
                      have c36b0 : (t296 == 0) = false := beq_eq_false_iff_ne.mpr c36
                      have c36b1 : (t296 != 0) = true := bne_iff_ne.mpr c36
                      by_cases c39 : t298 = 0
                      · rw [if_pos c39] at H
                        exact absurd ((Option.some.inj H).trans hr) Bool.false_ne_true
                      · rw [if_neg c39] at H
                        have c39b0 : (t298 == 0) = false := beq_eq_false_iff_ne.mpr c39
                        have c39b1 : (t298 != 0) = true := bne_iff_ne.mpr c39
                        replace H := Option.bind_eq_some_iff.mp H
                        obtain ⟨t300, A420, H⟩ := H
                        replace H : ((conclaveref03_Under.f k2 (wrap64 (2 * a1)) x58_2 t300).bind fun t301 => (if ((t296 != t298) != t301) = true then (some false) else (conclavelaw05_DigestChange.l0 k2 l0 a1 y295 (l0.length : Int) (wrap64 (x58_2 + 1)) t299))) = some r := H
                        have A42 := Aside0.mk A420
                        clear A420
                        replace H := Option.bind_eq_some_iff.mp H
                        obtain ⟨t301, A430, H⟩ := H
                        replace H : (if ((t296 != t298) != t301) = true then (some false) else (conclavelaw05_DigestChange.l0 k2 l0 a1 y295 (l0.length : Int) (wrap64 (x58_2 + 1)) t299)) = some r := H
                        have A43 := Aside0.mk A430
                        clear A430
                        by_cases c44 : ((t296 != t298) != t301) = true
                        · rw [if_pos c44] at H
                          exact absurd ((Option.some.inj H).trans hr) Bool.false_ne_true
                        · rw [if_neg c44] at H
                          have c44b0 : ((t296 != t298) != t301) = false := by simpa using c44
                          (try (have c44b1 : decide ((t296 != t298) = t301) = true := by simpa using c44))
                          (try (have c44b2 : ((t296 != t298) == t301) = true := by simpa using c44))
                          clear c44
                          have H' := Aside0.mk H
                          clear H
                          go_wp2_with (first | ((with_reducible refine gate_callee (f := 17) rfl ?_); refine goesL_ (some 64) rfl rfl Tryd.func17 (by kernel_rfl) rfl #[.pointer (some ⟨g291, 0, none⟩), .slice A0 l0.length c0, .int .i64 x58_2] rfl (by (try simp only [List.map_toArray, List.map_cons, List.map_nil]); first | done | rfl | (simp only [List.length_drop, List.length_take]; rfl)) ?_; (with_reducible refine (digest_Hash.calls (hrG := ?sideG) k2 g291 x292000_2 _ _ l0 x58_2 t296 t297 w _ ?side1 ?side2 ?side3 ?side4 A34.out).mono ?_); (case sideG => (first | (with_reducible exact HRG.out) | exact TabG.below HRG.out (by repeat (first | (with_reducible first | exact HB.out | apply below_alloc | apply pw_below_drewN | apply below_drew1 | refine below_set ?_ (IsS75.ge HI291.out)) | (with_reducible exact Below.refl _ _))))); (case side1 => repeat (first | (with_reducible first | exact HI291.out | apply IsS75.alloc | apply IsS75.drewN | apply IsS75.drew | apply IsS75.set_0) | exact HI291.out)); (case side2 => repeat (first | (with_reducible first | exact HB.out | apply below_alloc | apply pw_below_drewN | apply below_drew1 | refine below_set ?_ (IsS75.ge HI291.out)) | exact HB.out)); (case side3 => exact Kd.C_footSt_came k33_heap HR0.out (by repeat (first | (with_reducible first | exact HB.out | apply below_alloc | apply pw_below_drewN | apply below_drew1 | refine below_set ?_ (IsS75.ge HI291.out)) | exact HB.out)) (IsS75.ge HI291.out)); (case side4 => exact HC0.out); rintro e w47 ⟨rfl, hi, hb, hk⟩; refine ⟨_, rfl, ?_⟩; have n0_ := Aside0.mk (Kd.S_mono (Kd.S_keepSt (IsS75.apartS (show IsS75 w _ g291 x292000_2 from by repeat (first | (with_reducible first | exact HI291.out | apply IsS75.alloc | apply IsS75.drewN | apply IsS75.drew | apply IsS75.set_0) | exact HI291.out)) (by (with_reducible repeat (first | apply Kd.S_alloc | apply Kd.S_drewN | apply Kd.S_drew)); exact HO_9.out) (by decide)) hk (fun _ h => h.2)) (fun _ h => h.1)); have n1_ := Aside0.mk (hb); have n2_ := Aside0.mk (hi); clear HO_9; clear HB; clear HI291; have HO_9 := n0_; have HB := n1_; have HI291 := n2_; clear n0_ n1_ n2_; (try clear hb); (try clear hb2); (try clear hk); (try clear hi)) | ((with_reducible refine gate_callee (f := 17) rfl ?_); refine goesL_ (some 68) rfl rfl Tryd.func17 (by kernel_rfl) rfl #[.pointer (some ⟨g291, 0, none⟩), .slice (some ⟨go28, 0, none⟩) y295.length co28, .int .i64 x58_2] rfl (by (try simp only [List.map_toArray, List.map_cons, List.map_nil]); first | done | rfl | (simp only [List.length_drop, List.length_take]; rfl)) ?_; (with_reducible refine (digest_Hash.calls (hrG := ?sideG) k2 g291 t297 _ _ y295 x58_2 t298 t299 w _ ?side1 ?side2 ?side3 ?side4 A35.out).mono ?_); (case sideG => (first | (with_reducible exact HRG.out) | exact TabG.below HRG.out (by repeat (first | (with_reducible first | exact HB.out | apply below_alloc | apply pw_below_drewN | apply below_drew1 | refine below_set ?_ (IsS75.ge HI291.out)) | (with_reducible exact Below.refl _ _))))); (case side1 => repeat (first | (with_reducible first | exact HI291.out | apply IsS75.alloc | apply IsS75.drewN | apply IsS75.drew | apply IsS75.set_0) | exact HI291.out)); (case side2 => repeat (first | (with_reducible first | exact HB.out | apply below_alloc | apply pw_below_drewN | apply below_drew1 | refine below_set ?_ (IsS75.ge HI291.out)) | exact HB.out)); (case side3 => exact Kd.C_footSt_own ((Kd.S_R (IsS75.apartS (show IsS75 w _ g291 t297 from by repeat (first | (with_reducible first | exact HI291.out | apply IsS75.alloc | apply IsS75.drewN | apply IsS75.drew | apply IsS75.set_0) | exact HI291.out)) (by (with_reducible repeat (first | apply Kd.S_alloc | apply Kd.S_drewN | apply Kd.S_drew)); exact HO_9.out) (by decide)))) (fun _ h_ => h_.2)); (case side4 => exact (Kd.S_reads' HO_9.out).2.1); rintro e w48 ⟨rfl, hi, hb, hk⟩; refine ⟨_, rfl, ?_⟩; have n0_ := Aside0.mk (Kd.S_mono (Kd.S_keepSt (IsS75.apartS (show IsS75 w _ g291 t297 from by repeat (first | (with_reducible first | exact HI291.out | apply IsS75.alloc | apply IsS75.drewN | apply IsS75.drew | apply IsS75.set_0) | exact HI291.out)) (by (with_reducible repeat (first | apply Kd.S_alloc | apply Kd.S_drewN | apply Kd.S_drew)); exact HO_9.out) (by decide)) hk (fun _ h => h.2)) (fun _ h => h.1)); have n1_ := Aside0.mk (hb); have n2_ := Aside0.mk (hi); clear HO_9; clear HB; clear HI291; have HO_9 := n0_; have HB := n1_; have HI291 := n2_; clear n0_ n1_ n2_; (try clear hb); (try clear hb2); (try clear hk); (try clear hi)) | (go_at_call 19; (with_reducible refine (conclaveref04_Leaves.calls _ _ l0 t300 _ ?side1 ?side2 A42.out).mono ?_); (case side1 => repeat (first | exact (Kd.C_below HR0.out HB.out) | (with_reducible refine Kd.C_alloc ?_ _) | (with_reducible refine Kd.C_drewN ?_ _) | (with_reducible refine Kd.C_drew ?_))); (case side2 => exact HC0.out); rintro e w' ⟨rfl, ⟨nd, rfl⟩⟩) | (go_at_call 18; (with_reducible refine (conclaveref03_Under.calls k2 ji25 x58_2 t300 t301 _ (by rw [← hji25]; exact A43.out)).mono ?_); rintro e w' ⟨rfl, ⟨nd, rfl⟩⟩))
                          (try simp only [← hl9_2])
                          go_roundg k2
                          case measure => have := HJ5.out; have := HK2.out; omega
                          case rel => exact ⟨(wrap64 (x58_2 + 1)), (t299), (by first | rfl | (simp; done) | (simp [*]; done)), H', ⟨by have := HJ5.out; have := HK2.out; omega⟩, ⟨by (try simp only [hl9_2]); (with_reducible repeat (first | apply Kd.S_alloc | apply Kd.S_drewN | apply Kd.S_drew)); exact HO_9.out⟩, ⟨by repeat (first | (with_reducible first | exact HI291.out | apply IsS75.alloc | apply IsS75.drewN | apply IsS75.drew | apply IsS75.set_0) | exact HI291.out)⟩, ⟨by repeat (first | (with_reducible first | exact HB.out | apply below_alloc | apply pw_below_drewN | apply below_drew1 | refine below_set ?_ (IsS75.ge HI291.out)) | exact HB.out)⟩⟩
                  · rw [if_neg c33] at H
                    have c33b0 : decide (x58_2 < (l0.length : Int)) = false := decide_eq_false c33
                    clear c33
                    obtain rfl := Option.some.inj H
                    try exact absurd hr Bool.false_ne_true
                    all_goals
                      go_wp2
                      go_ret
                      exact ⟨by first | rfl | (simp [errW_none, errW_some] <;> rfl) | (simp only [← hji25]; first | rfl | (simp [errW_none, errW_some] <;> rfl)) | (simp [*, errW_none, errW_some] <;> rfl), by repeat (first | (with_reducible first | exact HB.out | apply below_alloc | apply pw_below_drewN | apply below_drew1 | refine below_set ?_ (IsS75.ge HI291.out)) | exact HB.out)⟩
            · rw [if_neg c27] at H
              exact absurd H (by simp)
          · rw [if_neg c26] at H
            exact absurd H (by simp)
  · replace c5 := Bool.eq_false_iff.mpr c5
    subst c5
    have H1 : (some false) = some r := by rw [if_neg (show ¬ (false = true) by decide)] at H; exact H
    clear H
    have H := H1
    clear H1
    obtain rfl := Option.some.inj H
    try exact absurd hr Bool.false_ne_true
    all_goals
      go_enter Tryd.func4, Tryd.ntmps4
      go_wp2_with (first | ((with_reducible refine gate_callee (f := 10) rfl ?_); refine goesL_ (some 13) rfl rfl Tryd.func10 (by kernel_rfl) rfl #[] rfl (by (try simp only [List.map_toArray, List.map_cons, List.map_nil]); first | done | rfl | (simp only [List.length_drop, List.length_take]; rfl)) ?_; (with_reducible refine (conclavelaw05_anchor.calls (hrG := ?sideG) k  false _ A4.out).mono ?_); (case sideG => (first | (with_reducible exact HRG.out) | exact TabG.below HRG.out (by repeat (first | (with_reducible first | exact HB.out | apply below_alloc | apply pw_below_drewN | apply below_drew1 | refine below_set ?_ (IsS75.ge HI291.out)) | (with_reducible exact Below.refl _ _))))); rintro e w49 ⟨rfl, hb⟩; refine ⟨_, rfl, ?_⟩; have n0_ := Aside0.mk (below_step (by repeat (first | (with_reducible first | exact HB.out | apply below_alloc | apply pw_below_drewN | apply below_drew1) | exact HB.out)) hb); clear HB; have HB := n0_; clear n0_; (try clear hb); (try clear hb2); (try clear hk); (try clear hi)))
      go_ret
      exact ⟨by first | rfl | (simp [errW_none, errW_some] <;> rfl) | (simp [*, errW_none, errW_some] <;> rfl), by repeat (first | (with_reducible first | exact HB.out | apply below_alloc | apply pw_below_drewN | apply below_drew1) | exact HB.out)⟩
def conclavelaw05_DigestChange.Pure : Prop := ∀ (l0 : List S33) (a1 : Int) (a2 : Int), WfV l0 → (Lit.int .i64 a1).wf = true → (Lit.int .i64 a2).wf = true → ∃ k, conclavelaw05_DigestChange.f k l0 a1 a2 = some true
theorem conclavelaw05_DigestChange.walk (P : conclavelaw05_DigestChange.Pure) (A0 : Option Addr) (c0 : Nat) (l0 : List S33) (a1 : Int) (a2 : Int) (w : World) (hrG : TabG w) (hr0 : Kd.C k33 w A0 l0.length l0) (hw0 : WfV l0) (hc0 : l0.length ≤ c0) (w1 : (Lit.int .i64 a1).wf = true) (w2 : (Lit.int .i64 a2).wf = true) :
    Calls Tryd.prog 4 #[.slice A0 l0.length c0, .int .i64 a1, .int .i64 a2] w fun e w' => e = .returned (.bool true) ∧ Below w.heap.size w w' := by
  obtain ⟨k, h⟩ := P l0 a1 a2 hw0 w1 w2
  refine (conclavelaw05_DigestChange.calls (hrG := hrG) k A0 c0 l0 a1 a2 true w hr0 hc0 h rfl).mono ?_
  rintro e w' ⟨rfl, hd⟩
  exact ⟨rfl, hd⟩
end Go.Proofs.YtdipiigfjcaijaaDoor.PDi
