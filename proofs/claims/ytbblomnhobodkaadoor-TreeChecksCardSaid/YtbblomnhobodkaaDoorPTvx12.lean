-- Written by a program of this session over the translation.
import Derived.Test.YtbblomnhobodkaaDoorPTvx0
import Derived.Test.YtbblomnhobodkaaDoorPTvx1
import Derived.Test.YtbblomnhobodkaaDoorPTvx3
import Derived.Test.YtbblomnhobodkaaDoorPTvx7
import Derived.Test.YtbblomnhobodkaaDoorPTvx10
import Derived.Test.YtbblomnhobodkaaDoorPTvx11
namespace Go.Proofs.YtbblomnhobodkaaDoor.PTv
open Go.RowKit Go.Proofs.YtbblomnhobodkaaDoorW.PrintWords Go.Proofs.YtbblomnhobodkaaDoorW.PrintLast Go.Proofs.YtbblomnhobodkaaDoorW.PrintMore
attribute [local go_sem] max2_int min2_int max_two min_two max_three min_three max_four min_four   -- for this text's walks alone
set_option linter.unusedVariables false
set_option linter.unusedSimpArgs false

/-! ### conclavelaw04_TreeChecks: function 3 -/
def conclavelaw04_TreeChecks.f (k : Nat) (l0 : List (S29)) : Option (Bool) := (conclavelaw04_anchor.f k).bind fun t326 => (if t326 = true then (if (l0.length : Int) > 200 then (some true) else ((conclaveref04_Copy.f k l0).bind fun t327 => ((tree_Check.f k t327).bind fun t330 => ((conclaveref04_Check.f k l0).bind fun t331 => (if (t330 == t331) = true then ((conclaveref04_Same.f k t327 l0).bind fun t332 => (some t332)) else (some false)))))) else (some false))
theorem conclavelaw04_TreeChecks.mono : ∀ a0 k, LeO (conclavelaw04_TreeChecks.f k a0) (conclavelaw04_TreeChecks.f (k + 1) a0) := by
  intro a0 k
  unfold conclavelaw04_TreeChecks.f
  repeat' first
      | (with_reducible exact conclavelaw04_anchor.mono _)
      | (with_reducible exact conclaveref04_Check.mono _ _)
      | (with_reducible exact conclaveref04_Copy.mono _ _)
      | (with_reducible exact conclaveref04_Same.mono _ _ _)
      | (with_reducible exact tree_Check.mono _ _)
      | (with_reducible exact LeO.refl _)
      | (with_reducible exact LeO.none _)
      | (with_reducible refine LeO.ite ?_ ?_)
      | (with_reducible refine LeO.bind ?_ (fun _ => ?_))
      | exact conclavelaw04_anchor.mono _
      | exact conclaveref04_Check.mono _ _
      | exact conclaveref04_Copy.mono _ _
      | exact conclaveref04_Same.mono _ _ _
      | exact tree_Check.mono _ _
      | exact LeO.none _
      | refine LeO.ite ?_ ?_
      | refine LeO.bind ?_ (fun _ => ?_)
set_option maxHeartbeats 8000000 in
set_option maxRecDepth 100000 in
theorem conclavelaw04_TreeChecks.calls (k : Nat) (A0 : Option Addr) (c0 : Nat) (l0 : List (S29)) (r : Bool) (w : World) (hrG : TabG w) (hr0 : Kd.C k29 w A0 l0.length l0) (hc0 : l0.length ≤ c0) (h : conclavelaw04_TreeChecks.f k l0 = some r) (hr : r = true) :
    Calls Tryd.prog 3 #[.slice A0 l0.length c0] w fun e w' => e = .returned (.bool r) ∧ Below w.heap.size w w' := by
  have HRG := Aside0.mk hrG
  clear hrG
  have HR0 := Aside0.mk hr0
  have HC0 := Aside0.mk hc0
  clear hr0 hc0
  have HB := Aside0.mk (Below.refl w.heap.size w)
  have H : ((conclavelaw04_anchor.f k).bind fun t326 => (if t326 = true then (if (l0.length : Int) > 200 then (some true) else ((conclaveref04_Copy.f k l0).bind fun t327 => ((tree_Check.f k t327).bind fun t330 => ((conclaveref04_Check.f k l0).bind fun t331 => (if (t330 == t331) = true then ((conclaveref04_Same.f k t327 l0).bind fun t332 => (some t332)) else (some false)))))) else (some false))) = some r := h
  clear h
  replace H := Option.bind_eq_some_iff.mp H
  obtain ⟨t326, A20, H⟩ := H
  replace H : (if t326 = true then (if (l0.length : Int) > 200 then (some true) else ((conclaveref04_Copy.f k l0).bind fun t327 => ((tree_Check.f k t327).bind fun t330 => ((conclaveref04_Check.f k l0).bind fun t331 => (if (t330 == t331) = true then ((conclaveref04_Same.f k t327 l0).bind fun t332 => (some t332)) else (some false)))))) else (some false)) = some r := H
  have A2 := Aside0.mk A20
  clear A20
  by_cases c3 : t326 = true
  · subst c3
    have H1 : (if (l0.length : Int) > 200 then (some true) else ((conclaveref04_Copy.f k l0).bind fun t327 => ((tree_Check.f k t327).bind fun t330 => ((conclaveref04_Check.f k l0).bind fun t331 => (if (t330 == t331) = true then ((conclaveref04_Same.f k t327 l0).bind fun t332 => (some t332)) else (some false)))))) = some r := by rw [if_pos rfl] at H; exact H
    clear H
    have H := H1
    clear H1
    by_cases c4 : (l0.length : Int) > 200
    · rw [if_pos c4] at H
      have c4b0 : decide (200 < (l0.length : Int)) = true := decide_eq_true c4
      have c4b1 : decide (200 < l0.length) = true := decide_eq_true (by omega)
      clear c4
      obtain rfl := Option.some.inj H
      try exact absurd hr Bool.false_ne_true
      all_goals
        go_enter Tryd.func3, Tryd.ntmps3
        go_wp2_with (first | ((with_reducible refine gate_callee (f := 13) rfl ?_); refine goesL_ (some 4) rfl rfl Tryd.func13 (by kernel_rfl) rfl #[] rfl (by (try simp only [List.map_toArray, List.map_cons, List.map_nil]); first | done | rfl | (simp only [List.length_drop, List.length_take]; rfl)) ?_; (with_reducible refine (conclavelaw04_anchor.calls (hrG := ?sideG) k  true _ A2.out).mono ?_); (case sideG => (first | (with_reducible exact HRG.out) | exact TabG.below HRG.out (by repeat (first | (with_reducible first | exact HB.out | apply below_alloc | apply pw_below_drewN | apply below_drew1) | (with_reducible exact Below.refl _ _))))); rintro e w5 ⟨rfl, hb⟩; refine ⟨_, rfl, ?_⟩; have n0_ := Aside0.mk (below_step (by repeat (first | (with_reducible first | exact HB.out | apply below_alloc | apply pw_below_drewN | apply below_drew1) | exact HB.out)) hb); clear HB; have HB := n0_; clear n0_; (try clear hb); (try clear hb2); (try clear hk); (try clear hi)))
        go_ret
        exact ⟨by first | rfl | (simp [errW_none, errW_some] <;> rfl) | (simp [*, errW_none, errW_some] <;> rfl), by repeat (first | (with_reducible first | exact HB.out | apply below_alloc | apply pw_below_drewN | apply below_drew1) | exact HB.out)⟩
    · rw [if_neg c4] at H
      have c4b0 : decide (200 < (l0.length : Int)) = false := decide_eq_false c4
      have c4b1 : decide (200 < l0.length) = false := decide_eq_false (by omega)
      clear c4
      replace H := Option.bind_eq_some_iff.mp H
      obtain ⟨t327, A60, H⟩ := H
      replace H : ((tree_Check.f k t327).bind fun t330 => ((conclaveref04_Check.f k l0).bind fun t331 => (if (t330 == t331) = true then ((conclaveref04_Same.f k t327 l0).bind fun t332 => (some t332)) else (some false)))) = some r := H
      have A6 := Aside0.mk A60
      clear A60
      replace H := Option.bind_eq_some_iff.mp H
      obtain ⟨t330, A70, H⟩ := H
      replace H : ((conclaveref04_Check.f k l0).bind fun t331 => (if (t330 == t331) = true then ((conclaveref04_Same.f k t327 l0).bind fun t332 => (some t332)) else (some false))) = some r := H
      have A7 := Aside0.mk A70
      clear A70
      replace H := Option.bind_eq_some_iff.mp H
      obtain ⟨t331, A80, H⟩ := H
      replace H : (if (t330 == t331) = true then ((conclaveref04_Same.f k t327 l0).bind fun t332 => (some t332)) else (some false)) = some r := H
      have A8 := Aside0.mk A80
      clear A80
      by_cases c9 : (t330 == t331) = true
      · rw [if_pos c9] at H
        have c9b0 : (t330 == t331) = true := c9
        (try (have c9b1 : decide (t330 = t331) = true := by simpa using c9))
        (try (have c9b2 : (t330 == t331) = true := by simpa using c9))
        clear c9
        replace H := Option.bind_eq_some_iff.mp H
        obtain ⟨t332, A100, H⟩ := H
        replace H : (some t332) = some r := H
        have A10 := Aside0.mk A100
        clear A100
        obtain rfl := Option.some.inj H
        try exact absurd hr Bool.false_ne_true
        all_goals
          go_enter Tryd.func3, Tryd.ntmps3
          go_wp2_with (first | ((with_reducible refine gate_callee (f := 13) rfl ?_); refine goesL_ (some 4) rfl rfl Tryd.func13 (by kernel_rfl) rfl #[] rfl (by (try simp only [List.map_toArray, List.map_cons, List.map_nil]); first | done | rfl | (simp only [List.length_drop, List.length_take]; rfl)) ?_; (with_reducible refine (conclavelaw04_anchor.calls (hrG := ?sideG) k  true _ A2.out).mono ?_); (case sideG => (first | (with_reducible exact HRG.out) | exact TabG.below HRG.out (by repeat (first | (with_reducible first | exact HB.out | apply below_alloc | apply pw_below_drewN | apply below_drew1) | (with_reducible exact Below.refl _ _))))); rintro e w11 ⟨rfl, hb⟩; refine ⟨_, rfl, ?_⟩; have n0_ := Aside0.mk (below_step (by repeat (first | (with_reducible first | exact HB.out | apply below_alloc | apply pw_below_drewN | apply below_drew1) | exact HB.out)) hb); clear HB; have HB := n0_; clear n0_; (try clear hb); (try clear hb2); (try clear hk); (try clear hi)) | ((with_reducible refine gate_callee (f := 14) rfl ?_); refine goesL_ (some 10) rfl rfl Tryd.func14 (by kernel_rfl) rfl #[.slice A0 l0.length c0] rfl (by (try simp only [List.map_toArray, List.map_cons, List.map_nil]); first | done | rfl | (simp only [List.length_drop, List.length_take]; rfl)) ?_; (with_reducible refine (conclaveref04_Copy.calls k _ _ l0 t327 _ ?side1 ?side2 A6.out).mono ?_); (case side1 => repeat (first | exact (Kd.C_below HR0.out HB.out) | (with_reducible refine Kd.C_alloc ?_ _) | (with_reducible refine Kd.C_drewN ?_ _) | (with_reducible refine Kd.C_drew ?_))); (case side2 => exact HC0.out); rintro e w12 ⟨v328, rfl, ho0, hb⟩; refine ⟨_, rfl, ?_⟩; have n0_ := Aside0.mk (Kd.S_lower ho0 (below_size (by repeat (first | (with_reducible first | exact HB.out | apply below_alloc | apply pw_below_drewN | apply below_drew1) | exact HB.out)))); have n1_ := Aside0.mk (below_step (by repeat (first | (with_reducible first | exact HB.out | apply below_alloc | apply pw_below_drewN | apply below_drew1) | exact HB.out)) hb); clear HB; have HO329 := n0_; have HB := n1_; clear n0_ n1_; (try clear hb); (try clear hb2); (try clear hk); (try clear hi); (try clear ho0); obtain ⟨Ao13, co13, eo13⟩ := Kd.S_slice HO329.out; subst eo13) | ((with_reducible refine gate_callee (f := 15) rfl ?_); refine goesL_ (some 12) rfl rfl Tryd.func15 (by kernel_rfl) rfl #[.slice Ao13 t327.length co13] rfl (by (try simp only [List.map_toArray, List.map_cons, List.map_nil]); first | done | rfl | (simp only [List.length_drop, List.length_take]; rfl)) ?_; (with_reducible refine (tree_Check.calls (hrG := ?sideG) k _ _ t327 t330 _ ?side1 ?side2 A7.out).mono ?_); (case sideG => (first | (with_reducible exact HRG.out) | exact TabG.below HRG.out (by repeat (first | (with_reducible first | exact HB.out | apply below_alloc | apply pw_below_drewN | apply below_drew1) | (with_reducible exact Below.refl _ _))))); (case side1 => repeat (first | exact (Kd.S_reads' HO329.out).2.2 | (with_reducible refine Kd.C_alloc ?_ _) | (with_reducible refine Kd.C_drewN ?_ _) | (with_reducible refine Kd.C_drew ?_))); (case side2 => exact (Kd.S_reads' HO329.out).2.1); rintro e w14 ⟨rfl, hb⟩; refine ⟨_, rfl, ?_⟩; have n0_ := Aside0.mk (Kd.S_below (by (with_reducible repeat (first | apply Kd.S_alloc | apply Kd.S_drewN | apply Kd.S_drew)); exact HO329.out) hb); have n1_ := Aside0.mk (below_step (by repeat (first | (with_reducible first | exact HB.out | apply below_alloc | apply pw_below_drewN | apply below_drew1) | exact HB.out)) hb); clear HO329; clear HB; have HO329 := n0_; have HB := n1_; clear n0_ n1_; (try clear hb); (try clear hb2); (try clear hk); (try clear hi)) | ((with_reducible refine gate_callee (f := 16) rfl ?_); refine goesL_ (some 14) rfl rfl Tryd.func16 (by kernel_rfl) rfl #[.slice A0 l0.length c0] rfl (by (try simp only [List.map_toArray, List.map_cons, List.map_nil]); first | done | rfl | (simp only [List.length_drop, List.length_take]; rfl)) ?_; (with_reducible refine (conclaveref04_Check.calls k _ _ l0 t331 _ ?side1 ?side2 A8.out).mono ?_); (case side1 => repeat (first | exact (Kd.C_below HR0.out HB.out) | (with_reducible refine Kd.C_alloc ?_ _) | (with_reducible refine Kd.C_drewN ?_ _) | (with_reducible refine Kd.C_drew ?_))); (case side2 => exact HC0.out); rintro e w15 ⟨rfl, hb⟩; refine ⟨_, rfl, ?_⟩; have n0_ := Aside0.mk (Kd.S_below (by (with_reducible repeat (first | apply Kd.S_alloc | apply Kd.S_drewN | apply Kd.S_drew)); exact HO329.out) hb); have n1_ := Aside0.mk (below_step (by repeat (first | (with_reducible first | exact HB.out | apply below_alloc | apply pw_below_drewN | apply below_drew1) | exact HB.out)) hb); clear HO329; clear HB; have HO329 := n0_; have HB := n1_; clear n0_ n1_; (try clear hb); (try clear hb2); (try clear hk); (try clear hi)) | (go_at_call 17; (with_reducible refine (conclaveref04_Same.calls k _ _ t327 _ _ l0 t332 _ ?side1 ?side2 ?side3 ?side4 A10.out).mono ?_); (case side1 => repeat (first | exact (Kd.S_reads' HO329.out).2.2 | (with_reducible refine Kd.C_alloc ?_ _) | (with_reducible refine Kd.C_drewN ?_ _) | (with_reducible refine Kd.C_drew ?_))); (case side2 => exact (Kd.S_reads' HO329.out).2.1); (case side3 => repeat (first | exact (Kd.C_below HR0.out HB.out) | (with_reducible refine Kd.C_alloc ?_ _) | (with_reducible refine Kd.C_drewN ?_ _) | (with_reducible refine Kd.C_drew ?_))); (case side4 => exact HC0.out); rintro e w16 ⟨rfl, hb⟩; have n0_ := Aside0.mk (Kd.S_below (by (with_reducible repeat (first | apply Kd.S_alloc | apply Kd.S_drewN | apply Kd.S_drew)); exact HO329.out) hb); have n1_ := Aside0.mk (below_step (by repeat (first | (with_reducible first | exact HB.out | apply below_alloc | apply pw_below_drewN | apply below_drew1) | exact HB.out)) hb); clear HO329; clear HB; have HO329 := n0_; have HB := n1_; clear n0_ n1_; (try clear hb); (try clear hb2); (try clear hk); (try clear hi)))
          go_ret
          exact ⟨by first | rfl | (simp [errW_none, errW_some] <;> rfl) | (simp [*, errW_none, errW_some] <;> rfl), by repeat (first | (with_reducible first | exact HB.out | apply below_alloc | apply pw_below_drewN | apply below_drew1) | exact HB.out)⟩
      · rw [if_neg c9] at H
        exact absurd ((Option.some.inj H).trans hr) Bool.false_ne_true
  · replace c3 := Bool.eq_false_iff.mpr c3
    subst c3
    have H1 : (some false) = some r := by rw [if_neg (show ¬ (false = true) by decide)] at H; exact H
    clear H
    have H := H1
    clear H1
    obtain rfl := Option.some.inj H
    try exact absurd hr Bool.false_ne_true
    all_goals
      go_enter Tryd.func3, Tryd.ntmps3
      go_wp2_with (first | ((with_reducible refine gate_callee (f := 13) rfl ?_); refine goesL_ (some 4) rfl rfl Tryd.func13 (by kernel_rfl) rfl #[] rfl (by (try simp only [List.map_toArray, List.map_cons, List.map_nil]); first | done | rfl | (simp only [List.length_drop, List.length_take]; rfl)) ?_; (with_reducible refine (conclavelaw04_anchor.calls (hrG := ?sideG) k  false _ A2.out).mono ?_); (case sideG => (first | (with_reducible exact HRG.out) | exact TabG.below HRG.out (by repeat (first | (with_reducible first | exact HB.out | apply below_alloc | apply pw_below_drewN | apply below_drew1) | (with_reducible exact Below.refl _ _))))); rintro e w22 ⟨rfl, hb⟩; refine ⟨_, rfl, ?_⟩; have n0_ := Aside0.mk (below_step (by repeat (first | (with_reducible first | exact HB.out | apply below_alloc | apply pw_below_drewN | apply below_drew1) | exact HB.out)) hb); clear HB; have HB := n0_; clear n0_; (try clear hb); (try clear hb2); (try clear hk); (try clear hi)))
      go_ret
      exact ⟨by first | rfl | (simp [errW_none, errW_some] <;> rfl) | (simp [*, errW_none, errW_some] <;> rfl), by repeat (first | (with_reducible first | exact HB.out | apply below_alloc | apply pw_below_drewN | apply below_drew1) | exact HB.out)⟩
def conclavelaw04_TreeChecks.Pure : Prop := ∀ (l0 : List S29), WfV l0 → (∀ v ∈ l0, v.f5.length ≤ 17592186043904) → ∃ k, conclavelaw04_TreeChecks.f k l0 = some true
theorem conclavelaw04_TreeChecks.walk (P : conclavelaw04_TreeChecks.Pure) (A0 : Option Addr) (c0 : Nat) (l0 : List S29) (w : World) (hrG : TabG w) (hr0 : Kd.C k29 w A0 l0.length l0) (hw0 : WfV l0) (hx0 : ∀ v ∈ l0, v.f5.length ≤ 17592186043904) (hc0 : l0.length ≤ c0) :
    Calls Tryd.prog 3 #[.slice A0 l0.length c0] w fun e w' => e = .returned (.bool true) ∧ Below w.heap.size w w' := by
  obtain ⟨k, h⟩ := P l0 hw0 hx0
  refine (conclavelaw04_TreeChecks.calls (hrG := hrG) k A0 c0 l0 true w hr0 hc0 h rfl).mono ?_
  rintro e w' ⟨rfl, hd⟩
  exact ⟨rfl, hd⟩

end Go.Proofs.YtbblomnhobodkaaDoor.PTv
