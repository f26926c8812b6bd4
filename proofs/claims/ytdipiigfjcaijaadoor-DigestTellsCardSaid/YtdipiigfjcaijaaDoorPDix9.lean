/- What this claim reaches of a longer text of this session. -/
import Derived.Test.YtdipiigfjcaijaaDoorPDix0
import Derived.Test.YtdipiigfjcaijaaDoorPDix1
import Derived.Test.YtdipiigfjcaijaaDoorPDix4
import Derived.Test.YtdipiigfjcaijaaDoorPDix6
import Derived.Test.YtdipiigfjcaijaaDoorPDix7
import Derived.Test.YtdipiigfjcaijaaDoorPDix8
namespace Go.Proofs.YtdipiigfjcaijaaDoor.PDi
open Go.RowKit Go.Proofs.YtdipiigfjcaijaaDoorW.PrintWords Go.Proofs.YtdipiigfjcaijaaDoorW.PrintLast Go.Proofs.YtdipiigfjcaijaaDoorW.PrintMore
attribute [local go_sem] max2_int min2_int max_two min_two max_three min_three max_four min_four   -- for this text's walks alone
set_option linter.unusedVariables false
set_option linter.unusedSimpArgs false
def conclavelaw05_DigestTells.j0 : Nat → List (S33) → List (S33) → Bool → Option (Bool)
  | 0, _, _, _ => none
  | k + 1, x0, x1, x18 => if x18 = true then (some true) else ((conclavelaw05_stores.f 90).bind fun t267 => ((digest_Tree.f k t267 x0).bind fun bt269 => ((digest_Tree.f k bt269.2 x1).bind fun bt271 => (if bt269.1 = 0 then (some false) else (if bt271.1 = 0 then (some false) else ((conclaveref04_Same.f k x0 x1).bind fun t273 => (some ((bt269.1 == bt271.1) == t273))))))))
def conclavelaw05_DigestTells.f (k : Nat) (l0 : List (S33)) (l1 : List (S33)) : Option (Bool) := (conclavelaw05_anchor.f k).bind fun t264 => (if t264 = true then ((conclavelaw05_right.f k l0 90).bind fun t265 => (if t265 = true then ((conclavelaw05_right.f k l1 90).bind fun t266 => (conclavelaw05_DigestTells.j0 k l0 l1 (!t266))) else (conclavelaw05_DigestTells.j0 k l0 l1 true))) else (some false))
theorem conclavelaw05_DigestTells.mono_l : ∀ k, (∀ y0 y1 y2, LeO (conclavelaw05_DigestTells.j0 k y0 y1 y2) (conclavelaw05_DigestTells.j0 (k + 1) y0 y1 y2))
  | 0 => fun _ _ _ r h => by simp [conclavelaw05_DigestTells.j0] at h
  | k + 1 => by
    have ih0 := conclavelaw05_DigestTells.mono_l k
    · intro y0 y1 y2
      unfold conclavelaw05_DigestTells.j0
      repeat' first
      | (with_reducible exact ih0 _ _ _)
      | (with_reducible exact conclavelaw05_anchor.mono _)
      | (with_reducible exact conclavelaw05_right.mono _ _ _)
      | (with_reducible exact conclaveref04_Same.mono _ _ _)
      | (with_reducible exact digest_Tree.mono _ _ _)
      | (with_reducible exact LeO.refl _)
      | (with_reducible exact LeO.none _)
      | (with_reducible refine LeO.ite ?_ ?_)
      | (with_reducible refine LeO.bind ?_ (fun _ => ?_))
      | exact ih0 _ _ _
      | exact conclavelaw05_anchor.mono _
      | exact conclavelaw05_right.mono _ _ _
      | exact conclaveref04_Same.mono _ _ _
      | exact digest_Tree.mono _ _ _
      | exact LeO.none _
      | refine LeO.ite ?_ ?_
      | refine LeO.bind ?_ (fun _ => ?_)
theorem conclavelaw05_DigestTells.mono : ∀ a0 a1 k, LeO (conclavelaw05_DigestTells.f k a0 a1) (conclavelaw05_DigestTells.f (k + 1) a0 a1) := by
  intro a0 a1 k
  have ih0 := conclavelaw05_DigestTells.mono_l k
  unfold conclavelaw05_DigestTells.f
  repeat' first
      | (with_reducible exact ih0 _ _ _)
      | (with_reducible exact conclavelaw05_anchor.mono _)
      | (with_reducible exact conclavelaw05_right.mono _ _ _)
      | (with_reducible exact conclaveref04_Same.mono _ _ _)
      | (with_reducible exact digest_Tree.mono _ _ _)
      | (with_reducible exact LeO.refl _)
      | (with_reducible exact LeO.none _)
      | (with_reducible refine LeO.ite ?_ ?_)
      | (with_reducible refine LeO.bind ?_ (fun _ => ?_))
      | exact ih0 _ _ _
      | exact conclavelaw05_anchor.mono _
      | exact conclavelaw05_right.mono _ _ _
      | exact conclaveref04_Same.mono _ _ _
      | exact digest_Tree.mono _ _ _
      | exact LeO.none _
      | refine LeO.ite ?_ ?_
      | refine LeO.bind ?_ (fun _ => ?_)
set_option maxHeartbeats 8000000 in
set_option maxRecDepth 100000 in
theorem conclavelaw05_DigestTells.calls (k : Nat) (A0 : Option Addr) (c0 : Nat) (l0 : List (S33)) (A1 : Option Addr) (c1 : Nat) (l1 : List (S33)) (r : Bool) (w : World) (hrG : TabG w) (hr0 : Kd.C k33 w A0 l0.length l0) (hc0 : l0.length ≤ c0) (hr1 : Kd.C k33 w A1 l1.length l1) (hc1 : l1.length ≤ c1) (h : conclavelaw05_DigestTells.f k l0 l1 = some r) (hr : r = true) :
    Calls Tryd.prog 3 #[.slice A0 l0.length c0, .slice A1 l1.length c1] w fun e w' => e = .returned (.bool r) ∧ Below w.heap.size w w' := by
  have HRG := Aside0.mk hrG
  clear hrG
  have HR0 := Aside0.mk hr0
  have HC0 := Aside0.mk hc0
  clear hr0 hc0
  have HR1 := Aside0.mk hr1
  have HC1 := Aside0.mk hc1
  clear hr1 hc1
  have HB := Aside0.mk (Below.refl w.heap.size w)
  have H : ((conclavelaw05_anchor.f k).bind fun t264 => (if t264 = true then ((conclavelaw05_right.f k l0 90).bind fun t265 => (if t265 = true then ((conclavelaw05_right.f k l1 90).bind fun t266 => (conclavelaw05_DigestTells.j0 k l0 l1 (!t266))) else (conclavelaw05_DigestTells.j0 k l0 l1 true))) else (some false))) = some r := h
  clear h
  replace H := Option.bind_eq_some_iff.mp H
  obtain ⟨t264, A30, H⟩ := H
  replace H : (if t264 = true then ((conclavelaw05_right.f k l0 90).bind fun t265 => (if t265 = true then ((conclavelaw05_right.f k l1 90).bind fun t266 => (conclavelaw05_DigestTells.j0 k l0 l1 (!t266))) else (conclavelaw05_DigestTells.j0 k l0 l1 true))) else (some false)) = some r := H
  have A3 := Aside0.mk A30
  clear A30
  by_cases c4 : t264 = true
  · subst c4
    have H1 : ((conclavelaw05_right.f k l0 90).bind fun t265 => (if t265 = true then ((conclavelaw05_right.f k l1 90).bind fun t266 => (conclavelaw05_DigestTells.j0 k l0 l1 (!t266))) else (conclavelaw05_DigestTells.j0 k l0 l1 true))) = some r := by rw [if_pos rfl] at H; exact H
    clear H
    have H := H1
    clear H1
    have HC5 := Aside0.mk H
    clear H
    go_enter Tryd.func3, Tryd.ntmps3
    go_upto_region 3 with (first | ((with_reducible refine gate_callee (f := 10) rfl ?_); refine goesL_ (some 9) rfl rfl Tryd.func10 (by kernel_rfl) rfl #[] rfl (by (try simp only [List.map_toArray, List.map_cons, List.map_nil]); first | done | rfl | (simp only [List.length_drop, List.length_take]; rfl)) ?_; (with_reducible refine (conclavelaw05_anchor.calls (hrG := ?sideG) k  true _ A3.out).mono ?_); (case sideG => (first | (with_reducible exact HRG.out) | exact TabG.below HRG.out (by repeat (first | (with_reducible first | exact HB.out | apply below_alloc | apply pw_below_drewN | apply below_drew1 | refine below_set ?_ (IsS75.ge HI268.out)) | (with_reducible exact Below.refl _ _))))); rintro e w6 ⟨rfl, hb⟩; refine ⟨_, rfl, ?_⟩; have n0_ := Aside0.mk (below_step (by repeat (first | (with_reducible first | exact HB.out | apply below_alloc | apply pw_below_drewN | apply below_drew1) | exact HB.out)) hb); clear HB; have HB := n0_; clear n0_; (try clear hb); (try clear hb2); (try clear hk); (try clear hi)))
    (try simp only [Act.put, List.setIfInBounds_toArray, List.set_cons_zero, List.set_cons_succ])
    go_cut [18] (fun v18 wc => ∃ (kq : Nat) (x18_4 : Bool), v18 = .bool x18_4 ∧ Aside0 (conclavelaw05_DigestTells.j0 kq l0 l1 x18_4 = some r) ∧ Aside0 (kq ≤ k) ∧ Aside0 (Below w.heap.size w wc))
    case first =>
      have H := HC5.out
      clear HC5
      replace H := Option.bind_eq_some_iff.mp H
      obtain ⟨t265, A70, H⟩ := H
      replace H : (if t265 = true then ((conclavelaw05_right.f k l1 90).bind fun t266 => (conclavelaw05_DigestTells.j0 k l0 l1 (!t266))) else (conclavelaw05_DigestTells.j0 k l0 l1 true)) = some r := H
      have A7 := Aside0.mk A70
      clear A70
      by_cases c8 : t265 = true
      · subst c8
        have H1 : ((conclavelaw05_right.f k l1 90).bind fun t266 => (conclavelaw05_DigestTells.j0 k l0 l1 (!t266))) = some r := by rw [if_pos rfl] at H; exact H
        clear H
        have H := H1
        clear H1
        replace H := Option.bind_eq_some_iff.mp H
        obtain ⟨t266, A90, H⟩ := H
        replace H : (conclavelaw05_DigestTells.j0 k l0 l1 (!t266)) = some r := H
        have A9 := Aside0.mk A90
        clear A90
        have H' := Aside0.mk H
        clear H
        go_wp2_with (first | ((with_reducible refine gate_callee (f := 11) rfl ?_); refine goesL_ (some 12) rfl rfl Tryd.func11 (by kernel_rfl) rfl #[.slice A0 l0.length c0, .int .i64 90] rfl (by (try simp only [List.map_toArray, List.map_cons, List.map_nil]); first | done | rfl | (simp only [List.length_drop, List.length_take]; rfl)) ?_; (with_reducible refine (conclavelaw05_right.calls k _ _ l0 90 true _ ?side1 ?side2 A7.out).mono ?_); (case side1 => repeat (first | exact (Kd.C_below HR0.out HB.out) | (with_reducible refine Kd.C_alloc ?_ _) | (with_reducible refine Kd.C_drewN ?_ _) | (with_reducible refine Kd.C_drew ?_))); (case side2 => exact HC0.out); rintro e w10 ⟨rfl, hb⟩; refine ⟨_, rfl, ?_⟩; have n0_ := Aside0.mk (below_step (by repeat (first | (with_reducible first | exact HB.out | apply below_alloc | apply pw_below_drewN | apply below_drew1) | exact HB.out)) hb); clear HB; have HB := n0_; clear n0_; (try clear hb); (try clear hb2); (try clear hk); (try clear hi)) | (go_at_call 11; (with_reducible refine (conclavelaw05_right.calls k _ _ l1 90 t266 _ ?side1 ?side2 A9.out).mono ?_); (case side1 => repeat (first | exact (Kd.C_below HR1.out HB.out) | (with_reducible refine Kd.C_alloc ?_ _) | (with_reducible refine Kd.C_drewN ?_ _) | (with_reducible refine Kd.C_drew ?_))); (case side2 => exact HC1.out); rintro e w11 ⟨rfl, hb⟩; have n0_ := Aside0.mk (below_step (by repeat (first | (with_reducible first | exact HB.out | apply below_alloc | apply pw_below_drewN | apply below_drew1) | exact HB.out)) hb); clear HB; have HB := n0_; clear n0_; (try clear hb); (try clear hb2); (try clear hk); (try clear hi)))
        go_meet
        case rel => exact ⟨_, (!t266), (by first | rfl | (simp; done) | (simp [*]; done)), H', ⟨by first | omega | exact Nat.le_refl _⟩, ⟨by repeat (first | (with_reducible first | exact HB.out | apply below_alloc | apply pw_below_drewN | apply below_drew1) | exact HB.out)⟩⟩
      · replace c8 := Bool.eq_false_iff.mpr c8
        subst c8
        have H1 : (conclavelaw05_DigestTells.j0 k l0 l1 true) = some r := by rw [if_neg (show ¬ (false = true) by decide)] at H; exact H
        clear H
        have H := H1
        clear H1
        have H' := Aside0.mk H
        clear H
        go_wp2_with (first | ((with_reducible refine gate_callee (f := 11) rfl ?_); refine goesL_ (some 12) rfl rfl Tryd.func11 (by kernel_rfl) rfl #[.slice A0 l0.length c0, .int .i64 90] rfl (by (try simp only [List.map_toArray, List.map_cons, List.map_nil]); first | done | rfl | (simp only [List.length_drop, List.length_take]; rfl)) ?_; (with_reducible refine (conclavelaw05_right.calls k _ _ l0 90 false _ ?side1 ?side2 A7.out).mono ?_); (case side1 => repeat (first | exact (Kd.C_below HR0.out HB.out) | (with_reducible refine Kd.C_alloc ?_ _) | (with_reducible refine Kd.C_drewN ?_ _) | (with_reducible refine Kd.C_drew ?_))); (case side2 => exact HC0.out); rintro e w12 ⟨rfl, hb⟩; refine ⟨_, rfl, ?_⟩; have n0_ := Aside0.mk (below_step (by repeat (first | (with_reducible first | exact HB.out | apply below_alloc | apply pw_below_drewN | apply below_drew1) | exact HB.out)) hb); clear HB; have HB := n0_; clear n0_; (try clear hb); (try clear hb2); (try clear hk); (try clear hi)))
        go_meet
        case rel => exact ⟨_, (true), (by first | rfl | (simp; done) | (simp [*]; done)), H', ⟨by first | omega | exact Nat.le_refl _⟩, ⟨by repeat (first | (with_reducible first | exact HB.out | apply below_alloc | apply pw_below_drewN | apply below_drew1) | exact HB.out)⟩⟩
    case rest =>
      clear HC5
      try clear c1
      try clear p2
      try clear c3
      try clear c4
      try clear c8
      try clear c10
      try clear c11
      obtain ⟨kq, x18_4, rfl, HA, HJ4, HB⟩ := hcut
      cases kq with
      | zero => exact absurd HA.out (by simp [conclavelaw05_DigestTells.j0])
      | succ kj4 =>
        have H := HA.out
        clear HA
        simp only [conclavelaw05_DigestTells.j0] at H
        by_cases c13 : x18_4 = true
        · subst c13
          have H1 : (some true) = some r := by rw [if_pos rfl] at H; exact H
          clear H
          have H := H1
          clear H1
          obtain rfl := Option.some.inj H
          try exact absurd hr Bool.false_ne_true
          all_goals
            go_wp2
            go_ret
            exact ⟨by first | rfl | (simp [errW_none, errW_some] <;> rfl) | (simp [*, errW_none, errW_some] <;> rfl), by repeat (first | (with_reducible first | exact HB.out | apply below_alloc | apply pw_below_drewN | apply below_drew1) | exact HB.out)⟩
        · replace c13 := Bool.eq_false_iff.mpr c13
          subst c13
          have H1 : ((conclavelaw05_stores.f 90).bind fun t267 => ((digest_Tree.f kj4 t267 l0).bind fun bt269 => ((digest_Tree.f kj4 bt269.2 l1).bind fun bt271 => (if bt269.1 = 0 then (some false) else (if bt271.1 = 0 then (some false) else ((conclaveref04_Same.f kj4 l0 l1).bind fun t273 => (some ((bt269.1 == bt271.1) == t273)))))))) = some r := by rw [if_neg (show ¬ (false = true) by decide)] at H; exact H
          clear H
          have H := H1
          clear H1
          replace H := Option.bind_eq_some_iff.mp H
          obtain ⟨t267, A140, H⟩ := H
          replace H : ((digest_Tree.f kj4 t267 l0).bind fun bt269 => ((digest_Tree.f kj4 bt269.2 l1).bind fun bt271 => (if bt269.1 = 0 then (some false) else (if bt271.1 = 0 then (some false) else ((conclaveref04_Same.f kj4 l0 l1).bind fun t273 => (some ((bt269.1 == bt271.1) == t273))))))) = some r := H
          have A14 := Aside0.mk A140
          clear A140
          replace H := Option.bind_eq_some_iff.mp H
          obtain ⟨⟨t269, t270⟩, A150, H⟩ := H
          replace H : ((digest_Tree.f kj4 t270 l1).bind fun bt271 => (if t269 = 0 then (some false) else (if bt271.1 = 0 then (some false) else ((conclaveref04_Same.f kj4 l0 l1).bind fun t273 => (some ((t269 == bt271.1) == t273)))))) = some r := H
          have A15 := Aside0.mk A150
          clear A150
          replace H := Option.bind_eq_some_iff.mp H
          obtain ⟨⟨t271, t272⟩, A160, H⟩ := H
          replace H : (if t269 = 0 then (some false) else (if t271 = 0 then (some false) else ((conclaveref04_Same.f kj4 l0 l1).bind fun t273 => (some ((t269 == t271) == t273))))) = some r := H
          have A16 := Aside0.mk A160
          clear A160
          by_cases c17 : t269 = 0
          · rw [if_pos c17] at H
            exact absurd ((Option.some.inj H).trans hr) Bool.false_ne_true
          · rw [if_neg c17] at H
            have c17b0 : (t269 == 0) = false := beq_eq_false_iff_ne.mpr c17
            have c17b1 : (t269 != 0) = true := bne_iff_ne.mpr c17
            by_cases c21 : t271 = 0
            · rw [if_pos c21] at H
              exact absurd ((Option.some.inj H).trans hr) Bool.false_ne_true
            · rw [if_neg c21] at H
              have c21b0 : (t271 == 0) = false := beq_eq_false_iff_ne.mpr c21
              have c21b1 : (t271 != 0) = true := bne_iff_ne.mpr c21
              replace H := Option.bind_eq_some_iff.mp H
              obtain ⟨t273, A250, H⟩ := H
              replace H : (some ((t269 == t271) == t273)) = some r := H
              have A25 := Aside0.mk A250
              clear A250
              obtain rfl := Option.some.inj H
              try exact absurd hr Bool.false_ne_true
              all_goals
                go_wp2_with (first | ((with_reducible refine gate_callee (f := 12) rfl ?_); refine goesL_ (some 20) rfl rfl Tryd.func12 (by kernel_rfl) rfl #[.int .i64 90] rfl (by (try simp only [List.map_toArray, List.map_cons, List.map_nil]); first | done | rfl | (simp only [List.length_drop, List.length_take]; rfl)) ?_; (with_reducible refine (conclavelaw05_stores.calls 90 t267 w _ ?side1 A14.out).mono ?_); (case side1 => repeat (first | (with_reducible first | exact HB.out | apply below_alloc | apply pw_below_drewN | apply below_drew1) | exact HB.out)); rintro e w26 ⟨g268, rfl, hi, hb, hb2⟩; refine ⟨_, rfl, ?_⟩; have n0_ := Aside0.mk (hb); have n1_ := Aside0.mk (hi); clear HB; have HB := n0_; have HI268 := n1_; clear n0_ n1_; (try clear hb); (try clear hb2); (try clear hk); (try clear hi)) | ((with_reducible refine gate_callee (f := 13) rfl ?_); refine goesL_ (some 27) rfl rfl Tryd.func13 (by kernel_rfl) rfl #[.pointer (some ⟨g268, 0, none⟩), .slice A0 l0.length c0] rfl (by (try simp only [List.map_toArray, List.map_cons, List.map_nil]); first | done | rfl | (simp only [List.length_drop, List.length_take]; rfl)) ?_; (with_reducible refine (digest_Tree.calls (hrG := ?sideG) kj4 g268 t267 _ _ l0 t269 t270 w _ ?side1 ?side2 ?side3 ?side4 A15.out).mono ?_); (case sideG => (first | (with_reducible exact HRG.out) | exact TabG.below HRG.out (by repeat (first | (with_reducible first | exact HB.out | apply below_alloc | apply pw_below_drewN | apply below_drew1 | refine below_set ?_ (IsS75.ge HI268.out)) | (with_reducible exact Below.refl _ _))))); (case side1 => repeat (first | (with_reducible first | exact HI268.out | apply IsS75.alloc | apply IsS75.drewN | apply IsS75.drew | apply IsS75.set_0) | exact HI268.out)); (case side2 => repeat (first | (with_reducible first | exact HB.out | apply below_alloc | apply pw_below_drewN | apply below_drew1 | refine below_set ?_ (IsS75.ge HI268.out)) | exact HB.out)); (case side3 => exact Kd.C_footSt_came k33_heap HR0.out (by repeat (first | (with_reducible first | exact HB.out | apply below_alloc | apply pw_below_drewN | apply below_drew1 | refine below_set ?_ (IsS75.ge HI268.out)) | exact HB.out)) (IsS75.ge HI268.out)); (case side4 => exact HC0.out); rintro e w27 ⟨rfl, hi, hb, hk⟩; refine ⟨_, rfl, ?_⟩; have n0_ := Aside0.mk (hb); have n1_ := Aside0.mk (hi); clear HB; clear HI268; have HB := n0_; have HI268 := n1_; clear n0_ n1_; (try clear hb); (try clear hb2); (try clear hk); (try clear hi)) | ((with_reducible refine gate_callee (f := 13) rfl ?_); refine goesL_ (some 30) rfl rfl Tryd.func13 (by kernel_rfl) rfl #[.pointer (some ⟨g268, 0, none⟩), .slice A1 l1.length c1] rfl (by (try simp only [List.map_toArray, List.map_cons, List.map_nil]); first | done | rfl | (simp only [List.length_drop, List.length_take]; rfl)) ?_; (with_reducible refine (digest_Tree.calls (hrG := ?sideG) kj4 g268 t270 _ _ l1 t271 t272 w _ ?side1 ?side2 ?side3 ?side4 A16.out).mono ?_); (case sideG => (first | (with_reducible exact HRG.out) | exact TabG.below HRG.out (by repeat (first | (with_reducible first | exact HB.out | apply below_alloc | apply pw_below_drewN | apply below_drew1 | refine below_set ?_ (IsS75.ge HI268.out)) | (with_reducible exact Below.refl _ _))))); (case side1 => repeat (first | (with_reducible first | exact HI268.out | apply IsS75.alloc | apply IsS75.drewN | apply IsS75.drew | apply IsS75.set_0) | exact HI268.out)); (case side2 => repeat (first | (with_reducible first | exact HB.out | apply below_alloc | apply pw_below_drewN | apply below_drew1 | refine below_set ?_ (IsS75.ge HI268.out)) | exact HB.out)); (case side3 => exact Kd.C_footSt_came k33_heap HR1.out (by repeat (first | (with_reducible first | exact HB.out | apply below_alloc | apply pw_below_drewN | apply below_drew1 | refine below_set ?_ (IsS75.ge HI268.out)) | exact HB.out)) (IsS75.ge HI268.out)); (case side4 => exact HC1.out); rintro e w28 ⟨rfl, hi, hb, hk⟩; refine ⟨_, rfl, ?_⟩; have n0_ := Aside0.mk (hb); have n1_ := Aside0.mk (hi); clear HB; clear HI268; have HB := n0_; have HI268 := n1_; clear n0_ n1_; (try clear hb); (try clear hb2); (try clear hk); (try clear hi)) | (go_at_call 14; (with_reducible refine (conclaveref04_Same.calls kj4 _ _ l0 _ _ l1 t273 _ ?side1 ?side2 ?side3 ?side4 A25.out).mono ?_); (case side1 => repeat (first | exact (Kd.C_below HR0.out HB.out) | (with_reducible refine Kd.C_alloc ?_ _) | (with_reducible refine Kd.C_drewN ?_ _) | (with_reducible refine Kd.C_drew ?_))); (case side2 => exact HC0.out); (case side3 => repeat (first | exact (Kd.C_below HR1.out HB.out) | (with_reducible refine Kd.C_alloc ?_ _) | (with_reducible refine Kd.C_drewN ?_ _) | (with_reducible refine Kd.C_drew ?_))); (case side4 => exact HC1.out); rintro e w29 ⟨rfl, hb⟩; have n0_ := Aside0.mk (IsS75.below (by repeat (first | (with_reducible first | exact HI268.out | apply IsS75.alloc | apply IsS75.drewN | apply IsS75.drew | apply IsS75.set_0) | exact HI268.out)) hb); have n1_ := Aside0.mk (below_step (by repeat (first | (with_reducible first | exact HB.out | apply below_alloc | apply pw_below_drewN | apply below_drew1 | refine below_set ?_ (IsS75.ge HI268.out)) | exact HB.out)) hb); clear HI268; clear HB; have HI268 := n0_; have HB := n1_; clear n0_ n1_; (try clear hb); (try clear hb2); (try clear hk); (try clear hi)))
                go_ret
                exact ⟨by first | rfl | (simp [errW_none, errW_some] <;> rfl) | (simp [*, errW_none, errW_some] <;> rfl), by repeat (first | (with_reducible first | exact HB.out | apply below_alloc | apply pw_below_drewN | apply below_drew1 | refine below_set ?_ (IsS75.ge HI268.out)) | exact HB.out)⟩
  · replace c4 := Bool.eq_false_iff.mpr c4
    subst c4
    have H1 : (some false) = some r := by rw [if_neg (show ¬ (false = true) by decide)] at H; exact H
    clear H
    have H := H1
    clear H1
    obtain rfl := Option.some.inj H
    try exact absurd hr Bool.false_ne_true
    all_goals
      go_enter Tryd.func3, Tryd.ntmps3
      go_wp2_with (first | ((with_reducible refine gate_callee (f := 10) rfl ?_); refine goesL_ (some 9) rfl rfl Tryd.func10 (by kernel_rfl) rfl #[] rfl (by (try simp only [List.map_toArray, List.map_cons, List.map_nil]); first | done | rfl | (simp only [List.length_drop, List.length_take]; rfl)) ?_; (with_reducible refine (conclavelaw05_anchor.calls (hrG := ?sideG) k  false _ A3.out).mono ?_); (case sideG => (first | (with_reducible exact HRG.out) | exact TabG.below HRG.out (by repeat (first | (with_reducible first | exact HB.out | apply below_alloc | apply pw_below_drewN | apply below_drew1 | refine below_set ?_ (IsS75.ge HI268.out)) | (with_reducible exact Below.refl _ _))))); rintro e w30 ⟨rfl, hb⟩; refine ⟨_, rfl, ?_⟩; have n0_ := Aside0.mk (below_step (by repeat (first | (with_reducible first | exact HB.out | apply below_alloc | apply pw_below_drewN | apply below_drew1) | exact HB.out)) hb); clear HB; have HB := n0_; clear n0_; (try clear hb); (try clear hb2); (try clear hk); (try clear hi)))
      go_ret
      exact ⟨by first | rfl | (simp [errW_none, errW_some] <;> rfl) | (simp [*, errW_none, errW_some] <;> rfl), by repeat (first | (with_reducible first | exact HB.out | apply below_alloc | apply pw_below_drewN | apply below_drew1) | exact HB.out)⟩
def conclavelaw05_DigestTells.Pure : Prop := ∀ (l0 : List S33) (l1 : List S33), WfV l0 → WfV l1 → ∃ k, conclavelaw05_DigestTells.f k l0 l1 = some true
theorem conclavelaw05_DigestTells.walk (P : conclavelaw05_DigestTells.Pure) (A0 : Option Addr) (c0 : Nat) (l0 : List S33) (A1 : Option Addr) (c1 : Nat) (l1 : List S33) (w : World) (hrG : TabG w) (hr0 : Kd.C k33 w A0 l0.length l0) (hw0 : WfV l0) (hc0 : l0.length ≤ c0) (hr1 : Kd.C k33 w A1 l1.length l1) (hw1 : WfV l1) (hc1 : l1.length ≤ c1) :
    Calls Tryd.prog 3 #[.slice A0 l0.length c0, .slice A1 l1.length c1] w fun e w' => e = .returned (.bool true) ∧ Below w.heap.size w w' := by
  obtain ⟨k, h⟩ := P l0 l1 hw0 hw1
  refine (conclavelaw05_DigestTells.calls (hrG := hrG) k A0 c0 l0 A1 c1 l1 true w hr0 hc0 hr1 hc1 h rfl).mono ?_
  rintro e w' ⟨rfl, hd⟩
  exact ⟨rfl, hd⟩
end Go.Proofs.YtdipiigfjcaijaaDoor.PDi
