-- Written by a program of this session over the translation.
import Derived.Test.YtmioejkhhcjfpaaDoorPHex0
import Derived.Test.YtmioejkhhcjfpaaDoorPHex1
import Derived.Test.YtmioejkhhcjfpaaDoorPHex2
import Derived.Test.YtmioejkhhcjfpaaDoorPHex3
import Derived.Test.YtmioejkhhcjfpaaDoorPHex4
namespace Go.Proofs.YtmioejkhhcjfpaaDoor.PHe
open Go.RowKit Go.Proofs.YtmioejkhhcjfpaaDoorW.PrintWords Go.Proofs.YtmioejkhhcjfpaaDoorW.PrintLast Go.Proofs.YtmioejkhhcjfpaaDoorW.PrintMore
attribute [local go_sem] max2_int min2_int max_two min_two max_three min_three max_four min_four   -- for this text's walks alone
set_option linter.unusedVariables false
set_option linter.unusedSimpArgs false

/-! ### conclavelaw03_HeapPlaces: function 4 -/
mutual
def conclavelaw03_HeapPlaces.j0 : Nat → Int → Int → Bool → Option (Bool)
  | 0, _, _, _ => none
  | k + 1, x0, x1, x28 => if x28 = true then (some false) else ((heap_Root.f x1).bind fun bt166 => ((conclaveref03_Right.f x1).bind fun t168 => (if (t168 != (bt166.2 == 0)) = true then (conclavelaw03_HeapPlaces.j1 k x0 x1 true) else (if bt166.2 = 0 then (if bt166.1 = (wrap64 (x1 - 1)) then (conclavelaw03_HeapPlaces.j1 k x0 x1 false) else (conclavelaw03_HeapPlaces.j1 k x0 x1 true)) else (if bt166.1 = 0 then (conclavelaw03_HeapPlaces.j1 k x0 x1 (bt166.2 != 30)) else (conclavelaw03_HeapPlaces.j1 k x0 x1 true))))))
def conclavelaw03_HeapPlaces.j1 : Nat → Int → Int → Bool → Option (Bool)
  | 0, _, _, _ => none
  | k + 1, x0, x1, x60 => if x60 = true then (some false) else ((heap_Parent.f x0 x1).bind fun bt169 => ((heap_Sibling.f x0 x1).bind fun bt171 => ((heap_Children.f x0 x1).bind fun bt173 => ((conclaveref03_In.f x0 x1).bind fun t176 => (if t176 = true then ((conclaveref03_Parent.f k x0 x1).bind fun t177 => (if t177 < 0 then (if bt169.2 = 30 then (if bt171.2 = 30 then (if bt169.1 = 0 then (if bt171.1 = 0 then (conclavelaw03_HeapPlaces.j2 k x0 x1 bt173.1 bt173.2.1 bt173.2.2) else (some false)) else (some false)) else (some false)) else (some false)) else (if bt169.2 = 0 then (if bt171.2 = 0 then (if bt169.1 = t177 then ((conclaveref03_Sibling.f k x0 x1).bind fun t178 => (if bt171.1 = t178 then (conclavelaw03_HeapPlaces.j2 k x0 x1 bt173.1 bt173.2.1 bt173.2.2) else (some false))) else (some false)) else (some false)) else (some false)))) else (if bt169.2 = 30 then (if bt171.2 = 30 then (if bt173.2.2 = 30 then (if bt169.1 = 0 then (if bt171.1 = 0 then (if bt173.1 = 0 then (some (bt173.2.1 == 0)) else (some false)) else (some false)) else (some false)) else (some false)) else (some false)) else (some false)))))))
def conclavelaw03_HeapPlaces.j2 : Nat → Int → Int → Int → Int → Int → Option (Bool)
  | 0, _, _, _, _, _ => none
  | k + 1, x0, x1, x11, x12, x13 => (conclaveref03_Level.f k x0).bind fun t179 => (if t179 = 0 then (if x13 = 30 then (if x11 = 0 then (some (x12 == 0)) else (some false)) else (some false)) else (if x13 = 0 then (if x11 < x0 then (if x0 < x12 then ((conclaveref03_Parent.f k x11 x1).bind fun t180 => (if t180 = x0 then ((conclaveref03_Parent.f k x12 x1).bind fun t181 => (some (t181 == x0))) else (some false))) else (some false)) else (some false)) else (some false)))
end
def conclavelaw03_HeapPlaces.f (k : Nat) (a0 : Int) (a1 : Int) : Option (Bool) := (conclavelaw03_anchor.f k).bind fun t161 => (if t161 = true then ((heap_Right.f a1).bind fun t162 => ((conclaveref03_Right.f a1).bind fun t163 => (if (t162 != t163) = true then (conclavelaw03_HeapPlaces.j0 k a0 a1 true) else ((heap_Level.f a0).bind fun t164 => ((conclaveref03_Level.f k a0).bind fun t165 => (conclavelaw03_HeapPlaces.j0 k a0 a1 (t164 != t165))))))) else (some false))
theorem conclavelaw03_HeapPlaces.mono_l : ∀ k, (∀ y0 y1 y2, LeO (conclavelaw03_HeapPlaces.j0 k y0 y1 y2) (conclavelaw03_HeapPlaces.j0 (k + 1) y0 y1 y2)) ∧ (∀ y0 y1 y2, LeO (conclavelaw03_HeapPlaces.j1 k y0 y1 y2) (conclavelaw03_HeapPlaces.j1 (k + 1) y0 y1 y2)) ∧ (∀ y0 y1 y2 y3 y4, LeO (conclavelaw03_HeapPlaces.j2 k y0 y1 y2 y3 y4) (conclavelaw03_HeapPlaces.j2 (k + 1) y0 y1 y2 y3 y4))
  | 0 => ⟨fun _ _ _ r h => by simp [conclavelaw03_HeapPlaces.j0] at h, fun _ _ _ r h => by simp [conclavelaw03_HeapPlaces.j1] at h, fun _ _ _ _ _ r h => by simp [conclavelaw03_HeapPlaces.j2] at h⟩
  | k + 1 => by
    obtain ⟨ih0, ih1, ih2⟩ := conclavelaw03_HeapPlaces.mono_l k
    refine ⟨?_, ?_, ?_⟩
    · intro y0 y1 y2
      unfold conclavelaw03_HeapPlaces.j0
      repeat' first
      | (with_reducible exact ih0 _ _ _)
      | (with_reducible exact ih1 _ _ _)
      | (with_reducible exact ih2 _ _ _ _ _)
      | (with_reducible exact conclavelaw03_anchor.mono _)
      | (with_reducible exact conclaveref03_Level.mono _ _)
      | (with_reducible exact conclaveref03_Parent.mono _ _ _)
      | (with_reducible exact conclaveref03_Sibling.mono _ _ _)
      | (with_reducible exact LeO.refl _)
      | (with_reducible exact LeO.none _)
      | (with_reducible refine LeO.ite ?_ ?_)
      | (with_reducible refine LeO.bind ?_ (fun _ => ?_))
      | exact ih0 _ _ _
      | exact ih1 _ _ _
      | exact ih2 _ _ _ _ _
      | exact conclavelaw03_anchor.mono _
      | exact conclaveref03_Level.mono _ _
      | exact conclaveref03_Parent.mono _ _ _
      | exact conclaveref03_Sibling.mono _ _ _
      | exact LeO.none _
      | refine LeO.ite ?_ ?_
      | refine LeO.bind ?_ (fun _ => ?_)
    · intro y0 y1 y2
      unfold conclavelaw03_HeapPlaces.j1
      repeat' first
      | (with_reducible exact ih0 _ _ _)
      | (with_reducible exact ih1 _ _ _)
      | (with_reducible exact ih2 _ _ _ _ _)
      | (with_reducible exact conclavelaw03_anchor.mono _)
      | (with_reducible exact conclaveref03_Level.mono _ _)
      | (with_reducible exact conclaveref03_Parent.mono _ _ _)
      | (with_reducible exact conclaveref03_Sibling.mono _ _ _)
      | (with_reducible exact LeO.refl _)
      | (with_reducible exact LeO.none _)
      | (with_reducible refine LeO.ite ?_ ?_)
      | (with_reducible refine LeO.bind ?_ (fun _ => ?_))
      | exact ih0 _ _ _
      | exact ih1 _ _ _
      | exact ih2 _ _ _ _ _
      | exact conclavelaw03_anchor.mono _
      | exact conclaveref03_Level.mono _ _
      | exact conclaveref03_Parent.mono _ _ _
      | exact conclaveref03_Sibling.mono _ _ _
      | exact LeO.none _
      | refine LeO.ite ?_ ?_
      | refine LeO.bind ?_ (fun _ => ?_)
    · intro y0 y1 y2 y3 y4
      unfold conclavelaw03_HeapPlaces.j2
      repeat' first
      | (with_reducible exact ih0 _ _ _)
      | (with_reducible exact ih1 _ _ _)
      | (with_reducible exact ih2 _ _ _ _ _)
      | (with_reducible exact conclavelaw03_anchor.mono _)
      | (with_reducible exact conclaveref03_Level.mono _ _)
      | (with_reducible exact conclaveref03_Parent.mono _ _ _)
      | (with_reducible exact conclaveref03_Sibling.mono _ _ _)
      | (with_reducible exact LeO.refl _)
      | (with_reducible exact LeO.none _)
      | (with_reducible refine LeO.ite ?_ ?_)
      | (with_reducible refine LeO.bind ?_ (fun _ => ?_))
      | exact ih0 _ _ _
      | exact ih1 _ _ _
      | exact ih2 _ _ _ _ _
      | exact conclavelaw03_anchor.mono _
      | exact conclaveref03_Level.mono _ _
      | exact conclaveref03_Parent.mono _ _ _
      | exact conclaveref03_Sibling.mono _ _ _
      | exact LeO.none _
      | refine LeO.ite ?_ ?_
      | refine LeO.bind ?_ (fun _ => ?_)
theorem conclavelaw03_HeapPlaces.mono : ∀ a0 a1 k, LeO (conclavelaw03_HeapPlaces.f k a0 a1) (conclavelaw03_HeapPlaces.f (k + 1) a0 a1) := by
  intro a0 a1 k
  obtain ⟨ih0, ih1, ih2⟩ := conclavelaw03_HeapPlaces.mono_l k
  unfold conclavelaw03_HeapPlaces.f
  repeat' first
      | (with_reducible exact ih0 _ _ _)
      | (with_reducible exact ih1 _ _ _)
      | (with_reducible exact ih2 _ _ _ _ _)
      | (with_reducible exact conclavelaw03_anchor.mono _)
      | (with_reducible exact conclaveref03_Level.mono _ _)
      | (with_reducible exact conclaveref03_Parent.mono _ _ _)
      | (with_reducible exact conclaveref03_Sibling.mono _ _ _)
      | (with_reducible exact LeO.refl _)
      | (with_reducible exact LeO.none _)
      | (with_reducible refine LeO.ite ?_ ?_)
      | (with_reducible refine LeO.bind ?_ (fun _ => ?_))
      | exact ih0 _ _ _
      | exact ih1 _ _ _
      | exact ih2 _ _ _ _ _
      | exact conclavelaw03_anchor.mono _
      | exact conclaveref03_Level.mono _ _
      | exact conclaveref03_Parent.mono _ _ _
      | exact conclaveref03_Sibling.mono _ _ _
      | exact LeO.none _
      | refine LeO.ite ?_ ?_
      | refine LeO.bind ?_ (fun _ => ?_)
set_option maxHeartbeats 8000000 in
set_option maxRecDepth 100000 in
theorem conclavelaw03_HeapPlaces.calls (k : Nat) (a0 : Int) (a1 : Int) (r : Bool) (w : World) (hrG : TabG w) (h : conclavelaw03_HeapPlaces.f k a0 a1 = some r) :
    Calls Tryd.prog 4 #[.int .i64 a0, .int .i64 a1] w fun e w' => e = .returned (.bool r) ∧ Below w.heap.size w w' := by
  have HRG := Aside0.mk hrG
  clear hrG
  have HB := Aside0.mk (Below.refl w.heap.size w)
  have H : ((conclavelaw03_anchor.f k).bind fun t161 => (if t161 = true then ((heap_Right.f a1).bind fun t162 => ((conclaveref03_Right.f a1).bind fun t163 => (if (t162 != t163) = true then (conclavelaw03_HeapPlaces.j0 k a0 a1 true) else ((heap_Level.f a0).bind fun t164 => ((conclaveref03_Level.f k a0).bind fun t165 => (conclavelaw03_HeapPlaces.j0 k a0 a1 (t164 != t165))))))) else (some false))) = some r := h
  clear h
  replace H := Option.bind_eq_some_iff.mp H
  obtain ⟨t161, A30, H⟩ := H
  replace H : (if t161 = true then ((heap_Right.f a1).bind fun t162 => ((conclaveref03_Right.f a1).bind fun t163 => (if (t162 != t163) = true then (conclavelaw03_HeapPlaces.j0 k a0 a1 true) else ((heap_Level.f a0).bind fun t164 => ((conclaveref03_Level.f k a0).bind fun t165 => (conclavelaw03_HeapPlaces.j0 k a0 a1 (t164 != t165))))))) else (some false)) = some r := H
  have A3 := Aside0.mk A30
  clear A30
  by_cases c4 : t161 = true
  · subst c4
    have H1 : ((heap_Right.f a1).bind fun t162 => ((conclaveref03_Right.f a1).bind fun t163 => (if (t162 != t163) = true then (conclavelaw03_HeapPlaces.j0 k a0 a1 true) else ((heap_Level.f a0).bind fun t164 => ((conclaveref03_Level.f k a0).bind fun t165 => (conclavelaw03_HeapPlaces.j0 k a0 a1 (t164 != t165))))))) = some r := by rw [if_pos rfl] at H; exact H
    clear H
    have H := H1
    clear H1
    have HC5 := Aside0.mk H
    clear H
    go_enter Tryd.func4, Tryd.ntmps4
    go_upto_region 3 with (first | ((with_reducible refine gate_callee (f := 9) rfl ?_); refine goesL_ (some 15) rfl rfl Tryd.func9 (by kernel_rfl) rfl #[] rfl (by (try simp only [List.map_toArray, List.map_cons, List.map_nil]); first | done | rfl | (simp only [List.length_drop, List.length_take]; rfl)) ?_; (with_reducible refine (conclavelaw03_anchor.calls (hrG := ?sideG) k  true _ A3.out).mono ?_); (case sideG => (first | exact HRG.out | exact TabG.below HRG.out (by repeat (first | (with_reducible first | exact HB.out | apply below_alloc | apply pw_below_drewN | apply below_drew1) | exact HB.out | exact Below.refl _ _)))); rintro e w6 ⟨rfl, hb⟩; refine ⟨_, rfl, ?_⟩; have n0_ := Aside0.mk (below_step (by repeat (first | (with_reducible first | exact HB.out | apply below_alloc | apply pw_below_drewN | apply below_drew1) | exact HB.out)) hb); clear HB; have HB := n0_; clear n0_; (try clear hb); (try clear hb2); (try clear hk); (try clear hi)))
    (try simp only [Act.put, List.setIfInBounds_toArray, List.set_cons_zero, List.set_cons_succ])
    go_cut [28] (fun v28 wc => ∃ (kq : Nat) (x28_4 : Bool), v28 = .bool x28_4 ∧ Aside0 (conclavelaw03_HeapPlaces.j0 kq a0 a1 x28_4 = some r) ∧ Aside0 (kq ≤ k) ∧ Aside0 (Below w.heap.size w wc))
    case first =>
      have H := HC5.out
      clear HC5
      replace H := Option.bind_eq_some_iff.mp H
      obtain ⟨t162, A70, H⟩ := H
      replace H : ((conclaveref03_Right.f a1).bind fun t163 => (if (t162 != t163) = true then (conclavelaw03_HeapPlaces.j0 k a0 a1 true) else ((heap_Level.f a0).bind fun t164 => ((conclaveref03_Level.f k a0).bind fun t165 => (conclavelaw03_HeapPlaces.j0 k a0 a1 (t164 != t165)))))) = some r := H
      have A7 := Aside0.mk A70
      clear A70
      replace H := Option.bind_eq_some_iff.mp H
      obtain ⟨t163, A80, H⟩ := H
      replace H : (if (t162 != t163) = true then (conclavelaw03_HeapPlaces.j0 k a0 a1 true) else ((heap_Level.f a0).bind fun t164 => ((conclaveref03_Level.f k a0).bind fun t165 => (conclavelaw03_HeapPlaces.j0 k a0 a1 (t164 != t165))))) = some r := H
      have A8 := Aside0.mk A80
      clear A80
      by_cases c9 : (t162 != t163) = true
      · rw [if_pos c9] at H
        have c9b0 : (t162 != t163) = true := c9
        (try (have c9b1 : decide (t162 = t163) = false := by simpa using c9))
        (try (have c9b2 : (t162 == t163) = false := by simpa using c9))
        (try (have c9b3 : ¬ (t162 = t163) := by simpa using c9))
        clear c9
        (first | rw [c9b0] | (simp only [i64_w, i32_w]; rw [c9b0]) | skip)
        have H' := Aside0.mk H
        clear H
        go_wp2_with (first | ((with_reducible refine gate_callee (f := 14) rfl ?_); refine goesL_ (some 18) rfl rfl Tryd.func14 (by kernel_rfl) rfl #[.int .i64 a1] rfl (by (try simp only [List.map_toArray, List.map_cons, List.map_nil]); first | done | rfl | (simp only [List.length_drop, List.length_take]; rfl)) ?_; (with_reducible refine (heap_Right.calls a1 t162 _ A7.out).mono ?_); rintro e w' ⟨rfl, ⟨nd, rfl⟩⟩; refine ⟨_, rfl, ?_⟩) | ((with_reducible refine gate_callee (f := 15) rfl ?_); refine goesL_ (some 20) rfl rfl Tryd.func15 (by kernel_rfl) rfl #[.int .i64 a1] rfl (by (try simp only [List.map_toArray, List.map_cons, List.map_nil]); first | done | rfl | (simp only [List.length_drop, List.length_take]; rfl)) ?_; (with_reducible refine (conclaveref03_Right.calls a1 t163 _ A8.out).mono ?_); rintro e w' ⟨rfl, ⟨nd, rfl⟩⟩; refine ⟨_, rfl, ?_⟩))
        go_meet
        case rel => exact ⟨_, (true), (by first | rfl | (simp; done) | (simp [*]; done)), H', ⟨by first | omega | exact Nat.le_refl _⟩, ⟨by repeat (first | (with_reducible first | exact HB.out | apply below_alloc | apply pw_below_drewN | apply below_drew1) | exact HB.out)⟩⟩
      · rw [if_neg c9] at H
        have c9b0 : (t162 != t163) = false := by simpa using c9
        (try (have c9b1 : decide (t162 = t163) = true := by simpa using c9))
        (try (have c9b2 : (t162 == t163) = true := by simpa using c9))
        clear c9
        (first | rw [c9b0] | (simp only [i64_w, i32_w]; rw [c9b0]) | skip)
        replace H := Option.bind_eq_some_iff.mp H
        obtain ⟨t164, A100, H⟩ := H
        replace H : ((conclaveref03_Level.f k a0).bind fun t165 => (conclavelaw03_HeapPlaces.j0 k a0 a1 (t164 != t165))) = some r := H
        have A10 := Aside0.mk A100
        clear A100
        replace H := Option.bind_eq_some_iff.mp H
        obtain ⟨t165, A110, H⟩ := H
        replace H : (conclavelaw03_HeapPlaces.j0 k a0 a1 (t164 != t165)) = some r := H
        have A11 := Aside0.mk A110
        clear A110
        have H' := Aside0.mk H
        clear H
        go_wp2_with (first | ((with_reducible refine gate_callee (f := 14) rfl ?_); refine goesL_ (some 18) rfl rfl Tryd.func14 (by kernel_rfl) rfl #[.int .i64 a1] rfl (by (try simp only [List.map_toArray, List.map_cons, List.map_nil]); first | done | rfl | (simp only [List.length_drop, List.length_take]; rfl)) ?_; (with_reducible refine (heap_Right.calls a1 t162 _ A7.out).mono ?_); rintro e w' ⟨rfl, ⟨nd, rfl⟩⟩; refine ⟨_, rfl, ?_⟩) | ((with_reducible refine gate_callee (f := 15) rfl ?_); refine goesL_ (some 20) rfl rfl Tryd.func15 (by kernel_rfl) rfl #[.int .i64 a1] rfl (by (try simp only [List.map_toArray, List.map_cons, List.map_nil]); first | done | rfl | (simp only [List.length_drop, List.length_take]; rfl)) ?_; (with_reducible refine (conclaveref03_Right.calls a1 t163 _ A8.out).mono ?_); rintro e w' ⟨rfl, ⟨nd, rfl⟩⟩; refine ⟨_, rfl, ?_⟩) | (go_at_call 13; (with_reducible refine (heap_Level.calls (hrG := ?sideG) a0 t164 _ A10.out).mono ?_); (case sideG => (first | exact HRG.out | exact TabG.below HRG.out (by repeat (first | (with_reducible first | exact HB.out | apply below_alloc | apply pw_below_drewN | apply below_drew1) | exact HB.out | exact Below.refl _ _)))); rintro e w' ⟨rfl, ⟨nd, rfl⟩⟩) | (go_at_call 16; (with_reducible refine (conclaveref03_Level.calls k a0 t165 _ A11.out).mono ?_); rintro e w' ⟨rfl, ⟨nd, rfl⟩⟩))
        go_meet
        case rel => exact ⟨_, ((t164 != t165)), (by first | rfl | (simp; done) | (simp [*]; done)), H', ⟨by first | omega | exact Nat.le_refl _⟩, ⟨by repeat (first | (with_reducible first | exact HB.out | apply below_alloc | apply pw_below_drewN | apply below_drew1) | exact HB.out)⟩⟩
    case rest =>
      clear HC5
      try clear c1
      try clear p2
      try clear c4
      try clear c9
      try clear c9b0
      try clear c9b1
      try clear c9b2
      obtain ⟨kq, x28_4, rfl, HA, HJ4, HB⟩ := hcut
      cases kq with
      | zero => exact absurd HA.out (by simp [conclavelaw03_HeapPlaces.j0])
      | succ kj4 =>
        have H := HA.out
        clear HA
        simp only [conclavelaw03_HeapPlaces.j0] at H
        by_cases c12 : x28_4 = true
        · subst c12
          have H1 : (some false) = some r := by rw [if_pos rfl] at H; exact H
          clear H
          have H := H1
          clear H1
          obtain rfl := Option.some.inj H
          go_wp2
          go_ret
          exact ⟨by first | rfl | (simp [errW_none, errW_some] <;> rfl) | (simp [*, errW_none, errW_some] <;> rfl), by repeat (first | (with_reducible first | exact HB.out | apply below_alloc | apply pw_below_drewN | apply below_drew1) | exact HB.out)⟩
        · replace c12 := Bool.eq_false_iff.mpr c12
          subst c12
          have H1 : ((heap_Root.f a1).bind fun bt166 => ((conclaveref03_Right.f a1).bind fun t168 => (if (t168 != (bt166.2 == 0)) = true then (conclavelaw03_HeapPlaces.j1 kj4 a0 a1 true) else (if bt166.2 = 0 then (if bt166.1 = (wrap64 (a1 - 1)) then (conclavelaw03_HeapPlaces.j1 kj4 a0 a1 false) else (conclavelaw03_HeapPlaces.j1 kj4 a0 a1 true)) else (if bt166.1 = 0 then (conclavelaw03_HeapPlaces.j1 kj4 a0 a1 (bt166.2 != 30)) else (conclavelaw03_HeapPlaces.j1 kj4 a0 a1 true)))))) = some r := by rw [if_neg (show ¬ (false = true) by decide)] at H; exact H
          clear H
          have H := H1
          clear H1
          replace H := Option.bind_eq_some_iff.mp H
          obtain ⟨⟨t166, t167⟩, A130, H⟩ := H
          replace H : ((conclaveref03_Right.f a1).bind fun t168 => (if (t168 != (t167 == 0)) = true then (conclavelaw03_HeapPlaces.j1 kj4 a0 a1 true) else (if t167 = 0 then (if t166 = (wrap64 (a1 - 1)) then (conclavelaw03_HeapPlaces.j1 kj4 a0 a1 false) else (conclavelaw03_HeapPlaces.j1 kj4 a0 a1 true)) else (if t166 = 0 then (conclavelaw03_HeapPlaces.j1 kj4 a0 a1 (t167 != 30)) else (conclavelaw03_HeapPlaces.j1 kj4 a0 a1 true))))) = some r := H
          have A13 := Aside0.mk A130
          clear A130
          have HC14 := Aside0.mk H
          clear H
          go_upto_region 6 with (first | ((with_reducible refine gate_callee (f := 17) rfl ?_); refine goesL_ (some 31) rfl rfl Tryd.func17 (by kernel_rfl) rfl #[.int .i64 a1] rfl (by (try simp only [List.map_toArray, List.map_cons, List.map_nil]); first | done | rfl | (simp only [List.length_drop, List.length_take]; rfl)) ?_; (with_reducible refine (heap_Root.calls a1 t166 t167 _ A13.out).mono ?_); rintro e w' ⟨rfl, ⟨nd, rfl⟩⟩; refine ⟨_, rfl, ?_⟩))
          (try simp only [Act.put, List.setIfInBounds_toArray, List.set_cons_zero, List.set_cons_succ])
          go_cut [60] (fun v60 wc => ∃ (kq : Nat) (x60_13 : Bool), v60 = .bool x60_13 ∧ Aside0 (conclavelaw03_HeapPlaces.j1 kq a0 a1 x60_13 = some r) ∧ Aside0 (kq ≤ kj4) ∧ Aside0 (Below w.heap.size w wc))
          case first =>
            have H := HC14.out
            clear HC14
            replace H := Option.bind_eq_some_iff.mp H
            obtain ⟨t168, A150, H⟩ := H
            replace H : (if (t168 != (t167 == 0)) = true then (conclavelaw03_HeapPlaces.j1 kj4 a0 a1 true) else (if t167 = 0 then (if t166 = (wrap64 (a1 - 1)) then (conclavelaw03_HeapPlaces.j1 kj4 a0 a1 false) else (conclavelaw03_HeapPlaces.j1 kj4 a0 a1 true)) else (if t166 = 0 then (conclavelaw03_HeapPlaces.j1 kj4 a0 a1 (t167 != 30)) else (conclavelaw03_HeapPlaces.j1 kj4 a0 a1 true)))) = some r := H
            have A15 := Aside0.mk A150
            clear A150
            by_cases c16 : (t168 != (t167 == 0)) = true
            · rw [if_pos c16] at H
              have c16b0 : (t168 != (t167 == 0)) = true := c16
              (try (have c16b1 : decide (t168 = (t167 == 0)) = false := by simpa using c16))
              (try (have c16b2 : (t168 == (t167 == 0)) = false := by simpa using c16))
              (try (have c16b3 : ¬ (t168 = (t167 == 0)) := by simpa using c16))
              clear c16
              (first | rw [c16b0] | (simp only [i64_w, i32_w]; rw [c16b0]) | skip)
              have H' := Aside0.mk H
              clear H
              go_wp2_with (first | ((with_reducible refine gate_callee (f := 15) rfl ?_); refine goesL_ (some 35) rfl rfl Tryd.func15 (by kernel_rfl) rfl #[.int .i64 a1] rfl (by (try simp only [List.map_toArray, List.map_cons, List.map_nil]); first | done | rfl | (simp only [List.length_drop, List.length_take]; rfl)) ?_; (with_reducible refine (conclaveref03_Right.calls a1 t168 _ A15.out).mono ?_); rintro e w' ⟨rfl, ⟨nd, rfl⟩⟩; refine ⟨_, rfl, ?_⟩))
              go_meet
              case rel => exact ⟨_, (true), (by first | rfl | (simp; done) | (simp [*]; done)), H', ⟨by have := HJ4.out; first | omega | exact Nat.le_refl _⟩, ⟨by repeat (first | (with_reducible first | exact HB.out | apply below_alloc | apply pw_below_drewN | apply below_drew1) | exact HB.out)⟩⟩
            · rw [if_neg c16] at H
              have c16b0 : (t168 != (t167 == 0)) = false := by simpa using c16
              (try (have c16b1 : decide (t168 = (t167 == 0)) = true := by simpa using c16))
              (try (have c16b2 : (t168 == (t167 == 0)) = true := by simpa using c16))
              clear c16
              (first | rw [c16b0] | (simp only [i64_w, i32_w]; rw [c16b0]) | skip)
              by_cases c17 : t167 = 0
              · rw [if_pos c17] at H
                have c17b0 : (t167 == 0) = true := beq_iff_eq.mpr c17
                have c17b1 : (t167 != 0) = false := bne_eq_false_iff_eq.mpr c17
                (try (have cz_ : t168 = true := by simpa [c17b0] using c16b0))
                clear c17
                by_cases c18 : t166 = (wrap64 (a1 - 1))
                · rw [if_pos c18] at H
                  have c18b0 : (t166 == (wrap64 (a1 - 1))) = true := beq_iff_eq.mpr c18
                  have c18b1 : (t166 != (wrap64 (a1 - 1))) = false := bne_eq_false_iff_eq.mpr c18
                  clear c18
                  have H' := Aside0.mk H
                  clear H
                  go_wp2_with (first | ((with_reducible refine gate_callee (f := 15) rfl ?_); refine goesL_ (some 35) rfl rfl Tryd.func15 (by kernel_rfl) rfl #[.int .i64 a1] rfl (by (try simp only [List.map_toArray, List.map_cons, List.map_nil]); first | done | rfl | (simp only [List.length_drop, List.length_take]; rfl)) ?_; (with_reducible refine (conclaveref03_Right.calls a1 t168 _ A15.out).mono ?_); rintro e w' ⟨rfl, ⟨nd, rfl⟩⟩; refine ⟨_, rfl, ?_⟩))
                  go_meet
                  case rel => exact ⟨_, (false), (by first | rfl | (simp; done) | (simp [*]; done)), H', ⟨by have := HJ4.out; first | omega | exact Nat.le_refl _⟩, ⟨by repeat (first | (with_reducible first | exact HB.out | apply below_alloc | apply pw_below_drewN | apply below_drew1) | exact HB.out)⟩⟩
                · rw [if_neg c18] at H
                  have c18b0 : (t166 == (wrap64 (a1 - 1))) = false := beq_eq_false_iff_ne.mpr c18
                  have c18b1 : (t166 != (wrap64 (a1 - 1))) = true := bne_iff_ne.mpr c18
                  have H' := Aside0.mk H
                  clear H
                  go_wp2_with (first | ((with_reducible refine gate_callee (f := 15) rfl ?_); refine goesL_ (some 35) rfl rfl Tryd.func15 (by kernel_rfl) rfl #[.int .i64 a1] rfl (by (try simp only [List.map_toArray, List.map_cons, List.map_nil]); first | done | rfl | (simp only [List.length_drop, List.length_take]; rfl)) ?_; (with_reducible refine (conclaveref03_Right.calls a1 t168 _ A15.out).mono ?_); rintro e w' ⟨rfl, ⟨nd, rfl⟩⟩; refine ⟨_, rfl, ?_⟩))
                  go_meet
                  case rel => exact ⟨_, (true), (by first | rfl | (simp; done) | (simp [*]; done)), H', ⟨by have := HJ4.out; first | omega | exact Nat.le_refl _⟩, ⟨by repeat (first | (with_reducible first | exact HB.out | apply below_alloc | apply pw_below_drewN | apply below_drew1) | exact HB.out)⟩⟩
              · rw [if_neg c17] at H
                have c17b0 : (t167 == 0) = false := beq_eq_false_iff_ne.mpr c17
                have c17b1 : (t167 != 0) = true := bne_iff_ne.mpr c17
                (try (have cz_ : t168 = false := by simpa [c17b0] using c16b0))
                by_cases c19 : t166 = 0
                · rw [if_pos c19] at H
                  have c19b0 : (t166 == 0) = true := beq_iff_eq.mpr c19
                  have c19b1 : (t166 != 0) = false := bne_eq_false_iff_eq.mpr c19
                  clear c19
                  have H' := Aside0.mk H
                  clear H
                  go_wp2_with (first | ((with_reducible refine gate_callee (f := 15) rfl ?_); refine goesL_ (some 35) rfl rfl Tryd.func15 (by kernel_rfl) rfl #[.int .i64 a1] rfl (by (try simp only [List.map_toArray, List.map_cons, List.map_nil]); first | done | rfl | (simp only [List.length_drop, List.length_take]; rfl)) ?_; (with_reducible refine (conclaveref03_Right.calls a1 t168 _ A15.out).mono ?_); rintro e w' ⟨rfl, ⟨nd, rfl⟩⟩; refine ⟨_, rfl, ?_⟩))
                  go_meet
                  case rel => exact ⟨_, ((t167 != 30)), (by first | rfl | (simp; done) | (simp [*]; done)), H', ⟨by have := HJ4.out; first | omega | exact Nat.le_refl _⟩, ⟨by repeat (first | (with_reducible first | exact HB.out | apply below_alloc | apply pw_below_drewN | apply below_drew1) | exact HB.out)⟩⟩
                · rw [if_neg c19] at H
                  have c19b0 : (t166 == 0) = false := beq_eq_false_iff_ne.mpr c19
                  have c19b1 : (t166 != 0) = true := bne_iff_ne.mpr c19
                  have H' := Aside0.mk H
                  clear H
                  go_wp2_with (first | ((with_reducible refine gate_callee (f := 15) rfl ?_); refine goesL_ (some 35) rfl rfl Tryd.func15 (by kernel_rfl) rfl #[.int .i64 a1] rfl (by (try simp only [List.map_toArray, List.map_cons, List.map_nil]); first | done | rfl | (simp only [List.length_drop, List.length_take]; rfl)) ?_; (with_reducible refine (conclaveref03_Right.calls a1 t168 _ A15.out).mono ?_); rintro e w' ⟨rfl, ⟨nd, rfl⟩⟩; refine ⟨_, rfl, ?_⟩))
                  go_meet
                  case rel => exact ⟨_, (true), (by first | rfl | (simp; done) | (simp [*]; done)), H', ⟨by have := HJ4.out; first | omega | exact Nat.le_refl _⟩, ⟨by repeat (first | (with_reducible first | exact HB.out | apply below_alloc | apply pw_below_drewN | apply below_drew1) | exact HB.out)⟩⟩
          case rest =>
            clear HC14
            try clear c1
            try clear p2
            try clear c4
            try clear p6
            try clear c9
            try clear c9b0
            try clear c9b1
            try clear c9b2
            try clear c12
            try clear c14
            try clear c15
            try clear c16
            try clear c16b0
            try clear c16b1
            try clear c16b2
            try clear c17
            try clear c17b0
            try clear c17b1
            try clear c18
            try clear c18b0
            try clear c18b1
            try clear c19
            try clear c19b0
            try clear c19b1
            try clear p2
            obtain ⟨kq, x60_13, rfl, HA, HJ13, HB⟩ := hcut
            cases kq with
            | zero => exact absurd HA.out (by simp [conclavelaw03_HeapPlaces.j1])
            | succ kj13 =>
              have H := HA.out
              clear HA
              simp only [conclavelaw03_HeapPlaces.j1] at H
              by_cases c20 : x60_13 = true
              · subst c20
                have H1 : (some false) = some r := by rw [if_pos rfl] at H; exact H
                clear H
                have H := H1
                clear H1
                obtain rfl := Option.some.inj H
                go_wp2
                go_ret
                exact ⟨by first | rfl | (simp [errW_none, errW_some] <;> rfl) | (simp [*, errW_none, errW_some] <;> rfl), by repeat (first | (with_reducible first | exact HB.out | apply below_alloc | apply pw_below_drewN | apply below_drew1) | exact HB.out)⟩
              · replace c20 := Bool.eq_false_iff.mpr c20
                subst c20
                have H1 : ((heap_Parent.f a0 a1).bind fun bt169 => ((heap_Sibling.f a0 a1).bind fun bt171 => ((heap_Children.f a0 a1).bind fun bt173 => ((conclaveref03_In.f a0 a1).bind fun t176 => (if t176 = true then ((conclaveref03_Parent.f kj13 a0 a1).bind fun t177 => (if t177 < 0 then (if bt169.2 = 30 then (if bt171.2 = 30 then (if bt169.1 = 0 then (if bt171.1 = 0 then (conclavelaw03_HeapPlaces.j2 kj13 a0 a1 bt173.1 bt173.2.1 bt173.2.2) else (some false)) else (some false)) else (some false)) else (some false)) else (if bt169.2 = 0 then (if bt171.2 = 0 then (if bt169.1 = t177 then ((conclaveref03_Sibling.f kj13 a0 a1).bind fun t178 => (if bt171.1 = t178 then (conclavelaw03_HeapPlaces.j2 kj13 a0 a1 bt173.1 bt173.2.1 bt173.2.2) else (some false))) else (some false)) else (some false)) else (some false)))) else (if bt169.2 = 30 then (if bt171.2 = 30 then (if bt173.2.2 = 30 then (if bt169.1 = 0 then (if bt171.1 = 0 then (if bt173.1 = 0 then (some (bt173.2.1 == 0)) else (some false)) else (some false)) else (some false)) else (some false)) else (some false)) else (some false))))))) = some r := by rw [if_neg (show ¬ (false = true) by decide)] at H; exact H
                clear H
                have H := H1
                clear H1
                replace H := Option.bind_eq_some_iff.mp H
                obtain ⟨⟨t169, t170⟩, A210, H⟩ := H
                replace H : ((heap_Sibling.f a0 a1).bind fun bt171 => ((heap_Children.f a0 a1).bind fun bt173 => ((conclaveref03_In.f a0 a1).bind fun t176 => (if t176 = true then ((conclaveref03_Parent.f kj13 a0 a1).bind fun t177 => (if t177 < 0 then (if t170 = 30 then (if bt171.2 = 30 then (if t169 = 0 then (if bt171.1 = 0 then (conclavelaw03_HeapPlaces.j2 kj13 a0 a1 bt173.1 bt173.2.1 bt173.2.2) else (some false)) else (some false)) else (some false)) else (some false)) else (if t170 = 0 then (if bt171.2 = 0 then (if t169 = t177 then ((conclaveref03_Sibling.f kj13 a0 a1).bind fun t178 => (if bt171.1 = t178 then (conclavelaw03_HeapPlaces.j2 kj13 a0 a1 bt173.1 bt173.2.1 bt173.2.2) else (some false))) else (some false)) else (some false)) else (some false)))) else (if t170 = 30 then (if bt171.2 = 30 then (if bt173.2.2 = 30 then (if t169 = 0 then (if bt171.1 = 0 then (if bt173.1 = 0 then (some (bt173.2.1 == 0)) else (some false)) else (some false)) else (some false)) else (some false)) else (some false)) else (some false)))))) = some r := H
                have A21 := Aside0.mk A210
                clear A210
                replace H := Option.bind_eq_some_iff.mp H
                obtain ⟨⟨t171, t172⟩, A220, H⟩ := H
                replace H : ((heap_Children.f a0 a1).bind fun bt173 => ((conclaveref03_In.f a0 a1).bind fun t176 => (if t176 = true then ((conclaveref03_Parent.f kj13 a0 a1).bind fun t177 => (if t177 < 0 then (if t170 = 30 then (if t172 = 30 then (if t169 = 0 then (if t171 = 0 then (conclavelaw03_HeapPlaces.j2 kj13 a0 a1 bt173.1 bt173.2.1 bt173.2.2) else (some false)) else (some false)) else (some false)) else (some false)) else (if t170 = 0 then (if t172 = 0 then (if t169 = t177 then ((conclaveref03_Sibling.f kj13 a0 a1).bind fun t178 => (if t171 = t178 then (conclavelaw03_HeapPlaces.j2 kj13 a0 a1 bt173.1 bt173.2.1 bt173.2.2) else (some false))) else (some false)) else (some false)) else (some false)))) else (if t170 = 30 then (if t172 = 30 then (if bt173.2.2 = 30 then (if t169 = 0 then (if t171 = 0 then (if bt173.1 = 0 then (some (bt173.2.1 == 0)) else (some false)) else (some false)) else (some false)) else (some false)) else (some false)) else (some false))))) = some r := H
                have A22 := Aside0.mk A220
                clear A220
                replace H := Option.bind_eq_some_iff.mp H
                obtain ⟨⟨t173, t174, t175⟩, A230, H⟩ := H
                replace H : ((conclaveref03_In.f a0 a1).bind fun t176 => (if t176 = true then ((conclaveref03_Parent.f kj13 a0 a1).bind fun t177 => (if t177 < 0 then (if t170 = 30 then (if t172 = 30 then (if t169 = 0 then (if t171 = 0 then (conclavelaw03_HeapPlaces.j2 kj13 a0 a1 t173 t174 t175) else (some false)) else (some false)) else (some false)) else (some false)) else (if t170 = 0 then (if t172 = 0 then (if t169 = t177 then ((conclaveref03_Sibling.f kj13 a0 a1).bind fun t178 => (if t171 = t178 then (conclavelaw03_HeapPlaces.j2 kj13 a0 a1 t173 t174 t175) else (some false))) else (some false)) else (some false)) else (some false)))) else (if t170 = 30 then (if t172 = 30 then (if t175 = 30 then (if t169 = 0 then (if t171 = 0 then (if t173 = 0 then (some (t174 == 0)) else (some false)) else (some false)) else (some false)) else (some false)) else (some false)) else (some false)))) = some r := H
                have A23 := Aside0.mk A230
                clear A230
                replace H := Option.bind_eq_some_iff.mp H
                obtain ⟨t176, A240, H⟩ := H
                replace H : (if t176 = true then ((conclaveref03_Parent.f kj13 a0 a1).bind fun t177 => (if t177 < 0 then (if t170 = 30 then (if t172 = 30 then (if t169 = 0 then (if t171 = 0 then (conclavelaw03_HeapPlaces.j2 kj13 a0 a1 t173 t174 t175) else (some false)) else (some false)) else (some false)) else (some false)) else (if t170 = 0 then (if t172 = 0 then (if t169 = t177 then ((conclaveref03_Sibling.f kj13 a0 a1).bind fun t178 => (if t171 = t178 then (conclavelaw03_HeapPlaces.j2 kj13 a0 a1 t173 t174 t175) else (some false))) else (some false)) else (some false)) else (some false)))) else (if t170 = 30 then (if t172 = 30 then (if t175 = 30 then (if t169 = 0 then (if t171 = 0 then (if t173 = 0 then (some (t174 == 0)) else (some false)) else (some false)) else (some false)) else (some false)) else (some false)) else (some false))) = some r := H
                have A24 := Aside0.mk A240
                clear A240
                by_cases c25 : t176 = true
                · subst c25
                  have H1 : ((conclaveref03_Parent.f kj13 a0 a1).bind fun t177 => (if t177 < 0 then (if t170 = 30 then (if t172 = 30 then (if t169 = 0 then (if t171 = 0 then (conclavelaw03_HeapPlaces.j2 kj13 a0 a1 t173 t174 t175) else (some false)) else (some false)) else (some false)) else (some false)) else (if t170 = 0 then (if t172 = 0 then (if t169 = t177 then ((conclaveref03_Sibling.f kj13 a0 a1).bind fun t178 => (if t171 = t178 then (conclavelaw03_HeapPlaces.j2 kj13 a0 a1 t173 t174 t175) else (some false))) else (some false)) else (some false)) else (some false)))) = some r := by rw [if_pos rfl] at H; exact H
                  clear H
                  have H := H1
                  clear H1
                  replace H := Option.bind_eq_some_iff.mp H
                  obtain ⟨t177, A260, H⟩ := H
                  replace H : (if t177 < 0 then (if t170 = 30 then (if t172 = 30 then (if t169 = 0 then (if t171 = 0 then (conclavelaw03_HeapPlaces.j2 kj13 a0 a1 t173 t174 t175) else (some false)) else (some false)) else (some false)) else (some false)) else (if t170 = 0 then (if t172 = 0 then (if t169 = t177 then ((conclaveref03_Sibling.f kj13 a0 a1).bind fun t178 => (if t171 = t178 then (conclavelaw03_HeapPlaces.j2 kj13 a0 a1 t173 t174 t175) else (some false))) else (some false)) else (some false)) else (some false))) = some r := H
                  have A26 := Aside0.mk A260
                  clear A260
                  have HC27 := Aside0.mk H
                  clear H
                  go_upto_if 114 with (first | ((with_reducible refine gate_callee (f := 18) rfl ?_); refine goesL_ (some 64) rfl rfl Tryd.func18 (by kernel_rfl) rfl #[.int .i64 a0, .int .i64 a1] rfl (by (try simp only [List.map_toArray, List.map_cons, List.map_nil]); first | done | rfl | (simp only [List.length_drop, List.length_take]; rfl)) ?_; (with_reducible refine (heap_Parent.calls (hrG := ?sideG) a0 a1 t169 t170 _ A21.out).mono ?_); (case sideG => (first | exact HRG.out | exact TabG.below HRG.out (by repeat (first | (with_reducible first | exact HB.out | apply below_alloc | apply pw_below_drewN | apply below_drew1) | exact HB.out | exact Below.refl _ _)))); rintro e w' ⟨rfl, ⟨nd, rfl⟩⟩; refine ⟨_, rfl, ?_⟩) | ((with_reducible refine gate_callee (f := 19) rfl ?_); refine goesL_ (some 70) rfl rfl Tryd.func19 (by kernel_rfl) rfl #[.int .i64 a0, .int .i64 a1] rfl (by (try simp only [List.map_toArray, List.map_cons, List.map_nil]); first | done | rfl | (simp only [List.length_drop, List.length_take]; rfl)) ?_; (with_reducible refine (heap_Sibling.calls (hrG := ?sideG) a0 a1 t171 t172 _ A22.out).mono ?_); (case sideG => (first | exact HRG.out | exact TabG.below HRG.out (by repeat (first | (with_reducible first | exact HB.out | apply below_alloc | apply pw_below_drewN | apply below_drew1) | exact HB.out | exact Below.refl _ _)))); rintro e w' ⟨rfl, ⟨nd, rfl⟩⟩; refine ⟨_, rfl, ?_⟩) | ((with_reducible refine gate_callee (f := 20) rfl ?_); refine goesL_ (some 76) rfl rfl Tryd.func20 (by kernel_rfl) rfl #[.int .i64 a0, .int .i64 a1] rfl (by (try simp only [List.map_toArray, List.map_cons, List.map_nil]); first | done | rfl | (simp only [List.length_drop, List.length_take]; rfl)) ?_; (with_reducible refine (heap_Children.calls (hrG := ?sideG) a0 a1 t173 t174 t175 _ A23.out).mono ?_); (case sideG => (first | exact HRG.out | exact TabG.below HRG.out (by repeat (first | (with_reducible first | exact HB.out | apply below_alloc | apply pw_below_drewN | apply below_drew1) | exact HB.out | exact Below.refl _ _)))); rintro e w' ⟨rfl, ⟨nd, rfl⟩⟩; refine ⟨_, rfl, ?_⟩) | ((with_reducible refine gate_callee (f := 11) rfl ?_); refine goesL_ (some 82) rfl rfl Tryd.func11 (by kernel_rfl) rfl #[.int .i64 a0, .int .i64 a1] rfl (by (try simp only [List.map_toArray, List.map_cons, List.map_nil]); first | done | rfl | (simp only [List.length_drop, List.length_take]; rfl)) ?_; (with_reducible refine (conclaveref03_In.calls a0 a1 true _ A24.out).mono ?_); rintro e w' ⟨rfl, ⟨nd, rfl⟩⟩; refine ⟨_, rfl, ?_⟩) | ((with_reducible refine gate_callee (f := 21) rfl ?_); refine goesL_ (some 112) rfl rfl Tryd.func21 (by kernel_rfl) rfl #[.int .i64 a0, .int .i64 a1] rfl (by (try simp only [List.map_toArray, List.map_cons, List.map_nil]); first | done | rfl | (simp only [List.length_drop, List.length_take]; rfl)) ?_; (with_reducible refine (conclaveref03_Parent.calls kj13 a0 a1 t177 _ A26.out).mono ?_); rintro e w' ⟨rfl, ⟨nd, rfl⟩⟩; refine ⟨_, rfl, ?_⟩))
                  (try simp only [Act.put, List.setIfInBounds_toArray, List.set_cons_zero, List.set_cons_succ])
                  go_cut [] (fun wc => ∃ (kq : Nat), Aside0 (conclavelaw03_HeapPlaces.j2 kq a0 a1 t173 t174 t175 = some r) ∧ Aside0 (kq ≤ kj13) ∧ Aside0 (Below w.heap.size w wc))
                  case first =>
                    have H := HC27.out
                    clear HC27
                    by_cases c28 : t177 < 0
                    · rw [if_pos c28] at H
                      have c28b0 : decide (t177 < 0) = true := decide_eq_true c28
                      clear c28
                      (first | rw [c28b0] | (simp only [i64_w, i32_w]; rw [c28b0]) | skip)
                      by_cases c29 : t170 = 30
                      · rw [if_pos c29] at H
                        have c29b0 : (t170 == 30) = true := beq_iff_eq.mpr c29
                        have c29b1 : (t170 != 30) = false := bne_eq_false_iff_eq.mpr c29
                        clear c29
                        by_cases c30 : t172 = 30
                        · rw [if_pos c30] at H
                          have c30b0 : (t172 == 30) = true := beq_iff_eq.mpr c30
                          have c30b1 : (t172 != 30) = false := bne_eq_false_iff_eq.mpr c30
                          clear c30
                          by_cases c31 : t169 = 0
                          · rw [if_pos c31] at H
                            have c31b0 : (t169 == 0) = true := beq_iff_eq.mpr c31
                            have c31b1 : (t169 != 0) = false := bne_eq_false_iff_eq.mpr c31
                            clear c31
                            by_cases c32 : t171 = 0
                            · rw [if_pos c32] at H
                              have c32b0 : (t171 == 0) = true := beq_iff_eq.mpr c32
                              have c32b1 : (t171 != 0) = false := bne_eq_false_iff_eq.mpr c32
                              clear c32
                              have H' := Aside0.mk H
                              clear H
                              go_wp2
                              go_meet
                              case rel => exact ⟨_, H', ⟨by have := HJ4.out; have := HJ13.out; first | omega | exact Nat.le_refl _⟩, ⟨by repeat (first | (with_reducible first | exact HB.out | apply below_alloc | apply pw_below_drewN | apply below_drew1) | exact HB.out)⟩⟩
                            · rw [if_neg c32] at H
                              have c32b0 : (t171 == 0) = false := beq_eq_false_iff_ne.mpr c32
                              have c32b1 : (t171 != 0) = true := bne_iff_ne.mpr c32
                              obtain rfl := Option.some.inj H
                              go_wp2
                              go_ret
                              exact ⟨by first | rfl | (simp [errW_none, errW_some] <;> rfl) | (simp [*, errW_none, errW_some] <;> rfl), by repeat (first | (with_reducible first | exact HB.out | apply below_alloc | apply pw_below_drewN | apply below_drew1) | exact HB.out)⟩
                          · rw [if_neg c31] at H
                            have c31b0 : (t169 == 0) = false := beq_eq_false_iff_ne.mpr c31
                            have c31b1 : (t169 != 0) = true := bne_iff_ne.mpr c31
                            obtain rfl := Option.some.inj H
                            go_wp2
                            go_ret
                            exact ⟨by first | rfl | (simp [errW_none, errW_some] <;> rfl) | (simp [*, errW_none, errW_some] <;> rfl), by repeat (first | (with_reducible first | exact HB.out | apply below_alloc | apply pw_below_drewN | apply below_drew1) | exact HB.out)⟩
                        · rw [if_neg c30] at H
                          have c30b0 : (t172 == 30) = false := beq_eq_false_iff_ne.mpr c30
                          have c30b1 : (t172 != 30) = true := bne_iff_ne.mpr c30
                          obtain rfl := Option.some.inj H
                          go_wp2
                          go_ret
                          exact ⟨by first | rfl | (simp [errW_none, errW_some] <;> rfl) | (simp [*, errW_none, errW_some] <;> rfl), by repeat (first | (with_reducible first | exact HB.out | apply below_alloc | apply pw_below_drewN | apply below_drew1) | exact HB.out)⟩
                      · rw [if_neg c29] at H
                        have c29b0 : (t170 == 30) = false := beq_eq_false_iff_ne.mpr c29
                        have c29b1 : (t170 != 30) = true := bne_iff_ne.mpr c29
                        obtain rfl := Option.some.inj H
                        go_wp2
                        go_ret
                        exact ⟨by first | rfl | (simp [errW_none, errW_some] <;> rfl) | (simp [*, errW_none, errW_some] <;> rfl), by repeat (first | (with_reducible first | exact HB.out | apply below_alloc | apply pw_below_drewN | apply below_drew1) | exact HB.out)⟩
                    · rw [if_neg c28] at H
                      have c28b0 : decide (t177 < 0) = false := decide_eq_false c28
                      clear c28
                      (first | rw [c28b0] | (simp only [i64_w, i32_w]; rw [c28b0]) | skip)
                      by_cases c33 : t170 = 0
                      · rw [if_pos c33] at H
                        have c33b0 : (t170 == 0) = true := beq_iff_eq.mpr c33
                        have c33b1 : (t170 != 0) = false := bne_eq_false_iff_eq.mpr c33
                        clear c33
                        by_cases c34 : t172 = 0
                        · rw [if_pos c34] at H
                          have c34b0 : (t172 == 0) = true := beq_iff_eq.mpr c34
                          have c34b1 : (t172 != 0) = false := bne_eq_false_iff_eq.mpr c34
                          clear c34
                          by_cases c35 : t169 = t177
                          · rw [if_pos c35] at H
                            have c35b0 : (t169 == t177) = true := beq_iff_eq.mpr c35
                            have c35b1 : (t169 != t177) = false := bne_eq_false_iff_eq.mpr c35
                            clear c35
                            replace H := Option.bind_eq_some_iff.mp H
                            obtain ⟨t178, A360, H⟩ := H
                            replace H : (if t171 = t178 then (conclavelaw03_HeapPlaces.j2 kj13 a0 a1 t173 t174 t175) else (some false)) = some r := H
                            have A36 := Aside0.mk A360
                            clear A360
                            by_cases c37 : t171 = t178
                            · rw [if_pos c37] at H
                              have c37b0 : (t171 == t178) = true := beq_iff_eq.mpr c37
                              have c37b1 : (t171 != t178) = false := bne_eq_false_iff_eq.mpr c37
                              clear c37
                              have H' := Aside0.mk H
                              clear H
                              go_wp2_with (first | (go_at_call 22; (with_reducible refine (conclaveref03_Sibling.calls kj13 a0 a1 t178 _ A36.out).mono ?_); rintro e w' ⟨rfl, ⟨nd, rfl⟩⟩))
                              go_meet
                              case rel => exact ⟨_, H', ⟨by have := HJ4.out; have := HJ13.out; first | omega | exact Nat.le_refl _⟩, ⟨by repeat (first | (with_reducible first | exact HB.out | apply below_alloc | apply pw_below_drewN | apply below_drew1) | exact HB.out)⟩⟩
                            · rw [if_neg c37] at H
                              have c37b0 : (t171 == t178) = false := beq_eq_false_iff_ne.mpr c37
                              have c37b1 : (t171 != t178) = true := bne_iff_ne.mpr c37
                              obtain rfl := Option.some.inj H
                              go_wp2_with (first | (go_at_call 22; (with_reducible refine (conclaveref03_Sibling.calls kj13 a0 a1 t178 _ A36.out).mono ?_); rintro e w' ⟨rfl, ⟨nd, rfl⟩⟩))
                              go_ret
                              exact ⟨by first | rfl | (simp [errW_none, errW_some] <;> rfl) | (simp [*, errW_none, errW_some] <;> rfl), by repeat (first | (with_reducible first | exact HB.out | apply below_alloc | apply pw_below_drewN | apply below_drew1) | exact HB.out)⟩
                          · rw [if_neg c35] at H
                            have c35b0 : (t169 == t177) = false := beq_eq_false_iff_ne.mpr c35
                            have c35b1 : (t169 != t177) = true := bne_iff_ne.mpr c35
                            obtain rfl := Option.some.inj H
                            go_wp2
                            go_ret
                            exact ⟨by first | rfl | (simp [errW_none, errW_some] <;> rfl) | (simp [*, errW_none, errW_some] <;> rfl), by repeat (first | (with_reducible first | exact HB.out | apply below_alloc | apply pw_below_drewN | apply below_drew1) | exact HB.out)⟩
                        · rw [if_neg c34] at H
                          have c34b0 : (t172 == 0) = false := beq_eq_false_iff_ne.mpr c34
                          have c34b1 : (t172 != 0) = true := bne_iff_ne.mpr c34
                          obtain rfl := Option.some.inj H
                          go_wp2
                          go_ret
                          exact ⟨by first | rfl | (simp [errW_none, errW_some] <;> rfl) | (simp [*, errW_none, errW_some] <;> rfl), by repeat (first | (with_reducible first | exact HB.out | apply below_alloc | apply pw_below_drewN | apply below_drew1) | exact HB.out)⟩
                      · rw [if_neg c33] at H
                        have c33b0 : (t170 == 0) = false := beq_eq_false_iff_ne.mpr c33
                        have c33b1 : (t170 != 0) = true := bne_iff_ne.mpr c33
                        obtain rfl := Option.some.inj H
                        go_wp2
                        go_ret
                        exact ⟨by first | rfl | (simp [errW_none, errW_some] <;> rfl) | (simp [*, errW_none, errW_some] <;> rfl), by repeat (first | (with_reducible first | exact HB.out | apply below_alloc | apply pw_below_drewN | apply below_drew1) | exact HB.out)⟩
                  case rest =>
                    clear HC27
                    try clear c1
                    try clear c2
                    try clear p2
                    try clear c3
                    try clear c4
                    try clear p6
                    try clear c9
                    try clear c9b0
                    try clear c9b1
                    try clear c9b2
                    try clear c11
                    try clear c12
                    try clear c14
                    try clear c15
                    try clear c16
                    try clear c16b0
                    try clear c16b1
                    try clear c16b2
                    try clear c17
                    try clear c17b0
                    try clear c17b1
                    try clear c18
                    try clear c18b0
                    try clear c18b1
                    try clear c19
                    try clear c19b0
                    try clear c19b1
                    try clear c20
                    try clear c21
                    try clear c25
                    try clear c28
                    try clear c28b0
                    try clear c29
                    try clear c29b0
                    try clear c29b1
                    try clear c30
                    try clear c30b0
                    try clear c30b1
                    try clear c31
                    try clear c31b0
                    try clear c31b1
                    try clear c32
                    try clear c32b0
                    try clear c32b1
                    try clear c33
                    try clear c33b0
                    try clear c33b1
                    try clear c34
                    try clear c34b0
                    try clear c34b1
                    try clear c35
                    try clear c35b0
                    try clear c35b1
                    try clear c37
                    try clear c37b0
                    try clear c37b1
                    try clear p2
                    try clear p6
                    obtain ⟨kq, HA, HJ26, HB⟩ := hcut
                    cases kq with
                    | zero => exact absurd HA.out (by simp [conclavelaw03_HeapPlaces.j2])
                    | succ kj26 =>
                      have H := HA.out
                      clear HA
                      simp only [conclavelaw03_HeapPlaces.j2] at H
                      replace H := Option.bind_eq_some_iff.mp H
                      obtain ⟨t179, A380, H⟩ := H
                      replace H : (if t179 = 0 then (if t175 = 30 then (if t173 = 0 then (some (t174 == 0)) else (some false)) else (some false)) else (if t175 = 0 then (if t173 < a0 then (if a0 < t174 then ((conclaveref03_Parent.f kj26 t173 a1).bind fun t180 => (if t180 = a0 then ((conclaveref03_Parent.f kj26 t174 a1).bind fun t181 => (some (t181 == a0))) else (some false))) else (some false)) else (some false)) else (some false))) = some r := H
                      have A38 := Aside0.mk A380
                      clear A380
                      by_cases c39 : t179 = 0
                      · rw [if_pos c39] at H
                        have c39b0 : (t179 == 0) = true := beq_iff_eq.mpr c39
                        have c39b1 : (t179 != 0) = false := bne_eq_false_iff_eq.mpr c39
                        clear c39
                        by_cases c40 : t175 = 30
                        · rw [if_pos c40] at H
                          have c40b0 : (t175 == 30) = true := beq_iff_eq.mpr c40
                          have c40b1 : (t175 != 30) = false := bne_eq_false_iff_eq.mpr c40
                          clear c40
                          by_cases c41 : t173 = 0
                          · rw [if_pos c41] at H
                            have c41b0 : (t173 == 0) = true := beq_iff_eq.mpr c41
                            have c41b1 : (t173 != 0) = false := bne_eq_false_iff_eq.mpr c41
                            clear c41
                            obtain rfl := Option.some.inj H
                            go_wp2_with (first | ((with_reducible refine gate_callee (f := 16) rfl ?_); refine goesL_ (some 148) rfl rfl Tryd.func16 (by kernel_rfl) rfl #[.int .i64 a0] rfl (by (try simp only [List.map_toArray, List.map_cons, List.map_nil]); first | done | rfl | (simp only [List.length_drop, List.length_take]; rfl)) ?_; (with_reducible refine (conclaveref03_Level.calls kj26 a0 t179 _ A38.out).mono ?_); rintro e w' ⟨rfl, ⟨nd, rfl⟩⟩; refine ⟨_, rfl, ?_⟩))
                            go_ret
                            exact ⟨by first | rfl | (simp [errW_none, errW_some] <;> rfl) | (simp [*, errW_none, errW_some] <;> rfl), by repeat (first | (with_reducible first | exact HB.out | apply below_alloc | apply pw_below_drewN | apply below_drew1) | exact HB.out)⟩
                          · rw [if_neg c41] at H
                            have c41b0 : (t173 == 0) = false := beq_eq_false_iff_ne.mpr c41
                            have c41b1 : (t173 != 0) = true := bne_iff_ne.mpr c41
                            obtain rfl := Option.some.inj H
                            go_wp2_with (first | ((with_reducible refine gate_callee (f := 16) rfl ?_); refine goesL_ (some 148) rfl rfl Tryd.func16 (by kernel_rfl) rfl #[.int .i64 a0] rfl (by (try simp only [List.map_toArray, List.map_cons, List.map_nil]); first | done | rfl | (simp only [List.length_drop, List.length_take]; rfl)) ?_; (with_reducible refine (conclaveref03_Level.calls kj26 a0 t179 _ A38.out).mono ?_); rintro e w' ⟨rfl, ⟨nd, rfl⟩⟩; refine ⟨_, rfl, ?_⟩))
                            go_ret
                            exact ⟨by first | rfl | (simp [errW_none, errW_some] <;> rfl) | (simp [*, errW_none, errW_some] <;> rfl), by repeat (first | (with_reducible first | exact HB.out | apply below_alloc | apply pw_below_drewN | apply below_drew1) | exact HB.out)⟩
                        · rw [if_neg c40] at H
                          have c40b0 : (t175 == 30) = false := beq_eq_false_iff_ne.mpr c40
                          have c40b1 : (t175 != 30) = true := bne_iff_ne.mpr c40
                          obtain rfl := Option.some.inj H
                          go_wp2_with (first | ((with_reducible refine gate_callee (f := 16) rfl ?_); refine goesL_ (some 148) rfl rfl Tryd.func16 (by kernel_rfl) rfl #[.int .i64 a0] rfl (by (try simp only [List.map_toArray, List.map_cons, List.map_nil]); first | done | rfl | (simp only [List.length_drop, List.length_take]; rfl)) ?_; (with_reducible refine (conclaveref03_Level.calls kj26 a0 t179 _ A38.out).mono ?_); rintro e w' ⟨rfl, ⟨nd, rfl⟩⟩; refine ⟨_, rfl, ?_⟩))
                          go_ret
                          exact ⟨by first | rfl | (simp [errW_none, errW_some] <;> rfl) | (simp [*, errW_none, errW_some] <;> rfl), by repeat (first | (with_reducible first | exact HB.out | apply below_alloc | apply pw_below_drewN | apply below_drew1) | exact HB.out)⟩
                      · rw [if_neg c39] at H
                        have c39b0 : (t179 == 0) = false := beq_eq_false_iff_ne.mpr c39
                        have c39b1 : (t179 != 0) = true := bne_iff_ne.mpr c39
                        by_cases c42 : t175 = 0
                        · rw [if_pos c42] at H
                          have c42b0 : (t175 == 0) = true := beq_iff_eq.mpr c42
                          have c42b1 : (t175 != 0) = false := bne_eq_false_iff_eq.mpr c42
                          clear c42
                          by_cases c43 : t173 < a0
                          · rw [if_pos c43] at H
                            have c43b0 : decide (t173 < a0) = true := decide_eq_true c43
                            clear c43
                            by_cases c44 : a0 < t174
                            · rw [if_pos c44] at H
                              have c44b0 : decide (a0 < t174) = true := decide_eq_true c44
                              clear c44
                              replace H := Option.bind_eq_some_iff.mp H
                              obtain ⟨t180, A450, H⟩ := H
                              replace H : (if t180 = a0 then ((conclaveref03_Parent.f kj26 t174 a1).bind fun t181 => (some (t181 == a0))) else (some false)) = some r := H
                              have A45 := Aside0.mk A450
                              clear A450
                              by_cases c46 : t180 = a0
                              · rw [if_pos c46] at H
                                have c46b0 : (t180 == a0) = true := beq_iff_eq.mpr c46
                                have c46b1 : (t180 != a0) = false := bne_eq_false_iff_eq.mpr c46
                                clear c46
                                replace H := Option.bind_eq_some_iff.mp H
                                obtain ⟨t181, A470, H⟩ := H
                                replace H : (some (t181 == a0)) = some r := H
                                have A47 := Aside0.mk A470
                                clear A470
                                obtain rfl := Option.some.inj H
                                go_wp2_with (first | ((with_reducible refine gate_callee (f := 16) rfl ?_); refine goesL_ (some 148) rfl rfl Tryd.func16 (by kernel_rfl) rfl #[.int .i64 a0] rfl (by (try simp only [List.map_toArray, List.map_cons, List.map_nil]); first | done | rfl | (simp only [List.length_drop, List.length_take]; rfl)) ?_; (with_reducible refine (conclaveref03_Level.calls kj26 a0 t179 _ A38.out).mono ?_); rintro e w' ⟨rfl, ⟨nd, rfl⟩⟩; refine ⟨_, rfl, ?_⟩) | (go_at_call 21; (with_reducible refine (conclaveref03_Parent.calls kj26 t173 a1 t180 _ A45.out).mono ?_); rintro e w' ⟨rfl, ⟨nd, rfl⟩⟩) | (go_at_call 21; (with_reducible refine (conclaveref03_Parent.calls kj26 t174 a1 t181 _ A47.out).mono ?_); rintro e w' ⟨rfl, ⟨nd, rfl⟩⟩))
                                go_ret
                                exact ⟨by first | rfl | (simp [errW_none, errW_some] <;> rfl) | (simp [*, errW_none, errW_some] <;> rfl), by repeat (first | (with_reducible first | exact HB.out | apply below_alloc | apply pw_below_drewN | apply below_drew1) | exact HB.out)⟩
                              · rw [if_neg c46] at H
                                have c46b0 : (t180 == a0) = false := beq_eq_false_iff_ne.mpr c46
                                have c46b1 : (t180 != a0) = true := bne_iff_ne.mpr c46
                                obtain rfl := Option.some.inj H
                                go_wp2_with (first | ((with_reducible refine gate_callee (f := 16) rfl ?_); refine goesL_ (some 148) rfl rfl Tryd.func16 (by kernel_rfl) rfl #[.int .i64 a0] rfl (by (try simp only [List.map_toArray, List.map_cons, List.map_nil]); first | done | rfl | (simp only [List.length_drop, List.length_take]; rfl)) ?_; (with_reducible refine (conclaveref03_Level.calls kj26 a0 t179 _ A38.out).mono ?_); rintro e w' ⟨rfl, ⟨nd, rfl⟩⟩; refine ⟨_, rfl, ?_⟩) | (go_at_call 21; (with_reducible refine (conclaveref03_Parent.calls kj26 t173 a1 t180 _ A45.out).mono ?_); rintro e w' ⟨rfl, ⟨nd, rfl⟩⟩))
                                go_ret
                                exact ⟨by first | rfl | (simp [errW_none, errW_some] <;> rfl) | (simp [*, errW_none, errW_some] <;> rfl), by repeat (first | (with_reducible first | exact HB.out | apply below_alloc | apply pw_below_drewN | apply below_drew1) | exact HB.out)⟩
                            · rw [if_neg c44] at H
                              have c44b0 : decide (a0 < t174) = false := decide_eq_false c44
                              clear c44
                              obtain rfl := Option.some.inj H
                              go_wp2_with (first | ((with_reducible refine gate_callee (f := 16) rfl ?_); refine goesL_ (some 148) rfl rfl Tryd.func16 (by kernel_rfl) rfl #[.int .i64 a0] rfl (by (try simp only [List.map_toArray, List.map_cons, List.map_nil]); first | done | rfl | (simp only [List.length_drop, List.length_take]; rfl)) ?_; (with_reducible refine (conclaveref03_Level.calls kj26 a0 t179 _ A38.out).mono ?_); rintro e w' ⟨rfl, ⟨nd, rfl⟩⟩; refine ⟨_, rfl, ?_⟩))
                              go_ret
                              exact ⟨by first | rfl | (simp [errW_none, errW_some] <;> rfl) | (simp [*, errW_none, errW_some] <;> rfl), by repeat (first | (with_reducible first | exact HB.out | apply below_alloc | apply pw_below_drewN | apply below_drew1) | exact HB.out)⟩
                          · rw [if_neg c43] at H
                            have c43b0 : decide (t173 < a0) = false := decide_eq_false c43
                            clear c43
                            obtain rfl := Option.some.inj H
                            go_wp2_with (first | ((with_reducible refine gate_callee (f := 16) rfl ?_); refine goesL_ (some 148) rfl rfl Tryd.func16 (by kernel_rfl) rfl #[.int .i64 a0] rfl (by (try simp only [List.map_toArray, List.map_cons, List.map_nil]); first | done | rfl | (simp only [List.length_drop, List.length_take]; rfl)) ?_; (with_reducible refine (conclaveref03_Level.calls kj26 a0 t179 _ A38.out).mono ?_); rintro e w' ⟨rfl, ⟨nd, rfl⟩⟩; refine ⟨_, rfl, ?_⟩))
                            go_ret
                            exact ⟨by first | rfl | (simp [errW_none, errW_some] <;> rfl) | (simp [*, errW_none, errW_some] <;> rfl), by repeat (first | (with_reducible first | exact HB.out | apply below_alloc | apply pw_below_drewN | apply below_drew1) | exact HB.out)⟩
                        · rw [if_neg c42] at H
                          have c42b0 : (t175 == 0) = false := beq_eq_false_iff_ne.mpr c42
                          have c42b1 : (t175 != 0) = true := bne_iff_ne.mpr c42
                          obtain rfl := Option.some.inj H
                          go_wp2_with (first | ((with_reducible refine gate_callee (f := 16) rfl ?_); refine goesL_ (some 148) rfl rfl Tryd.func16 (by kernel_rfl) rfl #[.int .i64 a0] rfl (by (try simp only [List.map_toArray, List.map_cons, List.map_nil]); first | done | rfl | (simp only [List.length_drop, List.length_take]; rfl)) ?_; (with_reducible refine (conclaveref03_Level.calls kj26 a0 t179 _ A38.out).mono ?_); rintro e w' ⟨rfl, ⟨nd, rfl⟩⟩; refine ⟨_, rfl, ?_⟩))
                          go_ret
                          exact ⟨by first | rfl | (simp [errW_none, errW_some] <;> rfl) | (simp [*, errW_none, errW_some] <;> rfl), by repeat (first | (with_reducible first | exact HB.out | apply below_alloc | apply pw_below_drewN | apply below_drew1) | exact HB.out)⟩
                · replace c25 := Bool.eq_false_iff.mpr c25
                  subst c25
                  have H1 : (if t170 = 30 then (if t172 = 30 then (if t175 = 30 then (if t169 = 0 then (if t171 = 0 then (if t173 = 0 then (some (t174 == 0)) else (some false)) else (some false)) else (some false)) else (some false)) else (some false)) else (some false)) = some r := by rw [if_neg (show ¬ (false = true) by decide)] at H; exact H
                  clear H
                  have H := H1
                  clear H1
                  by_cases c48 : t170 = 30
                  · rw [if_pos c48] at H
                    have c48b0 : (t170 == 30) = true := beq_iff_eq.mpr c48
                    have c48b1 : (t170 != 30) = false := bne_eq_false_iff_eq.mpr c48
                    clear c48
                    by_cases c49 : t172 = 30
                    · rw [if_pos c49] at H
                      have c49b0 : (t172 == 30) = true := beq_iff_eq.mpr c49
                      have c49b1 : (t172 != 30) = false := bne_eq_false_iff_eq.mpr c49
                      clear c49
                      by_cases c50 : t175 = 30
                      · rw [if_pos c50] at H
                        have c50b0 : (t175 == 30) = true := beq_iff_eq.mpr c50
                        have c50b1 : (t175 != 30) = false := bne_eq_false_iff_eq.mpr c50
                        clear c50
                        by_cases c51 : t169 = 0
                        · rw [if_pos c51] at H
                          have c51b0 : (t169 == 0) = true := beq_iff_eq.mpr c51
                          have c51b1 : (t169 != 0) = false := bne_eq_false_iff_eq.mpr c51
                          clear c51
                          by_cases c52 : t171 = 0
                          · rw [if_pos c52] at H
                            have c52b0 : (t171 == 0) = true := beq_iff_eq.mpr c52
                            have c52b1 : (t171 != 0) = false := bne_eq_false_iff_eq.mpr c52
                            clear c52
                            by_cases c53 : t173 = 0
                            · rw [if_pos c53] at H
                              have c53b0 : (t173 == 0) = true := beq_iff_eq.mpr c53
                              have c53b1 : (t173 != 0) = false := bne_eq_false_iff_eq.mpr c53
                              clear c53
                              obtain rfl := Option.some.inj H
                              go_wp2_with (first | ((with_reducible refine gate_callee (f := 18) rfl ?_); refine goesL_ (some 64) rfl rfl Tryd.func18 (by kernel_rfl) rfl #[.int .i64 a0, .int .i64 a1] rfl (by (try simp only [List.map_toArray, List.map_cons, List.map_nil]); first | done | rfl | (simp only [List.length_drop, List.length_take]; rfl)) ?_; (with_reducible refine (heap_Parent.calls (hrG := ?sideG) a0 a1 t169 t170 _ A21.out).mono ?_); (case sideG => (first | exact HRG.out | exact TabG.below HRG.out (by repeat (first | (with_reducible first | exact HB.out | apply below_alloc | apply pw_below_drewN | apply below_drew1) | exact HB.out | exact Below.refl _ _)))); rintro e w' ⟨rfl, ⟨nd, rfl⟩⟩; refine ⟨_, rfl, ?_⟩) | ((with_reducible refine gate_callee (f := 19) rfl ?_); refine goesL_ (some 70) rfl rfl Tryd.func19 (by kernel_rfl) rfl #[.int .i64 a0, .int .i64 a1] rfl (by (try simp only [List.map_toArray, List.map_cons, List.map_nil]); first | done | rfl | (simp only [List.length_drop, List.length_take]; rfl)) ?_; (with_reducible refine (heap_Sibling.calls (hrG := ?sideG) a0 a1 t171 t172 _ A22.out).mono ?_); (case sideG => (first | exact HRG.out | exact TabG.below HRG.out (by repeat (first | (with_reducible first | exact HB.out | apply below_alloc | apply pw_below_drewN | apply below_drew1) | exact HB.out | exact Below.refl _ _)))); rintro e w' ⟨rfl, ⟨nd, rfl⟩⟩; refine ⟨_, rfl, ?_⟩) | ((with_reducible refine gate_callee (f := 20) rfl ?_); refine goesL_ (some 76) rfl rfl Tryd.func20 (by kernel_rfl) rfl #[.int .i64 a0, .int .i64 a1] rfl (by (try simp only [List.map_toArray, List.map_cons, List.map_nil]); first | done | rfl | (simp only [List.length_drop, List.length_take]; rfl)) ?_; (with_reducible refine (heap_Children.calls (hrG := ?sideG) a0 a1 t173 t174 t175 _ A23.out).mono ?_); (case sideG => (first | exact HRG.out | exact TabG.below HRG.out (by repeat (first | (with_reducible first | exact HB.out | apply below_alloc | apply pw_below_drewN | apply below_drew1) | exact HB.out | exact Below.refl _ _)))); rintro e w' ⟨rfl, ⟨nd, rfl⟩⟩; refine ⟨_, rfl, ?_⟩) | ((with_reducible refine gate_callee (f := 11) rfl ?_); refine goesL_ (some 82) rfl rfl Tryd.func11 (by kernel_rfl) rfl #[.int .i64 a0, .int .i64 a1] rfl (by (try simp only [List.map_toArray, List.map_cons, List.map_nil]); first | done | rfl | (simp only [List.length_drop, List.length_take]; rfl)) ?_; (with_reducible refine (conclaveref03_In.calls a0 a1 false _ A24.out).mono ?_); rintro e w' ⟨rfl, ⟨nd, rfl⟩⟩; refine ⟨_, rfl, ?_⟩))
                              go_ret
                              exact ⟨by first | rfl | (simp [errW_none, errW_some] <;> rfl) | (simp [*, errW_none, errW_some] <;> rfl), by repeat (first | (with_reducible first | exact HB.out | apply below_alloc | apply pw_below_drewN | apply below_drew1) | exact HB.out)⟩
                            · rw [if_neg c53] at H
                              have c53b0 : (t173 == 0) = false := beq_eq_false_iff_ne.mpr c53
                              have c53b1 : (t173 != 0) = true := bne_iff_ne.mpr c53
                              obtain rfl := Option.some.inj H
                              go_wp2_with (first | ((with_reducible refine gate_callee (f := 18) rfl ?_); refine goesL_ (some 64) rfl rfl Tryd.func18 (by kernel_rfl) rfl #[.int .i64 a0, .int .i64 a1] rfl (by (try simp only [List.map_toArray, List.map_cons, List.map_nil]); first | done | rfl | (simp only [List.length_drop, List.length_take]; rfl)) ?_; (with_reducible refine (heap_Parent.calls (hrG := ?sideG) a0 a1 t169 t170 _ A21.out).mono ?_); (case sideG => (first | exact HRG.out | exact TabG.below HRG.out (by repeat (first | (with_reducible first | exact HB.out | apply below_alloc | apply pw_below_drewN | apply below_drew1) | exact HB.out | exact Below.refl _ _)))); rintro e w' ⟨rfl, ⟨nd, rfl⟩⟩; refine ⟨_, rfl, ?_⟩) | ((with_reducible refine gate_callee (f := 19) rfl ?_); refine goesL_ (some 70) rfl rfl Tryd.func19 (by kernel_rfl) rfl #[.int .i64 a0, .int .i64 a1] rfl (by (try simp only [List.map_toArray, List.map_cons, List.map_nil]); first | done | rfl | (simp only [List.length_drop, List.length_take]; rfl)) ?_; (with_reducible refine (heap_Sibling.calls (hrG := ?sideG) a0 a1 t171 t172 _ A22.out).mono ?_); (case sideG => (first | exact HRG.out | exact TabG.below HRG.out (by repeat (first | (with_reducible first | exact HB.out | apply below_alloc | apply pw_below_drewN | apply below_drew1) | exact HB.out | exact Below.refl _ _)))); rintro e w' ⟨rfl, ⟨nd, rfl⟩⟩; refine ⟨_, rfl, ?_⟩) | ((with_reducible refine gate_callee (f := 20) rfl ?_); refine goesL_ (some 76) rfl rfl Tryd.func20 (by kernel_rfl) rfl #[.int .i64 a0, .int .i64 a1] rfl (by (try simp only [List.map_toArray, List.map_cons, List.map_nil]); first | done | rfl | (simp only [List.length_drop, List.length_take]; rfl)) ?_; (with_reducible refine (heap_Children.calls (hrG := ?sideG) a0 a1 t173 t174 t175 _ A23.out).mono ?_); (case sideG => (first | exact HRG.out | exact TabG.below HRG.out (by repeat (first | (with_reducible first | exact HB.out | apply below_alloc | apply pw_below_drewN | apply below_drew1) | exact HB.out | exact Below.refl _ _)))); rintro e w' ⟨rfl, ⟨nd, rfl⟩⟩; refine ⟨_, rfl, ?_⟩) | ((with_reducible refine gate_callee (f := 11) rfl ?_); refine goesL_ (some 82) rfl rfl Tryd.func11 (by kernel_rfl) rfl #[.int .i64 a0, .int .i64 a1] rfl (by (try simp only [List.map_toArray, List.map_cons, List.map_nil]); first | done | rfl | (simp only [List.length_drop, List.length_take]; rfl)) ?_; (with_reducible refine (conclaveref03_In.calls a0 a1 false _ A24.out).mono ?_); rintro e w' ⟨rfl, ⟨nd, rfl⟩⟩; refine ⟨_, rfl, ?_⟩))
                              go_ret
                              exact ⟨by first | rfl | (simp [errW_none, errW_some] <;> rfl) | (simp [*, errW_none, errW_some] <;> rfl), by repeat (first | (with_reducible first | exact HB.out | apply below_alloc | apply pw_below_drewN | apply below_drew1) | exact HB.out)⟩
                          · rw [if_neg c52] at H
                            have c52b0 : (t171 == 0) = false := beq_eq_false_iff_ne.mpr c52
                            have c52b1 : (t171 != 0) = true := bne_iff_ne.mpr c52
                            obtain rfl := Option.some.inj H
                            go_wp2_with (first | ((with_reducible refine gate_callee (f := 18) rfl ?_); refine goesL_ (some 64) rfl rfl Tryd.func18 (by kernel_rfl) rfl #[.int .i64 a0, .int .i64 a1] rfl (by (try simp only [List.map_toArray, List.map_cons, List.map_nil]); first | done | rfl | (simp only [List.length_drop, List.length_take]; rfl)) ?_; (with_reducible refine (heap_Parent.calls (hrG := ?sideG) a0 a1 t169 t170 _ A21.out).mono ?_); (case sideG => (first | exact HRG.out | exact TabG.below HRG.out (by repeat (first | (with_reducible first | exact HB.out | apply below_alloc | apply pw_below_drewN | apply below_drew1) | exact HB.out | exact Below.refl _ _)))); rintro e w' ⟨rfl, ⟨nd, rfl⟩⟩; refine ⟨_, rfl, ?_⟩) | ((with_reducible refine gate_callee (f := 19) rfl ?_); refine goesL_ (some 70) rfl rfl Tryd.func19 (by kernel_rfl) rfl #[.int .i64 a0, .int .i64 a1] rfl (by (try simp only [List.map_toArray, List.map_cons, List.map_nil]); first | done | rfl | (simp only [List.length_drop, List.length_take]; rfl)) ?_; (with_reducible refine (heap_Sibling.calls (hrG := ?sideG) a0 a1 t171 t172 _ A22.out).mono ?_); (case sideG => (first | exact HRG.out | exact TabG.below HRG.out (by repeat (first | (with_reducible first | exact HB.out | apply below_alloc | apply pw_below_drewN | apply below_drew1) | exact HB.out | exact Below.refl _ _)))); rintro e w' ⟨rfl, ⟨nd, rfl⟩⟩; refine ⟨_, rfl, ?_⟩) | ((with_reducible refine gate_callee (f := 20) rfl ?_); refine goesL_ (some 76) rfl rfl Tryd.func20 (by kernel_rfl) rfl #[.int .i64 a0, .int .i64 a1] rfl (by (try simp only [List.map_toArray, List.map_cons, List.map_nil]); first | done | rfl | (simp only [List.length_drop, List.length_take]; rfl)) ?_; (with_reducible refine (heap_Children.calls (hrG := ?sideG) a0 a1 t173 t174 t175 _ A23.out).mono ?_); (case sideG => (first | exact HRG.out | exact TabG.below HRG.out (by repeat (first | (with_reducible first | exact HB.out | apply below_alloc | apply pw_below_drewN | apply below_drew1) | exact HB.out | exact Below.refl _ _)))); rintro e w' ⟨rfl, ⟨nd, rfl⟩⟩; refine ⟨_, rfl, ?_⟩) | ((with_reducible refine gate_callee (f := 11) rfl ?_); refine goesL_ (some 82) rfl rfl Tryd.func11 (by kernel_rfl) rfl #[.int .i64 a0, .int .i64 a1] rfl (by (try simp only [List.map_toArray, List.map_cons, List.map_nil]); first | done | rfl | (simp only [List.length_drop, List.length_take]; rfl)) ?_; (with_reducible refine (conclaveref03_In.calls a0 a1 false _ A24.out).mono ?_); rintro e w' ⟨rfl, ⟨nd, rfl⟩⟩; refine ⟨_, rfl, ?_⟩))
                            go_ret
                            exact ⟨by first | rfl | (simp [errW_none, errW_some] <;> rfl) | (simp [*, errW_none, errW_some] <;> rfl), by repeat (first | (with_reducible first | exact HB.out | apply below_alloc | apply pw_below_drewN | apply below_drew1) | exact HB.out)⟩
                        · rw [if_neg c51] at H
                          have c51b0 : (t169 == 0) = false := beq_eq_false_iff_ne.mpr c51
                          have c51b1 : (t169 != 0) = true := bne_iff_ne.mpr c51
                          obtain rfl := Option.some.inj H
                          go_wp2_with (first | ((with_reducible refine gate_callee (f := 18) rfl ?_); refine goesL_ (some 64) rfl rfl Tryd.func18 (by kernel_rfl) rfl #[.int .i64 a0, .int .i64 a1] rfl (by (try simp only [List.map_toArray, List.map_cons, List.map_nil]); first | done | rfl | (simp only [List.length_drop, List.length_take]; rfl)) ?_; (with_reducible refine (heap_Parent.calls (hrG := ?sideG) a0 a1 t169 t170 _ A21.out).mono ?_); (case sideG => (first | exact HRG.out | exact TabG.below HRG.out (by repeat (first | (with_reducible first | exact HB.out | apply below_alloc | apply pw_below_drewN | apply below_drew1) | exact HB.out | exact Below.refl _ _)))); rintro e w' ⟨rfl, ⟨nd, rfl⟩⟩; refine ⟨_, rfl, ?_⟩) | ((with_reducible refine gate_callee (f := 19) rfl ?_); refine goesL_ (some 70) rfl rfl Tryd.func19 (by kernel_rfl) rfl #[.int .i64 a0, .int .i64 a1] rfl (by (try simp only [List.map_toArray, List.map_cons, List.map_nil]); first | done | rfl | (simp only [List.length_drop, List.length_take]; rfl)) ?_; (with_reducible refine (heap_Sibling.calls (hrG := ?sideG) a0 a1 t171 t172 _ A22.out).mono ?_); (case sideG => (first | exact HRG.out | exact TabG.below HRG.out (by repeat (first | (with_reducible first | exact HB.out | apply below_alloc | apply pw_below_drewN | apply below_drew1) | exact HB.out | exact Below.refl _ _)))); rintro e w' ⟨rfl, ⟨nd, rfl⟩⟩; refine ⟨_, rfl, ?_⟩) | ((with_reducible refine gate_callee (f := 20) rfl ?_); refine goesL_ (some 76) rfl rfl Tryd.func20 (by kernel_rfl) rfl #[.int .i64 a0, .int .i64 a1] rfl (by (try simp only [List.map_toArray, List.map_cons, List.map_nil]); first | done | rfl | (simp only [List.length_drop, List.length_take]; rfl)) ?_; (with_reducible refine (heap_Children.calls (hrG := ?sideG) a0 a1 t173 t174 t175 _ A23.out).mono ?_); (case sideG => (first | exact HRG.out | exact TabG.below HRG.out (by repeat (first | (with_reducible first | exact HB.out | apply below_alloc | apply pw_below_drewN | apply below_drew1) | exact HB.out | exact Below.refl _ _)))); rintro e w' ⟨rfl, ⟨nd, rfl⟩⟩; refine ⟨_, rfl, ?_⟩) | ((with_reducible refine gate_callee (f := 11) rfl ?_); refine goesL_ (some 82) rfl rfl Tryd.func11 (by kernel_rfl) rfl #[.int .i64 a0, .int .i64 a1] rfl (by (try simp only [List.map_toArray, List.map_cons, List.map_nil]); first | done | rfl | (simp only [List.length_drop, List.length_take]; rfl)) ?_; (with_reducible refine (conclaveref03_In.calls a0 a1 false _ A24.out).mono ?_); rintro e w' ⟨rfl, ⟨nd, rfl⟩⟩; refine ⟨_, rfl, ?_⟩))
                          go_ret
                          exact ⟨by first | rfl | (simp [errW_none, errW_some] <;> rfl) | (simp [*, errW_none, errW_some] <;> rfl), by repeat (first | (with_reducible first | exact HB.out | apply below_alloc | apply pw_below_drewN | apply below_drew1) | exact HB.out)⟩
                      · rw [if_neg c50] at H
                        have c50b0 : (t175 == 30) = false := beq_eq_false_iff_ne.mpr c50
                        have c50b1 : (t175 != 30) = true := bne_iff_ne.mpr c50
                        obtain rfl := Option.some.inj H
                        go_wp2_with (first | ((with_reducible refine gate_callee (f := 18) rfl ?_); refine goesL_ (some 64) rfl rfl Tryd.func18 (by kernel_rfl) rfl #[.int .i64 a0, .int .i64 a1] rfl (by (try simp only [List.map_toArray, List.map_cons, List.map_nil]); first | done | rfl | (simp only [List.length_drop, List.length_take]; rfl)) ?_; (with_reducible refine (heap_Parent.calls (hrG := ?sideG) a0 a1 t169 t170 _ A21.out).mono ?_); (case sideG => (first | exact HRG.out | exact TabG.below HRG.out (by repeat (first | (with_reducible first | exact HB.out | apply below_alloc | apply pw_below_drewN | apply below_drew1) | exact HB.out | exact Below.refl _ _)))); rintro e w' ⟨rfl, ⟨nd, rfl⟩⟩; refine ⟨_, rfl, ?_⟩) | ((with_reducible refine gate_callee (f := 19) rfl ?_); refine goesL_ (some 70) rfl rfl Tryd.func19 (by kernel_rfl) rfl #[.int .i64 a0, .int .i64 a1] rfl (by (try simp only [List.map_toArray, List.map_cons, List.map_nil]); first | done | rfl | (simp only [List.length_drop, List.length_take]; rfl)) ?_; (with_reducible refine (heap_Sibling.calls (hrG := ?sideG) a0 a1 t171 t172 _ A22.out).mono ?_); (case sideG => (first | exact HRG.out | exact TabG.below HRG.out (by repeat (first | (with_reducible first | exact HB.out | apply below_alloc | apply pw_below_drewN | apply below_drew1) | exact HB.out | exact Below.refl _ _)))); rintro e w' ⟨rfl, ⟨nd, rfl⟩⟩; refine ⟨_, rfl, ?_⟩) | ((with_reducible refine gate_callee (f := 20) rfl ?_); refine goesL_ (some 76) rfl rfl Tryd.func20 (by kernel_rfl) rfl #[.int .i64 a0, .int .i64 a1] rfl (by (try simp only [List.map_toArray, List.map_cons, List.map_nil]); first | done | rfl | (simp only [List.length_drop, List.length_take]; rfl)) ?_; (with_reducible refine (heap_Children.calls (hrG := ?sideG) a0 a1 t173 t174 t175 _ A23.out).mono ?_); (case sideG => (first | exact HRG.out | exact TabG.below HRG.out (by repeat (first | (with_reducible first | exact HB.out | apply below_alloc | apply pw_below_drewN | apply below_drew1) | exact HB.out | exact Below.refl _ _)))); rintro e w' ⟨rfl, ⟨nd, rfl⟩⟩; refine ⟨_, rfl, ?_⟩) | ((with_reducible refine gate_callee (f := 11) rfl ?_); refine goesL_ (some 82) rfl rfl Tryd.func11 (by kernel_rfl) rfl #[.int .i64 a0, .int .i64 a1] rfl (by (try simp only [List.map_toArray, List.map_cons, List.map_nil]); first | done | rfl | (simp only [List.length_drop, List.length_take]; rfl)) ?_; (with_reducible refine (conclaveref03_In.calls a0 a1 false _ A24.out).mono ?_); rintro e w' ⟨rfl, ⟨nd, rfl⟩⟩; refine ⟨_, rfl, ?_⟩))
                        go_ret
                        exact ⟨by first | rfl | (simp [errW_none, errW_some] <;> rfl) | (simp [*, errW_none, errW_some] <;> rfl), by repeat (first | (with_reducible first | exact HB.out | apply below_alloc | apply pw_below_drewN | apply below_drew1) | exact HB.out)⟩
                    · rw [if_neg c49] at H
                      have c49b0 : (t172 == 30) = false := beq_eq_false_iff_ne.mpr c49
                      have c49b1 : (t172 != 30) = true := bne_iff_ne.mpr c49
                      obtain rfl := Option.some.inj H
                      go_wp2_with (first | ((with_reducible refine gate_callee (f := 18) rfl ?_); refine goesL_ (some 64) rfl rfl Tryd.func18 (by kernel_rfl) rfl #[.int .i64 a0, .int .i64 a1] rfl (by (try simp only [List.map_toArray, List.map_cons, List.map_nil]); first | done | rfl | (simp only [List.length_drop, List.length_take]; rfl)) ?_; (with_reducible refine (heap_Parent.calls (hrG := ?sideG) a0 a1 t169 t170 _ A21.out).mono ?_); (case sideG => (first | exact HRG.out | exact TabG.below HRG.out (by repeat (first | (with_reducible first | exact HB.out | apply below_alloc | apply pw_below_drewN | apply below_drew1) | exact HB.out | exact Below.refl _ _)))); rintro e w' ⟨rfl, ⟨nd, rfl⟩⟩; refine ⟨_, rfl, ?_⟩) | ((with_reducible refine gate_callee (f := 19) rfl ?_); refine goesL_ (some 70) rfl rfl Tryd.func19 (by kernel_rfl) rfl #[.int .i64 a0, .int .i64 a1] rfl (by (try simp only [List.map_toArray, List.map_cons, List.map_nil]); first | done | rfl | (simp only [List.length_drop, List.length_take]; rfl)) ?_; (with_reducible refine (heap_Sibling.calls (hrG := ?sideG) a0 a1 t171 t172 _ A22.out).mono ?_); (case sideG => (first | exact HRG.out | exact TabG.below HRG.out (by repeat (first | (with_reducible first | exact HB.out | apply below_alloc | apply pw_below_drewN | apply below_drew1) | exact HB.out | exact Below.refl _ _)))); rintro e w' ⟨rfl, ⟨nd, rfl⟩⟩; refine ⟨_, rfl, ?_⟩) | ((with_reducible refine gate_callee (f := 20) rfl ?_); refine goesL_ (some 76) rfl rfl Tryd.func20 (by kernel_rfl) rfl #[.int .i64 a0, .int .i64 a1] rfl (by (try simp only [List.map_toArray, List.map_cons, List.map_nil]); first | done | rfl | (simp only [List.length_drop, List.length_take]; rfl)) ?_; (with_reducible refine (heap_Children.calls (hrG := ?sideG) a0 a1 t173 t174 t175 _ A23.out).mono ?_); (case sideG => (first | exact HRG.out | exact TabG.below HRG.out (by repeat (first | (with_reducible first | exact HB.out | apply below_alloc | apply pw_below_drewN | apply below_drew1) | exact HB.out | exact Below.refl _ _)))); rintro e w' ⟨rfl, ⟨nd, rfl⟩⟩; refine ⟨_, rfl, ?_⟩) | ((with_reducible refine gate_callee (f := 11) rfl ?_); refine goesL_ (some 82) rfl rfl Tryd.func11 (by kernel_rfl) rfl #[.int .i64 a0, .int .i64 a1] rfl (by (try simp only [List.map_toArray, List.map_cons, List.map_nil]); first | done | rfl | (simp only [List.length_drop, List.length_take]; rfl)) ?_; (with_reducible refine (conclaveref03_In.calls a0 a1 false _ A24.out).mono ?_); rintro e w' ⟨rfl, ⟨nd, rfl⟩⟩; refine ⟨_, rfl, ?_⟩))
                      go_ret
                      exact ⟨by first | rfl | (simp [errW_none, errW_some] <;> rfl) | (simp [*, errW_none, errW_some] <;> rfl), by repeat (first | (with_reducible first | exact HB.out | apply below_alloc | apply pw_below_drewN | apply below_drew1) | exact HB.out)⟩
                  · rw [if_neg c48] at H
                    have c48b0 : (t170 == 30) = false := beq_eq_false_iff_ne.mpr c48
                    have c48b1 : (t170 != 30) = true := bne_iff_ne.mpr c48
                    obtain rfl := Option.some.inj H
                    go_wp2_with (first | ((with_reducible refine gate_callee (f := 18) rfl ?_); refine goesL_ (some 64) rfl rfl Tryd.func18 (by kernel_rfl) rfl #[.int .i64 a0, .int .i64 a1] rfl (by (try simp only [List.map_toArray, List.map_cons, List.map_nil]); first | done | rfl | (simp only [List.length_drop, List.length_take]; rfl)) ?_; (with_reducible refine (heap_Parent.calls (hrG := ?sideG) a0 a1 t169 t170 _ A21.out).mono ?_); (case sideG => (first | exact HRG.out | exact TabG.below HRG.out (by repeat (first | (with_reducible first | exact HB.out | apply below_alloc | apply pw_below_drewN | apply below_drew1) | exact HB.out | exact Below.refl _ _)))); rintro e w' ⟨rfl, ⟨nd, rfl⟩⟩; refine ⟨_, rfl, ?_⟩) | ((with_reducible refine gate_callee (f := 19) rfl ?_); refine goesL_ (some 70) rfl rfl Tryd.func19 (by kernel_rfl) rfl #[.int .i64 a0, .int .i64 a1] rfl (by (try simp only [List.map_toArray, List.map_cons, List.map_nil]); first | done | rfl | (simp only [List.length_drop, List.length_take]; rfl)) ?_; (with_reducible refine (heap_Sibling.calls (hrG := ?sideG) a0 a1 t171 t172 _ A22.out).mono ?_); (case sideG => (first | exact HRG.out | exact TabG.below HRG.out (by repeat (first | (with_reducible first | exact HB.out | apply below_alloc | apply pw_below_drewN | apply below_drew1) | exact HB.out | exact Below.refl _ _)))); rintro e w' ⟨rfl, ⟨nd, rfl⟩⟩; refine ⟨_, rfl, ?_⟩) | ((with_reducible refine gate_callee (f := 20) rfl ?_); refine goesL_ (some 76) rfl rfl Tryd.func20 (by kernel_rfl) rfl #[.int .i64 a0, .int .i64 a1] rfl (by (try simp only [List.map_toArray, List.map_cons, List.map_nil]); first | done | rfl | (simp only [List.length_drop, List.length_take]; rfl)) ?_; (with_reducible refine (heap_Children.calls (hrG := ?sideG) a0 a1 t173 t174 t175 _ A23.out).mono ?_); (case sideG => (first | exact HRG.out | exact TabG.below HRG.out (by repeat (first | (with_reducible first | exact HB.out | apply below_alloc | apply pw_below_drewN | apply below_drew1) | exact HB.out | exact Below.refl _ _)))); rintro e w' ⟨rfl, ⟨nd, rfl⟩⟩; refine ⟨_, rfl, ?_⟩) | ((with_reducible refine gate_callee (f := 11) rfl ?_); refine goesL_ (some 82) rfl rfl Tryd.func11 (by kernel_rfl) rfl #[.int .i64 a0, .int .i64 a1] rfl (by (try simp only [List.map_toArray, List.map_cons, List.map_nil]); first | done | rfl | (simp only [List.length_drop, List.length_take]; rfl)) ?_; (with_reducible refine (conclaveref03_In.calls a0 a1 false _ A24.out).mono ?_); rintro e w' ⟨rfl, ⟨nd, rfl⟩⟩; refine ⟨_, rfl, ?_⟩))
                    go_ret
                    exact ⟨by first | rfl | (simp [errW_none, errW_some] <;> rfl) | (simp [*, errW_none, errW_some] <;> rfl), by repeat (first | (with_reducible first | exact HB.out | apply below_alloc | apply pw_below_drewN | apply below_drew1) | exact HB.out)⟩
  · replace c4 := Bool.eq_false_iff.mpr c4
    subst c4
    have H1 : (some false) = some r := by rw [if_neg (show ¬ (false = true) by decide)] at H; exact H
    clear H
    have H := H1
    clear H1
    obtain rfl := Option.some.inj H
    go_enter Tryd.func4, Tryd.ntmps4
    go_wp2_with (first | ((with_reducible refine gate_callee (f := 9) rfl ?_); refine goesL_ (some 15) rfl rfl Tryd.func9 (by kernel_rfl) rfl #[] rfl (by (try simp only [List.map_toArray, List.map_cons, List.map_nil]); first | done | rfl | (simp only [List.length_drop, List.length_take]; rfl)) ?_; (with_reducible refine (conclavelaw03_anchor.calls (hrG := ?sideG) k  false _ A3.out).mono ?_); (case sideG => (first | exact HRG.out | exact TabG.below HRG.out (by repeat (first | (with_reducible first | exact HB.out | apply below_alloc | apply pw_below_drewN | apply below_drew1) | exact HB.out | exact Below.refl _ _)))); rintro e w54 ⟨rfl, hb⟩; refine ⟨_, rfl, ?_⟩; have n0_ := Aside0.mk (below_step (by repeat (first | (with_reducible first | exact HB.out | apply below_alloc | apply pw_below_drewN | apply below_drew1) | exact HB.out)) hb); clear HB; have HB := n0_; clear n0_; (try clear hb); (try clear hb2); (try clear hk); (try clear hi)))
    go_ret
    exact ⟨by first | rfl | (simp [errW_none, errW_some] <;> rfl) | (simp [*, errW_none, errW_some] <;> rfl), by repeat (first | (with_reducible first | exact HB.out | apply below_alloc | apply pw_below_drewN | apply below_drew1) | exact HB.out)⟩

/-- THE ONE PURE STATEMENT of conclavelaw03_HeapPlaces: yours. -/
def conclavelaw03_HeapPlaces.Pure : Prop := ∀ (a0 : Int) (a1 : Int), (Lit.int .i64 a0).wf = true → (Lit.int .i64 a1).wf = true → ∃ k, conclavelaw03_HeapPlaces.f k a0 a1 = some true
theorem conclavelaw03_HeapPlaces.walk (P : conclavelaw03_HeapPlaces.Pure) (a0 : Int) (a1 : Int) (w : World) (hrG : TabG w) (w0 : (Lit.int .i64 a0).wf = true) (w1 : (Lit.int .i64 a1).wf = true) :
    Calls Tryd.prog 4 #[.int .i64 a0, .int .i64 a1] w fun e w' => e = .returned (.bool true) ∧ Below w.heap.size w w' := by
  obtain ⟨k, h⟩ := P a0 a1 w0 w1
  refine (conclavelaw03_HeapPlaces.calls (hrG := hrG) k a0 a1 true w h).mono ?_
  rintro e w' ⟨rfl, hd⟩
  exact ⟨rfl, hd⟩

end Go.Proofs.YtmioejkhhcjfpaaDoor.PHe
