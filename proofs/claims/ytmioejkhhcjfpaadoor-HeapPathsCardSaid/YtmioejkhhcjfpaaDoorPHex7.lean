-- Written by a program of this session over the translation.
import Derived.Test.YtmioejkhhcjfpaaDoorPHex0
import Derived.Test.YtmioejkhhcjfpaaDoorPHex1
import Derived.Test.YtmioejkhhcjfpaaDoorPHex2
import Derived.Test.YtmioejkhhcjfpaaDoorPHex4
import Derived.Test.YtmioejkhhcjfpaaDoorPHex6
namespace Go.Proofs.YtmioejkhhcjfpaaDoor.PHe
open Go.RowKit Go.Proofs.YtmioejkhhcjfpaaDoorW.PrintWords Go.Proofs.YtmioejkhhcjfpaaDoorW.PrintLast Go.Proofs.YtmioejkhhcjfpaaDoorW.PrintMore
attribute [local go_sem] max2_int min2_int max_two min_two max_three min_three max_four min_four   -- for this text's walks alone
set_option linter.unusedVariables false
set_option linter.unusedSimpArgs false

/-! ### conclaveref03_Copath: function 29 -/
def conclaveref03_Copath.l0 : Nat → Int → Int → List Int → Option (List Int)
  | 0, _, _, _ => none
  | k + 1, x0, x1, x5 => (conclaveref03_Parent.f k x0 x1).bind fun t208 => (if t208 ≥ 0 then ((conclaveref03_Sibling.f k x0 x1).bind fun t209 => (if x5.length < 17592186044416 then ((conclaveref03_Parent.f k x0 x1).bind fun t213 => (conclaveref03_Copath.l0 k t213 x1 (x5 ++ [t209]))) else (none))) else (some x5))
def conclaveref03_Copath.f (k : Nat) (a0 : Int) (a1 : Int) : Option (List Int) := conclaveref03_Copath.l0 k a0 a1 ([] : List Int)
theorem conclaveref03_Copath.mono_l : ∀ k, (∀ y0 y1 y2, LeO (conclaveref03_Copath.l0 k y0 y1 y2) (conclaveref03_Copath.l0 (k + 1) y0 y1 y2))
  | 0 => fun _ _ _ r h => by simp [conclaveref03_Copath.l0] at h
  | k + 1 => by
    have ih0 := conclaveref03_Copath.mono_l k
    · intro y0 y1 y2
      unfold conclaveref03_Copath.l0
      repeat' first
      | (with_reducible exact ih0 _ _ _)
      | (with_reducible exact conclaveref03_Parent.mono _ _ _)
      | (with_reducible exact conclaveref03_Sibling.mono _ _ _)
      | (with_reducible exact LeO.refl _)
      | (with_reducible exact LeO.none _)
      | (with_reducible refine LeO.ite ?_ ?_)
      | (with_reducible refine LeO.bind ?_ (fun _ => ?_))
      | exact ih0 _ _ _
      | exact conclaveref03_Parent.mono _ _ _
      | exact conclaveref03_Sibling.mono _ _ _
      | exact LeO.none _
      | refine LeO.ite ?_ ?_
      | refine LeO.bind ?_ (fun _ => ?_)
theorem conclaveref03_Copath.mono : ∀ a0 a1 k, LeO (conclaveref03_Copath.f k a0 a1) (conclaveref03_Copath.f (k + 1) a0 a1) := by
  intro a0 a1 k
  have ih0 := conclaveref03_Copath.mono_l k
  unfold conclaveref03_Copath.f
  repeat' first
      | (with_reducible exact ih0 _ _ _)
      | (with_reducible exact conclaveref03_Parent.mono _ _ _)
      | (with_reducible exact conclaveref03_Sibling.mono _ _ _)
      | (with_reducible exact LeO.refl _)
      | (with_reducible exact LeO.none _)
      | (with_reducible refine LeO.ite ?_ ?_)
      | (with_reducible refine LeO.bind ?_ (fun _ => ?_))
      | exact ih0 _ _ _
      | exact conclaveref03_Parent.mono _ _ _
      | exact conclaveref03_Sibling.mono _ _ _
      | exact LeO.none _
      | refine LeO.ite ?_ ?_
      | refine LeO.bind ?_ (fun _ => ?_)
set_option maxHeartbeats 8000000 in
set_option maxRecDepth 100000 in
theorem conclaveref03_Copath.calls (k : Nat) (a0 : Int) (a1 : Int) (r : List Int) (w : World) (h : conclaveref03_Copath.f k a0 a1 = some r) :
    Calls Tryd.prog 29 #[.int .i64 a0, .int .i64 a1] w fun e w' => ∃ v0_ : Value, e = .returned (v0_) ∧ Kd.R (Kd.int .i64) 3 w' w.heap.size (fun _ => True) v0_ r ∧ Below w.heap.size w w' := by
  have HB := Aside0.mk (Below.refl w.heap.size w)
  have H : (conclaveref03_Copath.l0 k a0 a1 ([] : List Int)) = some r := h
  clear h
  have H' := Aside0.mk H
  clear H
  go_enter Tryd.func29, Tryd.ntmps29
  go_wp2
  go_loopg [0, 5] k (fun kq v0 v5 w' => ∃ (x0_1 : Int) (x5_1 : List Int), v0 = .int .i64 x0_1 ∧ Aside0 (conclaveref03_Copath.l0 kq x0_1 a1 x5_1 = some r) ∧ Aside0 (kq ≤ k) ∧ Aside0 (Kd.R (Kd.int .i64) 3 w' w.heap.size (fun _ => True) v5 x5_1) ∧ Aside0 (Below w.heap.size w w'))
  case atStart => exact ⟨(a0), (([] : List Int)), (by first | rfl | (simp; done) | (simp [*]; done)), H', ⟨Nat.le_refl _⟩, ⟨by first | exact Kd.R_nil _ _ _ _ _ | exact Kd.N_nil _ _ _ _ _ | exact Kd.V_nil _ _ _ _ _ | exact Kd.Q_nil _ _ _ _ _ | exact Kd.S_nil _ _ _ _ _⟩, ⟨by repeat (first | (with_reducible first | exact HB.out | apply below_alloc | apply pw_below_drewN | apply below_drew1) | exact HB.out)⟩⟩
  case round =>
    clear H'
    try clear c2
    try clear p2
    obtain ⟨x0_1, x5_1, rfl, HA, HK1, HO_5, HB⟩ := hrel
    cases gk with
    | zero => exact absurd HA.out (by simp [conclaveref03_Copath.l0])
    | succ k1 =>
      have H := HA.out
      clear HA
      simp only [conclaveref03_Copath.l0] at H
      replace H := Option.bind_eq_some_iff.mp H
      obtain ⟨t208, A30, H⟩ := H
      replace H : (if t208 ≥ 0 then ((conclaveref03_Sibling.f k1 x0_1 a1).bind fun t209 => (if x5_1.length < 17592186044416 then ((conclaveref03_Parent.f k1 x0_1 a1).bind fun t213 => (conclaveref03_Copath.l0 k1 t213 a1 (x5_1 ++ [t209]))) else (none))) else (some x5_1)) = some r := H
      have A3 := Aside0.mk A30
      clear A30
      by_cases c4 : t208 ≥ 0
      · rw [if_pos c4] at H
        have c4b0 : decide (0 ≤ t208) = true := decide_eq_true c4
        clear c4
        replace H := Option.bind_eq_some_iff.mp H
        obtain ⟨t209, A50, H⟩ := H
        replace H : (if x5_1.length < 17592186044416 then ((conclaveref03_Parent.f k1 x0_1 a1).bind fun t213 => (conclaveref03_Copath.l0 k1 t213 a1 (x5_1 ++ [t209]))) else (none)) = some r := H
        have A5 := Aside0.mk A50
        clear A50
        by_cases c6 : x5_1.length < 17592186044416
        · rw [if_pos c6] at H
          have LMc6 := Aside0.mk c6
          clear c6
          obtain ⟨y210, hy210⟩ : ∃ y_ : List Int, y_ = (x5_1 ++ [t209]) := ⟨_, rfl⟩
          replace H : ((conclaveref03_Parent.f k1 x0_1 a1).bind fun t213 => (conclaveref03_Copath.l0 k1 t213 a1 y210)) = some r := by first | (rw [hy210]; with_reducible exact H) | (have H2_ := (Option.bind_some _ _).symm.trans H; rw [hy210]; with_reducible exact H2_) | (have H2_ := (Option.bind_some _ _).symm.trans H; with_reducible exact H2_) | with_reducible exact H | (rw [hy210]; exact H) | exact H
          have Ny210 := Aside0.mk hy210
          clear hy210
          replace H := Option.bind_eq_some_iff.mp H
          obtain ⟨t213, A70, H⟩ := H
          replace H : (conclaveref03_Copath.l0 k1 t213 a1 y210) = some r := H
          have A7 := Aside0.mk A70
          clear A70
          have H' := Aside0.mk H
          clear H
          go_wp2_with (first | ((with_reducible refine gate_callee (f := 21) rfl ?_); refine goesL_ (some 9) rfl rfl Tryd.func21 (by kernel_rfl) rfl #[.int .i64 x0_1, .int .i64 a1] rfl (by (try simp only [List.map_toArray, List.map_cons, List.map_nil]); first | done | rfl | (simp only [List.length_drop, List.length_take]; rfl)) ?_; (with_reducible refine (conclaveref03_Parent.calls k1 x0_1 a1 t208 _ A3.out).mono ?_); rintro e w' ⟨rfl, ⟨nd, rfl⟩⟩; refine ⟨_, rfl, ?_⟩) | ((with_reducible refine gate_callee (f := 22) rfl ?_); refine goesL_ (some 13) rfl rfl Tryd.func22 (by kernel_rfl) rfl #[.int .i64 x0_1, .int .i64 a1] rfl (by (try simp only [List.map_toArray, List.map_cons, List.map_nil]); first | done | rfl | (simp only [List.length_drop, List.length_take]; rfl)) ?_; (with_reducible refine (conclaveref03_Sibling.calls k1 x0_1 a1 t209 _ A5.out).mono ?_); rintro e w' ⟨rfl, ⟨nd, rfl⟩⟩; refine ⟨_, rfl, ?_⟩) | ((with_reducible refine gate_builtin (b := .append) (xs := #[.tmp 14, .tmp 16]) rfl ?_); at_builtin; refine Kd.R_append (Kd.int .i64) (w0 := w) w.heap.size rfl (.tmp 14) (.tmp 16) 23 3 (.int .i64 0) 8 rfl Tryd.underlying23 info3 rfl (by decide) (by omega) u5 x5_1 t209 [.int .i64 t209] (fun _ => True) (fun _ => False) rfl rfl ?aP (fun _ hk => hk.elim) ?aF ?aO ?aB ?aS ?aL ?_; (case aP => exact rfl); (case aB => exact (by repeat (first | (with_reducible first | exact HB.out | apply below_alloc | apply pw_below_drewN | apply below_drew1) | exact HB.out))); (case aF => exact (fun _ _ => trivial)); (case aO => exact (by (with_reducible repeat (first | apply Kd.R_alloc | apply Kd.R_drewN | apply Kd.R_drew)); exact HO_5.out)); (case aS => exact (below_size (by repeat (first | (with_reducible first | exact HB.out | apply below_alloc | apply pw_below_drewN | apply below_drew1) | exact HB.out)))); (case aL => have := LMc6.out; omega); intro v211 w8 ho hb hg hat; rw [← Ny210.out] at ho; have n0_ := Aside0.mk (hb); have n1_ := Aside0.mk (ho); clear HB; clear HO_5; have HB := n0_; have HO212 := n1_; clear n0_ n1_; clear ho hb hg hat) | ((with_reducible refine gate_callee (f := 21) rfl ?_); refine goesL_ (some 20) rfl rfl Tryd.func21 (by kernel_rfl) rfl #[.int .i64 x0_1, .int .i64 a1] rfl (by (try simp only [List.map_toArray, List.map_cons, List.map_nil]); first | done | rfl | (simp only [List.length_drop, List.length_take]; rfl)) ?_; (with_reducible refine (conclaveref03_Parent.calls k1 x0_1 a1 t213 _ A7.out).mono ?_); rintro e w' ⟨rfl, ⟨nd, rfl⟩⟩; refine ⟨_, rfl, ?_⟩))
          go_roundg k1
          case measure => have := HK1.out; omega
          case rel => exact ⟨(t213), (y210), (by first | rfl | (simp; done) | (simp [*]; done)), H', ⟨by have := HK1.out; omega⟩, ⟨by (with_reducible repeat (first | apply Kd.R_alloc | apply Kd.R_drewN | apply Kd.R_drew)); exact HO212.out⟩, ⟨by repeat (first | (with_reducible first | exact HB.out | apply below_alloc | apply pw_below_drewN | apply below_drew1) | exact HB.out)⟩⟩
        · rw [if_neg c6] at H
          exact absurd H (by simp)
      · rw [if_neg c4] at H
        have c4b0 : decide (0 ≤ t208) = false := decide_eq_false c4
        clear c4
        obtain rfl := Option.some.inj H
        go_wp2_with (first | ((with_reducible refine gate_callee (f := 21) rfl ?_); refine goesL_ (some 9) rfl rfl Tryd.func21 (by kernel_rfl) rfl #[.int .i64 x0_1, .int .i64 a1] rfl (by (try simp only [List.map_toArray, List.map_cons, List.map_nil]); first | done | rfl | (simp only [List.length_drop, List.length_take]; rfl)) ?_; (with_reducible refine (conclaveref03_Parent.calls k1 x0_1 a1 t208 _ A3.out).mono ?_); rintro e w' ⟨rfl, ⟨nd, rfl⟩⟩; refine ⟨_, rfl, ?_⟩))
        go_ret
        exact ⟨_, by first | rfl | (simp [errW_none, errW_some] <;> rfl) | (simp [*, errW_none, errW_some] <;> rfl), by (with_reducible repeat (first | apply Kd.R_alloc | apply Kd.R_drewN | apply Kd.R_drew)); exact HO_5.out, by repeat (first | (with_reducible first | exact HB.out | apply below_alloc | apply pw_below_drewN | apply below_drew1) | exact HB.out)⟩

/-! ### conclavelaw03_HeapPaths: function 6 -/
mutual
def conclavelaw03_HeapPaths.j0 : Nat → Int → Int → Int → List Int → Int → List Int → Int → Int → Int → Bool → Option (Bool)
  | 0, _, _, _, _, _, _, _, _, _, _ => none
  | k + 1, x0, x1, x2, x7, x8, x9, x10, x11, x12, x62 => if x62 = true then (if x12 = 0 then ((conclaveref03_Common.f k x0 x1 x2).bind fun t228 => (if x11 = t228 then (conclavelaw03_HeapPaths.j1 k x0 x2 x7 x8 x9 x10) else (some false))) else (some false)) else (if x12 = 30 then (if x11 = 0 then (conclavelaw03_HeapPaths.j1 k x0 x2 x7 x8 x9 x10) else (some false)) else (some false))
def conclavelaw03_HeapPaths.j1 : Nat → Int → Int → List Int → Int → List Int → Int → Option (Bool)
  | 0, _, _, _, _, _, _ => none
  | k + 1, x0, x2, x7, x8, x9, x10 => (conclaveref03_In.f x0 x2).bind fun t229 => (if t229 = true then (if x8 = 0 then (if x10 = 0 then ((conclaveref03_Path.f k x0 x2).bind fun t230 => ((conclaveref01_Ints.f k x7 t230).bind fun t233 => (if t233 = true then ((conclaveref03_Copath.f k x0 x2).bind fun t234 => ((conclaveref01_Ints.f k x9 t234).bind fun t237 => (some t237))) else (some false)))) else (some false)) else (some false)) else (if x8 = 30 then (if x10 = 30 then (if (x7.length : Int) = 0 then (some ((x9.length : Int) == 0)) else (some false)) else (some false)) else (some false)))
end
def conclavelaw03_HeapPaths.f (k : Nat) (a0 : Int) (a1 : Int) (a2 : Int) : Option (Bool) := (conclavelaw03_anchor.f k).bind fun t214 => (if t214 = true then ((heap_Path.f a0 a2).bind fun bt215 => ((heap_Copath.f a0 a2).bind fun bt219 => ((heap_Under.f k a0 a1 a2).bind fun t223 => ((conclaveref03_Under.f k a0 a1 a2).bind fun t224 => (if (t223 != t224) = true then (some false) else ((heap_Common.f k a0 a1 a2).bind fun bt225 => ((conclaveref03_Right.f a2).bind fun t227 => (if t227 = true then (if a0 ≥ 0 then (if a1 ≥ 0 then (if a0 < a2 then (conclavelaw03_HeapPaths.j0 k a0 a1 a2 bt215.1 bt215.2 bt219.1 bt219.2 bt225.1 bt225.2 (decide (a1 < a2))) else (conclavelaw03_HeapPaths.j0 k a0 a1 a2 bt215.1 bt215.2 bt219.1 bt219.2 bt225.1 bt225.2 false)) else (conclavelaw03_HeapPaths.j0 k a0 a1 a2 bt215.1 bt215.2 bt219.1 bt219.2 bt225.1 bt225.2 false)) else (conclavelaw03_HeapPaths.j0 k a0 a1 a2 bt215.1 bt215.2 bt219.1 bt219.2 bt225.1 bt225.2 false)) else (conclavelaw03_HeapPaths.j0 k a0 a1 a2 bt215.1 bt215.2 bt219.1 bt219.2 bt225.1 bt225.2 false))))))))) else (some false))
theorem conclavelaw03_HeapPaths.mono_l : ∀ k, (∀ y0 y1 y2 y3 y4 y5 y6 y7 y8 y9, LeO (conclavelaw03_HeapPaths.j0 k y0 y1 y2 y3 y4 y5 y6 y7 y8 y9) (conclavelaw03_HeapPaths.j0 (k + 1) y0 y1 y2 y3 y4 y5 y6 y7 y8 y9)) ∧ (∀ y0 y1 y2 y3 y4 y5, LeO (conclavelaw03_HeapPaths.j1 k y0 y1 y2 y3 y4 y5) (conclavelaw03_HeapPaths.j1 (k + 1) y0 y1 y2 y3 y4 y5))
  | 0 => ⟨fun _ _ _ _ _ _ _ _ _ _ r h => by simp [conclavelaw03_HeapPaths.j0] at h, fun _ _ _ _ _ _ r h => by simp [conclavelaw03_HeapPaths.j1] at h⟩
  | k + 1 => by
    obtain ⟨ih0, ih1⟩ := conclavelaw03_HeapPaths.mono_l k
    refine ⟨?_, ?_⟩
    · intro y0 y1 y2 y3 y4 y5 y6 y7 y8 y9
      unfold conclavelaw03_HeapPaths.j0
      repeat' first
      | (with_reducible exact ih0 _ _ _ _ _ _ _ _ _ _)
      | (with_reducible exact ih1 _ _ _ _ _ _)
      | (with_reducible exact conclavelaw03_anchor.mono _)
      | (with_reducible exact conclaveref01_Ints.mono _ _ _)
      | (with_reducible exact conclaveref03_Common.mono _ _ _ _)
      | (with_reducible exact conclaveref03_Copath.mono _ _ _)
      | (with_reducible exact conclaveref03_Path.mono _ _ _)
      | (with_reducible exact conclaveref03_Under.mono _ _ _ _)
      | (with_reducible exact heap_Common.mono _ _ _ _)
      | (with_reducible exact heap_Under.mono _ _ _ _)
      | (with_reducible exact LeO.refl _)
      | (with_reducible exact LeO.none _)
      | (with_reducible refine LeO.ite ?_ ?_)
      | (with_reducible refine LeO.bind ?_ (fun _ => ?_))
      | exact ih0 _ _ _ _ _ _ _ _ _ _
      | exact ih1 _ _ _ _ _ _
      | exact conclavelaw03_anchor.mono _
      | exact conclaveref01_Ints.mono _ _ _
      | exact conclaveref03_Common.mono _ _ _ _
      | exact conclaveref03_Copath.mono _ _ _
      | exact conclaveref03_Path.mono _ _ _
      | exact conclaveref03_Under.mono _ _ _ _
      | exact heap_Common.mono _ _ _ _
      | exact heap_Under.mono _ _ _ _
      | exact LeO.none _
      | refine LeO.ite ?_ ?_
      | refine LeO.bind ?_ (fun _ => ?_)
    · intro y0 y1 y2 y3 y4 y5
      unfold conclavelaw03_HeapPaths.j1
      repeat' first
      | (with_reducible exact ih0 _ _ _ _ _ _ _ _ _ _)
      | (with_reducible exact ih1 _ _ _ _ _ _)
      | (with_reducible exact conclavelaw03_anchor.mono _)
      | (with_reducible exact conclaveref01_Ints.mono _ _ _)
      | (with_reducible exact conclaveref03_Common.mono _ _ _ _)
      | (with_reducible exact conclaveref03_Copath.mono _ _ _)
      | (with_reducible exact conclaveref03_Path.mono _ _ _)
      | (with_reducible exact conclaveref03_Under.mono _ _ _ _)
      | (with_reducible exact heap_Common.mono _ _ _ _)
      | (with_reducible exact heap_Under.mono _ _ _ _)
      | (with_reducible exact LeO.refl _)
      | (with_reducible exact LeO.none _)
      | (with_reducible refine LeO.ite ?_ ?_)
      | (with_reducible refine LeO.bind ?_ (fun _ => ?_))
      | exact ih0 _ _ _ _ _ _ _ _ _ _
      | exact ih1 _ _ _ _ _ _
      | exact conclavelaw03_anchor.mono _
      | exact conclaveref01_Ints.mono _ _ _
      | exact conclaveref03_Common.mono _ _ _ _
      | exact conclaveref03_Copath.mono _ _ _
      | exact conclaveref03_Path.mono _ _ _
      | exact conclaveref03_Under.mono _ _ _ _
      | exact heap_Common.mono _ _ _ _
      | exact heap_Under.mono _ _ _ _
      | exact LeO.none _
      | refine LeO.ite ?_ ?_
      | refine LeO.bind ?_ (fun _ => ?_)
theorem conclavelaw03_HeapPaths.mono : ∀ a0 a1 a2 k, LeO (conclavelaw03_HeapPaths.f k a0 a1 a2) (conclavelaw03_HeapPaths.f (k + 1) a0 a1 a2) := by
  intro a0 a1 a2 k
  obtain ⟨ih0, ih1⟩ := conclavelaw03_HeapPaths.mono_l k
  unfold conclavelaw03_HeapPaths.f
  repeat' first
      | (with_reducible exact ih0 _ _ _ _ _ _ _ _ _ _)
      | (with_reducible exact ih1 _ _ _ _ _ _)
      | (with_reducible exact conclavelaw03_anchor.mono _)
      | (with_reducible exact conclaveref01_Ints.mono _ _ _)
      | (with_reducible exact conclaveref03_Common.mono _ _ _ _)
      | (with_reducible exact conclaveref03_Copath.mono _ _ _)
      | (with_reducible exact conclaveref03_Path.mono _ _ _)
      | (with_reducible exact conclaveref03_Under.mono _ _ _ _)
      | (with_reducible exact heap_Common.mono _ _ _ _)
      | (with_reducible exact heap_Under.mono _ _ _ _)
      | (with_reducible exact LeO.refl _)
      | (with_reducible exact LeO.none _)
      | (with_reducible refine LeO.ite ?_ ?_)
      | (with_reducible refine LeO.bind ?_ (fun _ => ?_))
      | exact ih0 _ _ _ _ _ _ _ _ _ _
      | exact ih1 _ _ _ _ _ _
      | exact conclavelaw03_anchor.mono _
      | exact conclaveref01_Ints.mono _ _ _
      | exact conclaveref03_Common.mono _ _ _ _
      | exact conclaveref03_Copath.mono _ _ _
      | exact conclaveref03_Path.mono _ _ _
      | exact conclaveref03_Under.mono _ _ _ _
      | exact heap_Common.mono _ _ _ _
      | exact heap_Under.mono _ _ _ _
      | exact LeO.none _
      | refine LeO.ite ?_ ?_
      | refine LeO.bind ?_ (fun _ => ?_)
set_option maxHeartbeats 8000000 in
set_option maxRecDepth 100000 in
theorem conclavelaw03_HeapPaths.calls (k : Nat) (a0 : Int) (a1 : Int) (a2 : Int) (r : Bool) (w : World) (hrG : TabG w) (h : conclavelaw03_HeapPaths.f k a0 a1 a2 = some r) :
    Calls Tryd.prog 6 #[.int .i64 a0, .int .i64 a1, .int .i64 a2] w fun e w' => e = .returned (.bool r) ∧ Below w.heap.size w w' := by
  have HRG := Aside0.mk hrG
  clear hrG
  have HB := Aside0.mk (Below.refl w.heap.size w)
  have H : ((conclavelaw03_anchor.f k).bind fun t214 => (if t214 = true then ((heap_Path.f a0 a2).bind fun bt215 => ((heap_Copath.f a0 a2).bind fun bt219 => ((heap_Under.f k a0 a1 a2).bind fun t223 => ((conclaveref03_Under.f k a0 a1 a2).bind fun t224 => (if (t223 != t224) = true then (some false) else ((heap_Common.f k a0 a1 a2).bind fun bt225 => ((conclaveref03_Right.f a2).bind fun t227 => (if t227 = true then (if a0 ≥ 0 then (if a1 ≥ 0 then (if a0 < a2 then (conclavelaw03_HeapPaths.j0 k a0 a1 a2 bt215.1 bt215.2 bt219.1 bt219.2 bt225.1 bt225.2 (decide (a1 < a2))) else (conclavelaw03_HeapPaths.j0 k a0 a1 a2 bt215.1 bt215.2 bt219.1 bt219.2 bt225.1 bt225.2 false)) else (conclavelaw03_HeapPaths.j0 k a0 a1 a2 bt215.1 bt215.2 bt219.1 bt219.2 bt225.1 bt225.2 false)) else (conclavelaw03_HeapPaths.j0 k a0 a1 a2 bt215.1 bt215.2 bt219.1 bt219.2 bt225.1 bt225.2 false)) else (conclavelaw03_HeapPaths.j0 k a0 a1 a2 bt215.1 bt215.2 bt219.1 bt219.2 bt225.1 bt225.2 false))))))))) else (some false))) = some r := h
  clear h
  replace H := Option.bind_eq_some_iff.mp H
  obtain ⟨t214, A40, H⟩ := H
  replace H : (if t214 = true then ((heap_Path.f a0 a2).bind fun bt215 => ((heap_Copath.f a0 a2).bind fun bt219 => ((heap_Under.f k a0 a1 a2).bind fun t223 => ((conclaveref03_Under.f k a0 a1 a2).bind fun t224 => (if (t223 != t224) = true then (some false) else ((heap_Common.f k a0 a1 a2).bind fun bt225 => ((conclaveref03_Right.f a2).bind fun t227 => (if t227 = true then (if a0 ≥ 0 then (if a1 ≥ 0 then (if a0 < a2 then (conclavelaw03_HeapPaths.j0 k a0 a1 a2 bt215.1 bt215.2 bt219.1 bt219.2 bt225.1 bt225.2 (decide (a1 < a2))) else (conclavelaw03_HeapPaths.j0 k a0 a1 a2 bt215.1 bt215.2 bt219.1 bt219.2 bt225.1 bt225.2 false)) else (conclavelaw03_HeapPaths.j0 k a0 a1 a2 bt215.1 bt215.2 bt219.1 bt219.2 bt225.1 bt225.2 false)) else (conclavelaw03_HeapPaths.j0 k a0 a1 a2 bt215.1 bt215.2 bt219.1 bt219.2 bt225.1 bt225.2 false)) else (conclavelaw03_HeapPaths.j0 k a0 a1 a2 bt215.1 bt215.2 bt219.1 bt219.2 bt225.1 bt225.2 false))))))))) else (some false)) = some r := H
  have A4 := Aside0.mk A40
  clear A40
  by_cases c5 : t214 = true
  · subst c5
    have H1 : ((heap_Path.f a0 a2).bind fun bt215 => ((heap_Copath.f a0 a2).bind fun bt219 => ((heap_Under.f k a0 a1 a2).bind fun t223 => ((conclaveref03_Under.f k a0 a1 a2).bind fun t224 => (if (t223 != t224) = true then (some false) else ((heap_Common.f k a0 a1 a2).bind fun bt225 => ((conclaveref03_Right.f a2).bind fun t227 => (if t227 = true then (if a0 ≥ 0 then (if a1 ≥ 0 then (if a0 < a2 then (conclavelaw03_HeapPaths.j0 k a0 a1 a2 bt215.1 bt215.2 bt219.1 bt219.2 bt225.1 bt225.2 (decide (a1 < a2))) else (conclavelaw03_HeapPaths.j0 k a0 a1 a2 bt215.1 bt215.2 bt219.1 bt219.2 bt225.1 bt225.2 false)) else (conclavelaw03_HeapPaths.j0 k a0 a1 a2 bt215.1 bt215.2 bt219.1 bt219.2 bt225.1 bt225.2 false)) else (conclavelaw03_HeapPaths.j0 k a0 a1 a2 bt215.1 bt215.2 bt219.1 bt219.2 bt225.1 bt225.2 false)) else (conclavelaw03_HeapPaths.j0 k a0 a1 a2 bt215.1 bt215.2 bt219.1 bt219.2 bt225.1 bt225.2 false))))))))) = some r := by rw [if_pos rfl] at H; exact H
    clear H
    have H := H1
    clear H1
    replace H := Option.bind_eq_some_iff.mp H
    obtain ⟨⟨t215, t216⟩, A60, H⟩ := H
    replace H : ((heap_Copath.f a0 a2).bind fun bt219 => ((heap_Under.f k a0 a1 a2).bind fun t223 => ((conclaveref03_Under.f k a0 a1 a2).bind fun t224 => (if (t223 != t224) = true then (some false) else ((heap_Common.f k a0 a1 a2).bind fun bt225 => ((conclaveref03_Right.f a2).bind fun t227 => (if t227 = true then (if a0 ≥ 0 then (if a1 ≥ 0 then (if a0 < a2 then (conclavelaw03_HeapPaths.j0 k a0 a1 a2 t215 t216 bt219.1 bt219.2 bt225.1 bt225.2 (decide (a1 < a2))) else (conclavelaw03_HeapPaths.j0 k a0 a1 a2 t215 t216 bt219.1 bt219.2 bt225.1 bt225.2 false)) else (conclavelaw03_HeapPaths.j0 k a0 a1 a2 t215 t216 bt219.1 bt219.2 bt225.1 bt225.2 false)) else (conclavelaw03_HeapPaths.j0 k a0 a1 a2 t215 t216 bt219.1 bt219.2 bt225.1 bt225.2 false)) else (conclavelaw03_HeapPaths.j0 k a0 a1 a2 t215 t216 bt219.1 bt219.2 bt225.1 bt225.2 false)))))))) = some r := H
    have A6 := Aside0.mk A60
    clear A60
    replace H := Option.bind_eq_some_iff.mp H
    obtain ⟨⟨t219, t220⟩, A70, H⟩ := H
    replace H : ((heap_Under.f k a0 a1 a2).bind fun t223 => ((conclaveref03_Under.f k a0 a1 a2).bind fun t224 => (if (t223 != t224) = true then (some false) else ((heap_Common.f k a0 a1 a2).bind fun bt225 => ((conclaveref03_Right.f a2).bind fun t227 => (if t227 = true then (if a0 ≥ 0 then (if a1 ≥ 0 then (if a0 < a2 then (conclavelaw03_HeapPaths.j0 k a0 a1 a2 t215 t216 t219 t220 bt225.1 bt225.2 (decide (a1 < a2))) else (conclavelaw03_HeapPaths.j0 k a0 a1 a2 t215 t216 t219 t220 bt225.1 bt225.2 false)) else (conclavelaw03_HeapPaths.j0 k a0 a1 a2 t215 t216 t219 t220 bt225.1 bt225.2 false)) else (conclavelaw03_HeapPaths.j0 k a0 a1 a2 t215 t216 t219 t220 bt225.1 bt225.2 false)) else (conclavelaw03_HeapPaths.j0 k a0 a1 a2 t215 t216 t219 t220 bt225.1 bt225.2 false))))))) = some r := H
    have A7 := Aside0.mk A70
    clear A70
    replace H := Option.bind_eq_some_iff.mp H
    obtain ⟨t223, A80, H⟩ := H
    replace H : ((conclaveref03_Under.f k a0 a1 a2).bind fun t224 => (if (t223 != t224) = true then (some false) else ((heap_Common.f k a0 a1 a2).bind fun bt225 => ((conclaveref03_Right.f a2).bind fun t227 => (if t227 = true then (if a0 ≥ 0 then (if a1 ≥ 0 then (if a0 < a2 then (conclavelaw03_HeapPaths.j0 k a0 a1 a2 t215 t216 t219 t220 bt225.1 bt225.2 (decide (a1 < a2))) else (conclavelaw03_HeapPaths.j0 k a0 a1 a2 t215 t216 t219 t220 bt225.1 bt225.2 false)) else (conclavelaw03_HeapPaths.j0 k a0 a1 a2 t215 t216 t219 t220 bt225.1 bt225.2 false)) else (conclavelaw03_HeapPaths.j0 k a0 a1 a2 t215 t216 t219 t220 bt225.1 bt225.2 false)) else (conclavelaw03_HeapPaths.j0 k a0 a1 a2 t215 t216 t219 t220 bt225.1 bt225.2 false)))))) = some r := H
    have A8 := Aside0.mk A80
    clear A80
    replace H := Option.bind_eq_some_iff.mp H
    obtain ⟨t224, A90, H⟩ := H
    replace H : (if (t223 != t224) = true then (some false) else ((heap_Common.f k a0 a1 a2).bind fun bt225 => ((conclaveref03_Right.f a2).bind fun t227 => (if t227 = true then (if a0 ≥ 0 then (if a1 ≥ 0 then (if a0 < a2 then (conclavelaw03_HeapPaths.j0 k a0 a1 a2 t215 t216 t219 t220 bt225.1 bt225.2 (decide (a1 < a2))) else (conclavelaw03_HeapPaths.j0 k a0 a1 a2 t215 t216 t219 t220 bt225.1 bt225.2 false)) else (conclavelaw03_HeapPaths.j0 k a0 a1 a2 t215 t216 t219 t220 bt225.1 bt225.2 false)) else (conclavelaw03_HeapPaths.j0 k a0 a1 a2 t215 t216 t219 t220 bt225.1 bt225.2 false)) else (conclavelaw03_HeapPaths.j0 k a0 a1 a2 t215 t216 t219 t220 bt225.1 bt225.2 false))))) = some r := H
    have A9 := Aside0.mk A90
    clear A90
    by_cases c10 : (t223 != t224) = true
    · rw [if_pos c10] at H
      have c10b0 : (t223 != t224) = true := c10
      (try (have c10b1 : decide (t223 = t224) = false := by simpa using c10))
      (try (have c10b2 : (t223 == t224) = false := by simpa using c10))
      (try (have c10b3 : ¬ (t223 = t224) := by simpa using c10))
      clear c10
      obtain rfl := Option.some.inj H
      go_enter Tryd.func6, Tryd.ntmps6
      go_wp2_with (first | ((with_reducible refine gate_callee (f := 9) rfl ?_); refine goesL_ (some 13) rfl rfl Tryd.func9 (by kernel_rfl) rfl #[] rfl (by (try simp only [List.map_toArray, List.map_cons, List.map_nil]); first | done | rfl | (simp only [List.length_drop, List.length_take]; rfl)) ?_; (with_reducible refine (conclavelaw03_anchor.calls (hrG := ?sideG) k  true _ A4.out).mono ?_); (case sideG => (first | exact HRG.out | exact TabG.below HRG.out (by repeat (first | (with_reducible first | exact HB.out | apply below_alloc | apply pw_below_drewN | apply below_drew1) | exact HB.out | exact Below.refl _ _)))); rintro e w11 ⟨rfl, hb⟩; refine ⟨_, rfl, ?_⟩; have n0_ := Aside0.mk (below_step (by repeat (first | (with_reducible first | exact HB.out | apply below_alloc | apply pw_below_drewN | apply below_drew1) | exact HB.out)) hb); clear HB; have HB := n0_; clear n0_; (try clear hb); (try clear hb2); (try clear hk); (try clear hi)) | ((with_reducible refine gate_callee (f := 10) rfl ?_); refine goesL_ (some 18) rfl rfl Tryd.func10 (by kernel_rfl) rfl #[.int .i64 a0, .int .i64 a2] rfl (by (try simp only [List.map_toArray, List.map_cons, List.map_nil]); first | done | rfl | (simp only [List.length_drop, List.length_take]; rfl)) ?_; (with_reducible refine (heap_Path.calls (hrG := ?sideG) a0 a2 t215 t216 _ A6.out).mono ?_); (case sideG => (first | exact HRG.out | exact TabG.below HRG.out (by repeat (first | (with_reducible first | exact HB.out | apply below_alloc | apply pw_below_drewN | apply below_drew1) | exact HB.out | exact Below.refl _ _)))); rintro e w12 ⟨v217, rfl, ho0, hb⟩; refine ⟨_, rfl, ?_⟩; have n0_ := Aside0.mk (Kd.R_lower ho0 (below_size (by repeat (first | (with_reducible first | exact HB.out | apply below_alloc | apply pw_below_drewN | apply below_drew1) | exact HB.out)))); have n1_ := Aside0.mk (below_step (by repeat (first | (with_reducible first | exact HB.out | apply below_alloc | apply pw_below_drewN | apply below_drew1) | exact HB.out)) hb); clear HB; have HO218 := n0_; have HB := n1_; clear n0_ n1_; (try clear hb); (try clear hb2); (try clear hk); (try clear hi); (try clear ho0)) | ((with_reducible refine gate_callee (f := 23) rfl ?_); refine goesL_ (some 24) rfl rfl Tryd.func23 (by kernel_rfl) rfl #[.int .i64 a0, .int .i64 a2] rfl (by (try simp only [List.map_toArray, List.map_cons, List.map_nil]); first | done | rfl | (simp only [List.length_drop, List.length_take]; rfl)) ?_; (with_reducible refine (heap_Copath.calls (hrG := ?sideG) a0 a2 t219 t220 _ A7.out).mono ?_); (case sideG => (first | exact HRG.out | exact TabG.below HRG.out (by repeat (first | (with_reducible first | exact HB.out | apply below_alloc | apply pw_below_drewN | apply below_drew1) | exact HB.out | exact Below.refl _ _)))); rintro e w13 ⟨v221, rfl, ho0, hb⟩; refine ⟨_, rfl, ?_⟩; have n0_ := Aside0.mk (Kd.R_elder' (by (with_reducible repeat (first | apply Kd.R_alloc | apply Kd.R_drewN | apply Kd.R_drew)); exact HO218.out) (Kd.R_base ho0) hb); have n1_ := Aside0.mk (Kd.R_lower (Kd.R_new' ho0 (Kd.R_lt (by (with_reducible repeat (first | apply Kd.R_alloc | apply Kd.R_drewN | apply Kd.R_drew)); exact HO218.out))) (below_size (by repeat (first | (with_reducible first | exact HB.out | apply below_alloc | apply pw_below_drewN | apply below_drew1) | exact HB.out)))); have n2_ := Aside0.mk (below_step (by repeat (first | (with_reducible first | exact HB.out | apply below_alloc | apply pw_below_drewN | apply below_drew1) | exact HB.out)) hb); clear HO218; clear HB; have HO218 := n0_; have HO222 := n1_; have HB := n2_; clear n0_ n1_ n2_; (try clear hb); (try clear hb2); (try clear hk); (try clear hi); (try clear ho0)) | ((with_reducible refine gate_callee (f := 12) rfl ?_); refine goesL_ (some 30) rfl rfl Tryd.func12 (by kernel_rfl) rfl #[.int .i64 a0, .int .i64 a1, .int .i64 a2] rfl (by (try simp only [List.map_toArray, List.map_cons, List.map_nil]); first | done | rfl | (simp only [List.length_drop, List.length_take]; rfl)) ?_; (with_reducible refine (heap_Under.calls (hrG := ?sideG) k a0 a1 a2 t223 _ A8.out).mono ?_); (case sideG => (first | exact HRG.out | exact TabG.below HRG.out (by repeat (first | (with_reducible first | exact HB.out | apply below_alloc | apply pw_below_drewN | apply below_drew1) | exact HB.out | exact Below.refl _ _)))); rintro e w' ⟨rfl, ⟨nd, rfl⟩⟩; refine ⟨_, rfl, ?_⟩) | ((with_reducible refine gate_callee (f := 24) rfl ?_); refine goesL_ (some 34) rfl rfl Tryd.func24 (by kernel_rfl) rfl #[.int .i64 a0, .int .i64 a1, .int .i64 a2] rfl (by (try simp only [List.map_toArray, List.map_cons, List.map_nil]); first | done | rfl | (simp only [List.length_drop, List.length_take]; rfl)) ?_; (with_reducible refine (conclaveref03_Under.calls k a0 a1 a2 t224 _ A9.out).mono ?_); rintro e w' ⟨rfl, ⟨nd, rfl⟩⟩; refine ⟨_, rfl, ?_⟩))
      go_ret
      exact ⟨by first | rfl | (simp [errW_none, errW_some] <;> rfl) | (simp [*, errW_none, errW_some] <;> rfl), by repeat (first | (with_reducible first | exact HB.out | apply below_alloc | apply pw_below_drewN | apply below_drew1) | exact HB.out)⟩
    · rw [if_neg c10] at H
      have c10b0 : (t223 != t224) = false := by simpa using c10
      (try (have c10b1 : decide (t223 = t224) = true := by simpa using c10))
      (try (have c10b2 : (t223 == t224) = true := by simpa using c10))
      clear c10
      replace H := Option.bind_eq_some_iff.mp H
      obtain ⟨⟨t225, t226⟩, A140, H⟩ := H
      replace H : ((conclaveref03_Right.f a2).bind fun t227 => (if t227 = true then (if a0 ≥ 0 then (if a1 ≥ 0 then (if a0 < a2 then (conclavelaw03_HeapPaths.j0 k a0 a1 a2 t215 t216 t219 t220 t225 t226 (decide (a1 < a2))) else (conclavelaw03_HeapPaths.j0 k a0 a1 a2 t215 t216 t219 t220 t225 t226 false)) else (conclavelaw03_HeapPaths.j0 k a0 a1 a2 t215 t216 t219 t220 t225 t226 false)) else (conclavelaw03_HeapPaths.j0 k a0 a1 a2 t215 t216 t219 t220 t225 t226 false)) else (conclavelaw03_HeapPaths.j0 k a0 a1 a2 t215 t216 t219 t220 t225 t226 false))) = some r := H
      have A14 := Aside0.mk A140
      clear A140
      have HC15 := Aside0.mk H
      clear H
      go_enter Tryd.func6, Tryd.ntmps6
      go_upto_region 8 with (first | ((with_reducible refine gate_callee (f := 9) rfl ?_); refine goesL_ (some 13) rfl rfl Tryd.func9 (by kernel_rfl) rfl #[] rfl (by (try simp only [List.map_toArray, List.map_cons, List.map_nil]); first | done | rfl | (simp only [List.length_drop, List.length_take]; rfl)) ?_; (with_reducible refine (conclavelaw03_anchor.calls (hrG := ?sideG) k  true _ A4.out).mono ?_); (case sideG => (first | exact HRG.out | exact TabG.below HRG.out (by repeat (first | (with_reducible first | exact HB.out | apply below_alloc | apply pw_below_drewN | apply below_drew1) | exact HB.out | exact Below.refl _ _)))); rintro e w16 ⟨rfl, hb⟩; refine ⟨_, rfl, ?_⟩; have n0_ := Aside0.mk (below_step (by repeat (first | (with_reducible first | exact HB.out | apply below_alloc | apply pw_below_drewN | apply below_drew1) | exact HB.out)) hb); clear HB; have HB := n0_; clear n0_; (try clear hb); (try clear hb2); (try clear hk); (try clear hi)) | ((with_reducible refine gate_callee (f := 10) rfl ?_); refine goesL_ (some 18) rfl rfl Tryd.func10 (by kernel_rfl) rfl #[.int .i64 a0, .int .i64 a2] rfl (by (try simp only [List.map_toArray, List.map_cons, List.map_nil]); first | done | rfl | (simp only [List.length_drop, List.length_take]; rfl)) ?_; (with_reducible refine (heap_Path.calls (hrG := ?sideG) a0 a2 t215 t216 _ A6.out).mono ?_); (case sideG => (first | exact HRG.out | exact TabG.below HRG.out (by repeat (first | (with_reducible first | exact HB.out | apply below_alloc | apply pw_below_drewN | apply below_drew1) | exact HB.out | exact Below.refl _ _)))); rintro e w17 ⟨v217, rfl, ho0, hb⟩; refine ⟨_, rfl, ?_⟩; have n0_ := Aside0.mk (Kd.R_lower ho0 (below_size (by repeat (first | (with_reducible first | exact HB.out | apply below_alloc | apply pw_below_drewN | apply below_drew1) | exact HB.out)))); have n1_ := Aside0.mk (below_step (by repeat (first | (with_reducible first | exact HB.out | apply below_alloc | apply pw_below_drewN | apply below_drew1) | exact HB.out)) hb); clear HB; have HO218 := n0_; have HB := n1_; clear n0_ n1_; (try clear hb); (try clear hb2); (try clear hk); (try clear hi); (try clear ho0)) | ((with_reducible refine gate_callee (f := 23) rfl ?_); refine goesL_ (some 24) rfl rfl Tryd.func23 (by kernel_rfl) rfl #[.int .i64 a0, .int .i64 a2] rfl (by (try simp only [List.map_toArray, List.map_cons, List.map_nil]); first | done | rfl | (simp only [List.length_drop, List.length_take]; rfl)) ?_; (with_reducible refine (heap_Copath.calls (hrG := ?sideG) a0 a2 t219 t220 _ A7.out).mono ?_); (case sideG => (first | exact HRG.out | exact TabG.below HRG.out (by repeat (first | (with_reducible first | exact HB.out | apply below_alloc | apply pw_below_drewN | apply below_drew1) | exact HB.out | exact Below.refl _ _)))); rintro e w18 ⟨v221, rfl, ho0, hb⟩; refine ⟨_, rfl, ?_⟩; have n0_ := Aside0.mk (Kd.R_elder' (by (with_reducible repeat (first | apply Kd.R_alloc | apply Kd.R_drewN | apply Kd.R_drew)); exact HO218.out) (Kd.R_base ho0) hb); have n1_ := Aside0.mk (Kd.R_lower (Kd.R_new' ho0 (Kd.R_lt (by (with_reducible repeat (first | apply Kd.R_alloc | apply Kd.R_drewN | apply Kd.R_drew)); exact HO218.out))) (below_size (by repeat (first | (with_reducible first | exact HB.out | apply below_alloc | apply pw_below_drewN | apply below_drew1) | exact HB.out)))); have n2_ := Aside0.mk (below_step (by repeat (first | (with_reducible first | exact HB.out | apply below_alloc | apply pw_below_drewN | apply below_drew1) | exact HB.out)) hb); clear HO218; clear HB; have HO218 := n0_; have HO222 := n1_; have HB := n2_; clear n0_ n1_ n2_; (try clear hb); (try clear hb2); (try clear hk); (try clear hi); (try clear ho0)) | ((with_reducible refine gate_callee (f := 12) rfl ?_); refine goesL_ (some 30) rfl rfl Tryd.func12 (by kernel_rfl) rfl #[.int .i64 a0, .int .i64 a1, .int .i64 a2] rfl (by (try simp only [List.map_toArray, List.map_cons, List.map_nil]); first | done | rfl | (simp only [List.length_drop, List.length_take]; rfl)) ?_; (with_reducible refine (heap_Under.calls (hrG := ?sideG) k a0 a1 a2 t223 _ A8.out).mono ?_); (case sideG => (first | exact HRG.out | exact TabG.below HRG.out (by repeat (first | (with_reducible first | exact HB.out | apply below_alloc | apply pw_below_drewN | apply below_drew1) | exact HB.out | exact Below.refl _ _)))); rintro e w' ⟨rfl, ⟨nd, rfl⟩⟩; refine ⟨_, rfl, ?_⟩) | ((with_reducible refine gate_callee (f := 24) rfl ?_); refine goesL_ (some 34) rfl rfl Tryd.func24 (by kernel_rfl) rfl #[.int .i64 a0, .int .i64 a1, .int .i64 a2] rfl (by (try simp only [List.map_toArray, List.map_cons, List.map_nil]); first | done | rfl | (simp only [List.length_drop, List.length_take]; rfl)) ?_; (with_reducible refine (conclaveref03_Under.calls k a0 a1 a2 t224 _ A9.out).mono ?_); rintro e w' ⟨rfl, ⟨nd, rfl⟩⟩; refine ⟨_, rfl, ?_⟩) | ((with_reducible refine gate_callee (f := 25) rfl ?_); refine goesL_ (some 40) rfl rfl Tryd.func25 (by kernel_rfl) rfl #[.int .i64 a0, .int .i64 a1, .int .i64 a2] rfl (by (try simp only [List.map_toArray, List.map_cons, List.map_nil]); first | done | rfl | (simp only [List.length_drop, List.length_take]; rfl)) ?_; (with_reducible refine (heap_Common.calls k a0 a1 a2 t225 t226 _ A14.out).mono ?_); rintro e w' ⟨rfl, ⟨nd, rfl⟩⟩; refine ⟨_, rfl, ?_⟩))
      (try simp only [Act.put, List.setIfInBounds_toArray, List.set_cons_zero, List.set_cons_succ])
      go_cut [62] (fun v62 wc => ∃ (kq : Nat) (x62_14 : Bool), v62 = .bool x62_14 ∧ Aside0 (conclavelaw03_HeapPaths.j0 kq a0 a1 a2 t215 t216 t219 t220 t225 t226 x62_14 = some r) ∧ Aside0 (kq ≤ k) ∧ Aside0 (Kd.R (Kd.int .i64) 3 wc w.heap.size (fun k_ => some k_ ≠ (v221 : Value).ownBlock) v217 t215) ∧ Aside0 (Kd.R (Kd.int .i64) 3 wc w.heap.size (fun k_ => some k_ ≠ (v217 : Value).ownBlock) v221 t219) ∧ Aside0 (Below w.heap.size w wc))
      case first =>
        have H := HC15.out
        clear HC15
        replace H := Option.bind_eq_some_iff.mp H
        obtain ⟨t227, A190, H⟩ := H
        replace H : (if t227 = true then (if a0 ≥ 0 then (if a1 ≥ 0 then (if a0 < a2 then (conclavelaw03_HeapPaths.j0 k a0 a1 a2 t215 t216 t219 t220 t225 t226 (decide (a1 < a2))) else (conclavelaw03_HeapPaths.j0 k a0 a1 a2 t215 t216 t219 t220 t225 t226 false)) else (conclavelaw03_HeapPaths.j0 k a0 a1 a2 t215 t216 t219 t220 t225 t226 false)) else (conclavelaw03_HeapPaths.j0 k a0 a1 a2 t215 t216 t219 t220 t225 t226 false)) else (conclavelaw03_HeapPaths.j0 k a0 a1 a2 t215 t216 t219 t220 t225 t226 false)) = some r := H
        have A19 := Aside0.mk A190
        clear A190
        by_cases c20 : t227 = true
        · subst c20
          have H1 : (if a0 ≥ 0 then (if a1 ≥ 0 then (if a0 < a2 then (conclavelaw03_HeapPaths.j0 k a0 a1 a2 t215 t216 t219 t220 t225 t226 (decide (a1 < a2))) else (conclavelaw03_HeapPaths.j0 k a0 a1 a2 t215 t216 t219 t220 t225 t226 false)) else (conclavelaw03_HeapPaths.j0 k a0 a1 a2 t215 t216 t219 t220 t225 t226 false)) else (conclavelaw03_HeapPaths.j0 k a0 a1 a2 t215 t216 t219 t220 t225 t226 false)) = some r := by rw [if_pos rfl] at H; exact H
          clear H
          have H := H1
          clear H1
          by_cases c21 : a0 ≥ 0
          · rw [if_pos c21] at H
            have c21b0 : decide (0 ≤ a0) = true := decide_eq_true c21
            clear c21
            (first | rw [c21b0] | (simp only [i64_w, i32_w]; rw [c21b0]) | skip)
            by_cases c22 : a1 ≥ 0
            · rw [if_pos c22] at H
              have c22b0 : decide (0 ≤ a1) = true := decide_eq_true c22
              clear c22
              by_cases c23 : a0 < a2
              · rw [if_pos c23] at H
                have c23b0 : decide (a0 < a2) = true := decide_eq_true c23
                clear c23
                have H' := Aside0.mk H
                clear H
                go_wp2_with (first | ((with_reducible refine gate_callee (f := 15) rfl ?_); refine goesL_ (some 44) rfl rfl Tryd.func15 (by kernel_rfl) rfl #[.int .i64 a2] rfl (by (try simp only [List.map_toArray, List.map_cons, List.map_nil]); first | done | rfl | (simp only [List.length_drop, List.length_take]; rfl)) ?_; (with_reducible refine (conclaveref03_Right.calls a2 true _ A19.out).mono ?_); rintro e w' ⟨rfl, ⟨nd, rfl⟩⟩; refine ⟨_, rfl, ?_⟩))
                go_meet
                case rel => exact ⟨_, (decide (a1 < a2)), (by first | rfl | (simp; done) | (simp [*]; done)), H', ⟨by first | omega | exact Nat.le_refl _⟩, ⟨by (with_reducible repeat (first | apply Kd.R_alloc | apply Kd.R_drewN | apply Kd.R_drew)); exact Kd.R_mono HO218.out (fun _ hk => hk.2)⟩, ⟨by (with_reducible repeat (first | apply Kd.R_alloc | apply Kd.R_drewN | apply Kd.R_drew)); exact Kd.R_mono HO222.out (fun _ hk => hk.2)⟩, ⟨by repeat (first | (with_reducible first | exact HB.out | apply below_alloc | apply pw_below_drewN | apply below_drew1) | exact HB.out)⟩⟩
              · rw [if_neg c23] at H
                have c23b0 : decide (a0 < a2) = false := decide_eq_false c23
                clear c23
                have H' := Aside0.mk H
                clear H
                go_wp2_with (first | ((with_reducible refine gate_callee (f := 15) rfl ?_); refine goesL_ (some 44) rfl rfl Tryd.func15 (by kernel_rfl) rfl #[.int .i64 a2] rfl (by (try simp only [List.map_toArray, List.map_cons, List.map_nil]); first | done | rfl | (simp only [List.length_drop, List.length_take]; rfl)) ?_; (with_reducible refine (conclaveref03_Right.calls a2 true _ A19.out).mono ?_); rintro e w' ⟨rfl, ⟨nd, rfl⟩⟩; refine ⟨_, rfl, ?_⟩))
                go_meet
                case rel => exact ⟨_, (false), (by first | rfl | (simp; done) | (simp [*]; done)), H', ⟨by first | omega | exact Nat.le_refl _⟩, ⟨by (with_reducible repeat (first | apply Kd.R_alloc | apply Kd.R_drewN | apply Kd.R_drew)); exact Kd.R_mono HO218.out (fun _ hk => hk.2)⟩, ⟨by (with_reducible repeat (first | apply Kd.R_alloc | apply Kd.R_drewN | apply Kd.R_drew)); exact Kd.R_mono HO222.out (fun _ hk => hk.2)⟩, ⟨by repeat (first | (with_reducible first | exact HB.out | apply below_alloc | apply pw_below_drewN | apply below_drew1) | exact HB.out)⟩⟩
            · rw [if_neg c22] at H
              have c22b0 : decide (0 ≤ a1) = false := decide_eq_false c22
              clear c22
              have H' := Aside0.mk H
              clear H
              go_wp2_with (first | ((with_reducible refine gate_callee (f := 15) rfl ?_); refine goesL_ (some 44) rfl rfl Tryd.func15 (by kernel_rfl) rfl #[.int .i64 a2] rfl (by (try simp only [List.map_toArray, List.map_cons, List.map_nil]); first | done | rfl | (simp only [List.length_drop, List.length_take]; rfl)) ?_; (with_reducible refine (conclaveref03_Right.calls a2 true _ A19.out).mono ?_); rintro e w' ⟨rfl, ⟨nd, rfl⟩⟩; refine ⟨_, rfl, ?_⟩))
              go_meet
              case rel => exact ⟨_, (false), (by first | rfl | (simp; done) | (simp [*]; done)), H', ⟨by first | omega | exact Nat.le_refl _⟩, ⟨by (with_reducible repeat (first | apply Kd.R_alloc | apply Kd.R_drewN | apply Kd.R_drew)); exact Kd.R_mono HO218.out (fun _ hk => hk.2)⟩, ⟨by (with_reducible repeat (first | apply Kd.R_alloc | apply Kd.R_drewN | apply Kd.R_drew)); exact Kd.R_mono HO222.out (fun _ hk => hk.2)⟩, ⟨by repeat (first | (with_reducible first | exact HB.out | apply below_alloc | apply pw_below_drewN | apply below_drew1) | exact HB.out)⟩⟩
          · rw [if_neg c21] at H
            have c21b0 : decide (0 ≤ a0) = false := decide_eq_false c21
            clear c21
            (first | rw [c21b0] | (simp only [i64_w, i32_w]; rw [c21b0]) | skip)
            have H' := Aside0.mk H
            clear H
            go_wp2_with (first | ((with_reducible refine gate_callee (f := 15) rfl ?_); refine goesL_ (some 44) rfl rfl Tryd.func15 (by kernel_rfl) rfl #[.int .i64 a2] rfl (by (try simp only [List.map_toArray, List.map_cons, List.map_nil]); first | done | rfl | (simp only [List.length_drop, List.length_take]; rfl)) ?_; (with_reducible refine (conclaveref03_Right.calls a2 true _ A19.out).mono ?_); rintro e w' ⟨rfl, ⟨nd, rfl⟩⟩; refine ⟨_, rfl, ?_⟩))
            go_meet
            case rel => exact ⟨_, (false), (by first | rfl | (simp; done) | (simp [*]; done)), H', ⟨by first | omega | exact Nat.le_refl _⟩, ⟨by (with_reducible repeat (first | apply Kd.R_alloc | apply Kd.R_drewN | apply Kd.R_drew)); exact Kd.R_mono HO218.out (fun _ hk => hk.2)⟩, ⟨by (with_reducible repeat (first | apply Kd.R_alloc | apply Kd.R_drewN | apply Kd.R_drew)); exact Kd.R_mono HO222.out (fun _ hk => hk.2)⟩, ⟨by repeat (first | (with_reducible first | exact HB.out | apply below_alloc | apply pw_below_drewN | apply below_drew1) | exact HB.out)⟩⟩
        · replace c20 := Bool.eq_false_iff.mpr c20
          subst c20
          have H1 : (conclavelaw03_HeapPaths.j0 k a0 a1 a2 t215 t216 t219 t220 t225 t226 false) = some r := by rw [if_neg (show ¬ (false = true) by decide)] at H; exact H
          clear H
          have H := H1
          clear H1
          have H' := Aside0.mk H
          clear H
          go_wp2_with (first | ((with_reducible refine gate_callee (f := 15) rfl ?_); refine goesL_ (some 44) rfl rfl Tryd.func15 (by kernel_rfl) rfl #[.int .i64 a2] rfl (by (try simp only [List.map_toArray, List.map_cons, List.map_nil]); first | done | rfl | (simp only [List.length_drop, List.length_take]; rfl)) ?_; (with_reducible refine (conclaveref03_Right.calls a2 false _ A19.out).mono ?_); rintro e w' ⟨rfl, ⟨nd, rfl⟩⟩; refine ⟨_, rfl, ?_⟩))
          go_meet
          case rel => exact ⟨_, (false), (by first | rfl | (simp; done) | (simp [*]; done)), H', ⟨by first | omega | exact Nat.le_refl _⟩, ⟨by (with_reducible repeat (first | apply Kd.R_alloc | apply Kd.R_drewN | apply Kd.R_drew)); exact Kd.R_mono HO218.out (fun _ hk => hk.2)⟩, ⟨by (with_reducible repeat (first | apply Kd.R_alloc | apply Kd.R_drewN | apply Kd.R_drew)); exact Kd.R_mono HO222.out (fun _ hk => hk.2)⟩, ⟨by repeat (first | (with_reducible first | exact HB.out | apply below_alloc | apply pw_below_drewN | apply below_drew1) | exact HB.out)⟩⟩
      case rest =>
        clear HC15
        try clear c1
        try clear c2
        try clear p2
        try clear c5
        try clear c6
        try clear c9
        try clear c10
        try clear c10b0
        try clear c10b1
        try clear c10b2
        try clear c12
        try clear c15
        try clear c20
        try clear c21
        try clear c21b0
        try clear c22
        try clear c22b0
        try clear c23
        try clear c23b0
        obtain ⟨kq, x62_14, rfl, HA, HJ14, HO_7, HO_9, HB⟩ := hcut
        cases kq with
        | zero => exact absurd HA.out (by simp [conclavelaw03_HeapPaths.j0])
        | succ kj14 =>
          have H := HA.out
          clear HA
          simp only [conclavelaw03_HeapPaths.j0] at H
          have HC24 := Aside0.mk H
          clear H
          go_upto_if 62 with (fail)
          go_cut [] (fun wc => ∃ (kq : Nat), Aside0 (conclavelaw03_HeapPaths.j1 kq a0 a2 t215 t216 t219 t220 = some r) ∧ Aside0 (kq ≤ kj14) ∧ Aside0 (Kd.R (Kd.int .i64) 3 wc w.heap.size (fun k_ => some k_ ≠ (v221 : Value).ownBlock) v217 t215) ∧ Aside0 (Kd.R (Kd.int .i64) 3 wc w.heap.size (fun k_ => some k_ ≠ (v217 : Value).ownBlock) v221 t219) ∧ Aside0 (Below w.heap.size w wc))
          case first =>
            have H := HC24.out
            clear HC24
            by_cases c25 : x62_14 = true
            · subst c25
              have H1 : (if t226 = 0 then ((conclaveref03_Common.f kj14 a0 a1 a2).bind fun t228 => (if t225 = t228 then (conclavelaw03_HeapPaths.j1 kj14 a0 a2 t215 t216 t219 t220) else (some false))) else (some false)) = some r := by rw [if_pos rfl] at H; exact H
              clear H
              have H := H1
              clear H1
              by_cases c26 : t226 = 0
              · rw [if_pos c26] at H
                have c26b0 : (t226 == 0) = true := beq_iff_eq.mpr c26
                have c26b1 : (t226 != 0) = false := bne_eq_false_iff_eq.mpr c26
                clear c26
                (first | rw [c26b0] | (simp only [i64_w, i32_w]; rw [c26b0]) | skip)
                replace H := Option.bind_eq_some_iff.mp H
                obtain ⟨t228, A270, H⟩ := H
                replace H : (if t225 = t228 then (conclavelaw03_HeapPaths.j1 kj14 a0 a2 t215 t216 t219 t220) else (some false)) = some r := H
                have A27 := Aside0.mk A270
                clear A270
                by_cases c28 : t225 = t228
                · rw [if_pos c28] at H
                  have c28b0 : (t225 == t228) = true := beq_iff_eq.mpr c28
                  have c28b1 : (t225 != t228) = false := bne_eq_false_iff_eq.mpr c28
                  clear c28
                  have H' := Aside0.mk H
                  clear H
                  go_wp2_with (first | (go_at_call 26; (with_reducible refine (conclaveref03_Common.calls kj14 a0 a1 a2 t228 _ A27.out).mono ?_); rintro e w' ⟨rfl, ⟨nd, rfl⟩⟩))
                  go_meet
                  case rel => exact ⟨_, H', ⟨by have := HJ14.out; first | omega | exact Nat.le_refl _⟩, ⟨by (with_reducible repeat (first | apply Kd.R_alloc | apply Kd.R_drewN | apply Kd.R_drew)); exact HO_7.out⟩, ⟨by (with_reducible repeat (first | apply Kd.R_alloc | apply Kd.R_drewN | apply Kd.R_drew)); exact HO_9.out⟩, ⟨by repeat (first | (with_reducible first | exact HB.out | apply below_alloc | apply pw_below_drewN | apply below_drew1) | exact HB.out)⟩⟩
                · rw [if_neg c28] at H
                  have c28b0 : (t225 == t228) = false := beq_eq_false_iff_ne.mpr c28
                  have c28b1 : (t225 != t228) = true := bne_iff_ne.mpr c28
                  obtain rfl := Option.some.inj H
                  go_wp2_with (first | (go_at_call 26; (with_reducible refine (conclaveref03_Common.calls kj14 a0 a1 a2 t228 _ A27.out).mono ?_); rintro e w' ⟨rfl, ⟨nd, rfl⟩⟩))
                  go_ret
                  exact ⟨by first | rfl | (simp [errW_none, errW_some] <;> rfl) | (simp [*, errW_none, errW_some] <;> rfl), by repeat (first | (with_reducible first | exact HB.out | apply below_alloc | apply pw_below_drewN | apply below_drew1) | exact HB.out)⟩
              · rw [if_neg c26] at H
                have c26b0 : (t226 == 0) = false := beq_eq_false_iff_ne.mpr c26
                have c26b1 : (t226 != 0) = true := bne_iff_ne.mpr c26
                (first | rw [c26b0] | (simp only [i64_w, i32_w]; rw [c26b0]) | skip)
                obtain rfl := Option.some.inj H
                go_wp2
                go_ret
                exact ⟨by first | rfl | (simp [errW_none, errW_some] <;> rfl) | (simp [*, errW_none, errW_some] <;> rfl), by repeat (first | (with_reducible first | exact HB.out | apply below_alloc | apply pw_below_drewN | apply below_drew1) | exact HB.out)⟩
            · replace c25 := Bool.eq_false_iff.mpr c25
              subst c25
              have H1 : (if t226 = 30 then (if t225 = 0 then (conclavelaw03_HeapPaths.j1 kj14 a0 a2 t215 t216 t219 t220) else (some false)) else (some false)) = some r := by rw [if_neg (show ¬ (false = true) by decide)] at H; exact H
              clear H
              have H := H1
              clear H1
              by_cases c29 : t226 = 30
              · rw [if_pos c29] at H
                have c29b0 : (t226 == 30) = true := beq_iff_eq.mpr c29
                have c29b1 : (t226 != 30) = false := bne_eq_false_iff_eq.mpr c29
                clear c29
                by_cases c30 : t225 = 0
                · rw [if_pos c30] at H
                  have c30b0 : (t225 == 0) = true := beq_iff_eq.mpr c30
                  have c30b1 : (t225 != 0) = false := bne_eq_false_iff_eq.mpr c30
                  clear c30
                  have H' := Aside0.mk H
                  clear H
                  go_wp2
                  go_meet
                  case rel => exact ⟨_, H', ⟨by have := HJ14.out; first | omega | exact Nat.le_refl _⟩, ⟨by (with_reducible repeat (first | apply Kd.R_alloc | apply Kd.R_drewN | apply Kd.R_drew)); exact HO_7.out⟩, ⟨by (with_reducible repeat (first | apply Kd.R_alloc | apply Kd.R_drewN | apply Kd.R_drew)); exact HO_9.out⟩, ⟨by repeat (first | (with_reducible first | exact HB.out | apply below_alloc | apply pw_below_drewN | apply below_drew1) | exact HB.out)⟩⟩
                · rw [if_neg c30] at H
                  have c30b0 : (t225 == 0) = false := beq_eq_false_iff_ne.mpr c30
                  have c30b1 : (t225 != 0) = true := bne_iff_ne.mpr c30
                  obtain rfl := Option.some.inj H
                  go_wp2
                  go_ret
                  exact ⟨by first | rfl | (simp [errW_none, errW_some] <;> rfl) | (simp [*, errW_none, errW_some] <;> rfl), by repeat (first | (with_reducible first | exact HB.out | apply below_alloc | apply pw_below_drewN | apply below_drew1) | exact HB.out)⟩
              · rw [if_neg c29] at H
                have c29b0 : (t226 == 30) = false := beq_eq_false_iff_ne.mpr c29
                have c29b1 : (t226 != 30) = true := bne_iff_ne.mpr c29
                obtain rfl := Option.some.inj H
                go_wp2
                go_ret
                exact ⟨by first | rfl | (simp [errW_none, errW_some] <;> rfl) | (simp [*, errW_none, errW_some] <;> rfl), by repeat (first | (with_reducible first | exact HB.out | apply below_alloc | apply pw_below_drewN | apply below_drew1) | exact HB.out)⟩
          case rest =>
            clear HC24
            try clear c1
            try clear c2
            try clear p2
            try clear c3
            try clear c5
            try clear c6
            try clear c9
            try clear c10
            try clear c10b0
            try clear c10b1
            try clear c10b2
            try clear c12
            try clear c15
            try clear c20
            try clear c21
            try clear c21b0
            try clear c22
            try clear c22b0
            try clear c23
            try clear c23b0
            try clear c24
            try clear c25
            try clear c26
            try clear c26b0
            try clear c26b1
            try clear c28
            try clear c28b0
            try clear c28b1
            try clear c29
            try clear c29b0
            try clear c29b1
            try clear c30
            try clear c30b0
            try clear c30b1
            try clear p2
            obtain ⟨kq, HA, HJ23, HO_7, HO_9, HB⟩ := hcut
            cases kq with
            | zero => exact absurd HA.out (by simp [conclavelaw03_HeapPaths.j1])
            | succ kj23 =>
              have H := HA.out
              clear HA
              simp only [conclavelaw03_HeapPaths.j1] at H
              replace H := Option.bind_eq_some_iff.mp H
              obtain ⟨t229, A310, H⟩ := H
              replace H : (if t229 = true then (if t216 = 0 then (if t220 = 0 then ((conclaveref03_Path.f kj23 a0 a2).bind fun t230 => ((conclaveref01_Ints.f kj23 t215 t230).bind fun t233 => (if t233 = true then ((conclaveref03_Copath.f kj23 a0 a2).bind fun t234 => ((conclaveref01_Ints.f kj23 t219 t234).bind fun t237 => (some t237))) else (some false)))) else (some false)) else (some false)) else (if t216 = 30 then (if t220 = 30 then (if (t215.length : Int) = 0 then (some ((t219.length : Int) == 0)) else (some false)) else (some false)) else (some false))) = some r := H
              have A31 := Aside0.mk A310
              clear A310
              by_cases c32 : t229 = true
              · subst c32
                have H1 : (if t216 = 0 then (if t220 = 0 then ((conclaveref03_Path.f kj23 a0 a2).bind fun t230 => ((conclaveref01_Ints.f kj23 t215 t230).bind fun t233 => (if t233 = true then ((conclaveref03_Copath.f kj23 a0 a2).bind fun t234 => ((conclaveref01_Ints.f kj23 t219 t234).bind fun t237 => (some t237))) else (some false)))) else (some false)) else (some false)) = some r := by rw [if_pos rfl] at H; exact H
                clear H
                have H := H1
                clear H1
                by_cases c33 : t216 = 0
                · rw [if_pos c33] at H
                  have c33b0 : (t216 == 0) = true := beq_iff_eq.mpr c33
                  have c33b1 : (t216 != 0) = false := bne_eq_false_iff_eq.mpr c33
                  clear c33
                  by_cases c34 : t220 = 0
                  · rw [if_pos c34] at H
                    have c34b0 : (t220 == 0) = true := beq_iff_eq.mpr c34
                    have c34b1 : (t220 != 0) = false := bne_eq_false_iff_eq.mpr c34
                    clear c34
                    replace H := Option.bind_eq_some_iff.mp H
                    obtain ⟨t230, A350, H⟩ := H
                    replace H : ((conclaveref01_Ints.f kj23 t215 t230).bind fun t233 => (if t233 = true then ((conclaveref03_Copath.f kj23 a0 a2).bind fun t234 => ((conclaveref01_Ints.f kj23 t219 t234).bind fun t237 => (some t237))) else (some false))) = some r := H
                    have A35 := Aside0.mk A350
                    clear A350
                    replace H := Option.bind_eq_some_iff.mp H
                    obtain ⟨t233, A360, H⟩ := H
                    replace H : (if t233 = true then ((conclaveref03_Copath.f kj23 a0 a2).bind fun t234 => ((conclaveref01_Ints.f kj23 t219 t234).bind fun t237 => (some t237))) else (some false)) = some r := H
                    have A36 := Aside0.mk A360
                    clear A360
                    by_cases c37 : t233 = true
                    · subst c37
                      have H1 : ((conclaveref03_Copath.f kj23 a0 a2).bind fun t234 => ((conclaveref01_Ints.f kj23 t219 t234).bind fun t237 => (some t237))) = some r := by rw [if_pos rfl] at H; exact H
                      clear H
                      have H := H1
                      clear H1
                      replace H := Option.bind_eq_some_iff.mp H
                      obtain ⟨t234, A380, H⟩ := H
                      replace H : ((conclaveref01_Ints.f kj23 t219 t234).bind fun t237 => (some t237)) = some r := H
                      have A38 := Aside0.mk A380
                      clear A380
                      replace H := Option.bind_eq_some_iff.mp H
                      obtain ⟨t237, A390, H⟩ := H
                      replace H : (some t237) = some r := H
                      have A39 := Aside0.mk A390
                      clear A390
                      obtain rfl := Option.some.inj H
                      go_wp2_with (first | ((with_reducible refine gate_callee (f := 11) rfl ?_); refine goesL_ (some 81) rfl rfl Tryd.func11 (by kernel_rfl) rfl #[.int .i64 a0, .int .i64 a2] rfl (by (try simp only [List.map_toArray, List.map_cons, List.map_nil]); first | done | rfl | (simp only [List.length_drop, List.length_take]; rfl)) ?_; (with_reducible refine (conclaveref03_In.calls a0 a2 true _ A31.out).mono ?_); rintro e w' ⟨rfl, ⟨nd, rfl⟩⟩; refine ⟨_, rfl, ?_⟩) | (go_at_call 28; (with_reducible refine (conclaveref03_Path.calls kj23 a0 a2 t230 _ A35.out).mono ?_); rintro e w40 ⟨v231, rfl, ho0, hb⟩; have n0_ := Aside0.mk (Kd.R_elder' (by (with_reducible repeat (first | apply Kd.R_alloc | apply Kd.R_drewN | apply Kd.R_drew)); exact HO_7.out) (Kd.R_base ho0) hb); have n1_ := Aside0.mk (Kd.R_elder' (by (with_reducible repeat (first | apply Kd.R_alloc | apply Kd.R_drewN | apply Kd.R_drew)); exact HO_9.out) (Kd.R_base ho0) hb); have n2_ := Aside0.mk (Kd.R_lower (Kd.R_new' (Kd.R_new' ho0 (Kd.R_lt (by (with_reducible repeat (first | apply Kd.R_alloc | apply Kd.R_drewN | apply Kd.R_drew)); exact HO_7.out))) (Kd.R_lt (by (with_reducible repeat (first | apply Kd.R_alloc | apply Kd.R_drewN | apply Kd.R_drew)); exact HO_9.out))) (below_size (by repeat (first | (with_reducible first | exact HB.out | apply below_alloc | apply pw_below_drewN | apply below_drew1) | exact HB.out)))); have n3_ := Aside0.mk (below_step (by repeat (first | (with_reducible first | exact HB.out | apply below_alloc | apply pw_below_drewN | apply below_drew1) | exact HB.out)) hb); clear HO_7; clear HO_9; clear HB; have HO_7 := n0_; have HO_9 := n1_; have HO232 := n2_; have HB := n3_; clear n0_ n1_ n2_ n3_; (try clear hb); (try clear hb2); (try clear hk); (try clear hi); (try clear ho0); obtain ⟨Ao41, co41, eo41⟩ := Kd.R_slice HO_7.out; subst eo41; obtain ⟨Ao42, co42, eo42⟩ := Kd.R_slice HO232.out; subst eo42) | (go_at_call 27; (with_reducible refine (conclaveref01_Ints.calls kj23 _ _ t215 _ _ t230 true _ ?side1 ?side2 ?side3 ?side4 A36.out).mono ?_); (case side1 => repeat (first | exact (Kd.R_reads' HO_7.out).2.2 | (with_reducible refine Kd.C_alloc ?_ _) | (with_reducible refine Kd.C_drewN ?_ _) | (with_reducible refine Kd.C_drew ?_))); (case side2 => exact (Kd.R_reads' HO_7.out).2.1); (case side3 => repeat (first | exact (Kd.R_reads' HO232.out).2.2 | (with_reducible refine Kd.C_alloc ?_ _) | (with_reducible refine Kd.C_drewN ?_ _) | (with_reducible refine Kd.C_drew ?_))); (case side4 => exact (Kd.R_reads' HO232.out).2.1); rintro e w' ⟨rfl, ⟨nd, rfl⟩⟩) | (go_at_call 29; (with_reducible refine (conclaveref03_Copath.calls kj23 a0 a2 t234 _ A38.out).mono ?_); rintro e w43 ⟨v235, rfl, ho0, hb⟩; have n0_ := Aside0.mk (Kd.R_elder' (by (with_reducible repeat (first | apply Kd.R_alloc | apply Kd.R_drewN | apply Kd.R_drew)); exact HO_7.out) (Kd.R_base ho0) hb); have n1_ := Aside0.mk (Kd.R_elder' (by (with_reducible repeat (first | apply Kd.R_alloc | apply Kd.R_drewN | apply Kd.R_drew)); exact HO_9.out) (Kd.R_base ho0) hb); have n2_ := Aside0.mk (Kd.R_elder' (by (with_reducible repeat (first | apply Kd.R_alloc | apply Kd.R_drewN | apply Kd.R_drew)); exact HO232.out) (Kd.R_base ho0) hb); have n3_ := Aside0.mk (Kd.R_lower (Kd.R_new' (Kd.R_new' (Kd.R_new' ho0 (Kd.R_lt (by (with_reducible repeat (first | apply Kd.R_alloc | apply Kd.R_drewN | apply Kd.R_drew)); exact HO_7.out))) (Kd.R_lt (by (with_reducible repeat (first | apply Kd.R_alloc | apply Kd.R_drewN | apply Kd.R_drew)); exact HO_9.out))) (Kd.R_lt (by (with_reducible repeat (first | apply Kd.R_alloc | apply Kd.R_drewN | apply Kd.R_drew)); exact HO232.out))) (below_size (by repeat (first | (with_reducible first | exact HB.out | apply below_alloc | apply pw_below_drewN | apply below_drew1) | exact HB.out)))); have n4_ := Aside0.mk (below_step (by repeat (first | (with_reducible first | exact HB.out | apply below_alloc | apply pw_below_drewN | apply below_drew1) | exact HB.out)) hb); clear HO_7; clear HO_9; clear HO232; clear HB; have HO_7 := n0_; have HO_9 := n1_; have HO232 := n2_; have HO236 := n3_; have HB := n4_; clear n0_ n1_ n2_ n3_ n4_; (try clear hb); (try clear hb2); (try clear hk); (try clear hi); (try clear ho0); obtain ⟨Ao44, co44, eo44⟩ := Kd.R_slice HO_9.out; subst eo44; obtain ⟨Ao45, co45, eo45⟩ := Kd.R_slice HO236.out; subst eo45) | (go_at_call 27; (with_reducible refine (conclaveref01_Ints.calls kj23 _ _ t219 _ _ t234 t237 _ ?side1 ?side2 ?side3 ?side4 A39.out).mono ?_); (case side1 => repeat (first | exact (Kd.R_reads' HO_9.out).2.2 | (with_reducible refine Kd.C_alloc ?_ _) | (with_reducible refine Kd.C_drewN ?_ _) | (with_reducible refine Kd.C_drew ?_))); (case side2 => exact (Kd.R_reads' HO_9.out).2.1); (case side3 => repeat (first | exact (Kd.R_reads' HO236.out).2.2 | (with_reducible refine Kd.C_alloc ?_ _) | (with_reducible refine Kd.C_drewN ?_ _) | (with_reducible refine Kd.C_drew ?_))); (case side4 => exact (Kd.R_reads' HO236.out).2.1); rintro e w' ⟨rfl, ⟨nd, rfl⟩⟩))
                      go_ret
                      exact ⟨by first | rfl | (simp [errW_none, errW_some] <;> rfl) | (simp [*, errW_none, errW_some] <;> rfl), by repeat (first | (with_reducible first | exact HB.out | apply below_alloc | apply pw_below_drewN | apply below_drew1) | exact HB.out)⟩
                    · replace c37 := Bool.eq_false_iff.mpr c37
                      subst c37
                      have H1 : (some false) = some r := by rw [if_neg (show ¬ (false = true) by decide)] at H; exact H
                      clear H
                      have H := H1
                      clear H1
                      obtain rfl := Option.some.inj H
                      go_wp2_with (first | ((with_reducible refine gate_callee (f := 11) rfl ?_); refine goesL_ (some 81) rfl rfl Tryd.func11 (by kernel_rfl) rfl #[.int .i64 a0, .int .i64 a2] rfl (by (try simp only [List.map_toArray, List.map_cons, List.map_nil]); first | done | rfl | (simp only [List.length_drop, List.length_take]; rfl)) ?_; (with_reducible refine (conclaveref03_In.calls a0 a2 true _ A31.out).mono ?_); rintro e w' ⟨rfl, ⟨nd, rfl⟩⟩; refine ⟨_, rfl, ?_⟩) | (go_at_call 28; (with_reducible refine (conclaveref03_Path.calls kj23 a0 a2 t230 _ A35.out).mono ?_); rintro e w46 ⟨v231, rfl, ho0, hb⟩; have n0_ := Aside0.mk (Kd.R_elder' (by (with_reducible repeat (first | apply Kd.R_alloc | apply Kd.R_drewN | apply Kd.R_drew)); exact HO_7.out) (Kd.R_base ho0) hb); have n1_ := Aside0.mk (Kd.R_elder' (by (with_reducible repeat (first | apply Kd.R_alloc | apply Kd.R_drewN | apply Kd.R_drew)); exact HO_9.out) (Kd.R_base ho0) hb); have n2_ := Aside0.mk (Kd.R_lower (Kd.R_new' (Kd.R_new' ho0 (Kd.R_lt (by (with_reducible repeat (first | apply Kd.R_alloc | apply Kd.R_drewN | apply Kd.R_drew)); exact HO_7.out))) (Kd.R_lt (by (with_reducible repeat (first | apply Kd.R_alloc | apply Kd.R_drewN | apply Kd.R_drew)); exact HO_9.out))) (below_size (by repeat (first | (with_reducible first | exact HB.out | apply below_alloc | apply pw_below_drewN | apply below_drew1) | exact HB.out)))); have n3_ := Aside0.mk (below_step (by repeat (first | (with_reducible first | exact HB.out | apply below_alloc | apply pw_below_drewN | apply below_drew1) | exact HB.out)) hb); clear HO_7; clear HO_9; clear HB; have HO_7 := n0_; have HO_9 := n1_; have HO232 := n2_; have HB := n3_; clear n0_ n1_ n2_ n3_; (try clear hb); (try clear hb2); (try clear hk); (try clear hi); (try clear ho0); obtain ⟨Ao47, co47, eo47⟩ := Kd.R_slice HO_7.out; subst eo47; obtain ⟨Ao48, co48, eo48⟩ := Kd.R_slice HO232.out; subst eo48) | (go_at_call 27; (with_reducible refine (conclaveref01_Ints.calls kj23 _ _ t215 _ _ t230 false _ ?side1 ?side2 ?side3 ?side4 A36.out).mono ?_); (case side1 => repeat (first | exact (Kd.R_reads' HO_7.out).2.2 | (with_reducible refine Kd.C_alloc ?_ _) | (with_reducible refine Kd.C_drewN ?_ _) | (with_reducible refine Kd.C_drew ?_))); (case side2 => exact (Kd.R_reads' HO_7.out).2.1); (case side3 => repeat (first | exact (Kd.R_reads' HO232.out).2.2 | (with_reducible refine Kd.C_alloc ?_ _) | (with_reducible refine Kd.C_drewN ?_ _) | (with_reducible refine Kd.C_drew ?_))); (case side4 => exact (Kd.R_reads' HO232.out).2.1); rintro e w' ⟨rfl, ⟨nd, rfl⟩⟩))
                      go_ret
                      exact ⟨by first | rfl | (simp [errW_none, errW_some] <;> rfl) | (simp [*, errW_none, errW_some] <;> rfl), by repeat (first | (with_reducible first | exact HB.out | apply below_alloc | apply pw_below_drewN | apply below_drew1) | exact HB.out)⟩
                  · rw [if_neg c34] at H
                    have c34b0 : (t220 == 0) = false := beq_eq_false_iff_ne.mpr c34
                    have c34b1 : (t220 != 0) = true := bne_iff_ne.mpr c34
                    obtain rfl := Option.some.inj H
                    go_wp2_with (first | ((with_reducible refine gate_callee (f := 11) rfl ?_); refine goesL_ (some 81) rfl rfl Tryd.func11 (by kernel_rfl) rfl #[.int .i64 a0, .int .i64 a2] rfl (by (try simp only [List.map_toArray, List.map_cons, List.map_nil]); first | done | rfl | (simp only [List.length_drop, List.length_take]; rfl)) ?_; (with_reducible refine (conclaveref03_In.calls a0 a2 true _ A31.out).mono ?_); rintro e w' ⟨rfl, ⟨nd, rfl⟩⟩; refine ⟨_, rfl, ?_⟩))
                    go_ret
                    exact ⟨by first | rfl | (simp [errW_none, errW_some] <;> rfl) | (simp [*, errW_none, errW_some] <;> rfl), by repeat (first | (with_reducible first | exact HB.out | apply below_alloc | apply pw_below_drewN | apply below_drew1) | exact HB.out)⟩
                · rw [if_neg c33] at H
                  have c33b0 : (t216 == 0) = false := beq_eq_false_iff_ne.mpr c33
                  have c33b1 : (t216 != 0) = true := bne_iff_ne.mpr c33
                  obtain rfl := Option.some.inj H
                  go_wp2_with (first | ((with_reducible refine gate_callee (f := 11) rfl ?_); refine goesL_ (some 81) rfl rfl Tryd.func11 (by kernel_rfl) rfl #[.int .i64 a0, .int .i64 a2] rfl (by (try simp only [List.map_toArray, List.map_cons, List.map_nil]); first | done | rfl | (simp only [List.length_drop, List.length_take]; rfl)) ?_; (with_reducible refine (conclaveref03_In.calls a0 a2 true _ A31.out).mono ?_); rintro e w' ⟨rfl, ⟨nd, rfl⟩⟩; refine ⟨_, rfl, ?_⟩))
                  go_ret
                  exact ⟨by first | rfl | (simp [errW_none, errW_some] <;> rfl) | (simp [*, errW_none, errW_some] <;> rfl), by repeat (first | (with_reducible first | exact HB.out | apply below_alloc | apply pw_below_drewN | apply below_drew1) | exact HB.out)⟩
              · replace c32 := Bool.eq_false_iff.mpr c32
                subst c32
                have H1 : (if t216 = 30 then (if t220 = 30 then (if (t215.length : Int) = 0 then (some ((t219.length : Int) == 0)) else (some false)) else (some false)) else (some false)) = some r := by rw [if_neg (show ¬ (false = true) by decide)] at H; exact H
                clear H
                have H := H1
                clear H1
                by_cases c49 : t216 = 30
                · rw [if_pos c49] at H
                  have c49b0 : (t216 == 30) = true := beq_iff_eq.mpr c49
                  have c49b1 : (t216 != 30) = false := bne_eq_false_iff_eq.mpr c49
                  clear c49
                  by_cases c50 : t220 = 30
                  · rw [if_pos c50] at H
                    have c50b0 : (t220 == 30) = true := beq_iff_eq.mpr c50
                    have c50b1 : (t220 != 30) = false := bne_eq_false_iff_eq.mpr c50
                    clear c50
                    by_cases c51 : (t215.length : Int) = 0
                    · rw [if_pos c51] at H
                      have c51b0 : ((t215.length : Int) == 0) = true := beq_iff_eq.mpr c51
                      have c51b1 : ((t215.length : Int) != 0) = false := bne_eq_false_iff_eq.mpr c51
                      clear c51
                      obtain rfl := Option.some.inj H
                      go_wp2_with (first | ((with_reducible refine gate_callee (f := 11) rfl ?_); refine goesL_ (some 81) rfl rfl Tryd.func11 (by kernel_rfl) rfl #[.int .i64 a0, .int .i64 a2] rfl (by (try simp only [List.map_toArray, List.map_cons, List.map_nil]); first | done | rfl | (simp only [List.length_drop, List.length_take]; rfl)) ?_; (with_reducible refine (conclaveref03_In.calls a0 a2 false _ A31.out).mono ?_); rintro e w' ⟨rfl, ⟨nd, rfl⟩⟩; refine ⟨_, rfl, ?_⟩; obtain ⟨Ao52, co52, eo52⟩ := Kd.R_slice HO_7.out; subst eo52; obtain ⟨Ao53, co53, eo53⟩ := Kd.R_slice HO_9.out; subst eo53))
                      go_ret
                      exact ⟨by first | rfl | (simp [errW_none, errW_some] <;> rfl) | (simp [*, errW_none, errW_some] <;> rfl), by repeat (first | (with_reducible first | exact HB.out | apply below_alloc | apply pw_below_drewN | apply below_drew1) | exact HB.out)⟩
                    · rw [if_neg c51] at H
                      have c51b0 : ((t215.length : Int) == 0) = false := beq_eq_false_iff_ne.mpr c51
                      have c51b1 : ((t215.length : Int) != 0) = true := bne_iff_ne.mpr c51
                      have c51b2 : ¬ (t215 = []) := fun h_ => c51 (by rw [h_]; rfl)
                      obtain rfl := Option.some.inj H
                      go_wp2_with (first | ((with_reducible refine gate_callee (f := 11) rfl ?_); refine goesL_ (some 81) rfl rfl Tryd.func11 (by kernel_rfl) rfl #[.int .i64 a0, .int .i64 a2] rfl (by (try simp only [List.map_toArray, List.map_cons, List.map_nil]); first | done | rfl | (simp only [List.length_drop, List.length_take]; rfl)) ?_; (with_reducible refine (conclaveref03_In.calls a0 a2 false _ A31.out).mono ?_); rintro e w' ⟨rfl, ⟨nd, rfl⟩⟩; refine ⟨_, rfl, ?_⟩; obtain ⟨Ao54, co54, eo54⟩ := Kd.R_slice HO_7.out; subst eo54))
                      go_ret
                      exact ⟨by first | rfl | (simp [errW_none, errW_some] <;> rfl) | (simp [*, errW_none, errW_some] <;> rfl), by repeat (first | (with_reducible first | exact HB.out | apply below_alloc | apply pw_below_drewN | apply below_drew1) | exact HB.out)⟩
                  · rw [if_neg c50] at H
                    have c50b0 : (t220 == 30) = false := beq_eq_false_iff_ne.mpr c50
                    have c50b1 : (t220 != 30) = true := bne_iff_ne.mpr c50
                    obtain rfl := Option.some.inj H
                    go_wp2_with (first | ((with_reducible refine gate_callee (f := 11) rfl ?_); refine goesL_ (some 81) rfl rfl Tryd.func11 (by kernel_rfl) rfl #[.int .i64 a0, .int .i64 a2] rfl (by (try simp only [List.map_toArray, List.map_cons, List.map_nil]); first | done | rfl | (simp only [List.length_drop, List.length_take]; rfl)) ?_; (with_reducible refine (conclaveref03_In.calls a0 a2 false _ A31.out).mono ?_); rintro e w' ⟨rfl, ⟨nd, rfl⟩⟩; refine ⟨_, rfl, ?_⟩))
                    go_ret
                    exact ⟨by first | rfl | (simp [errW_none, errW_some] <;> rfl) | (simp [*, errW_none, errW_some] <;> rfl), by repeat (first | (with_reducible first | exact HB.out | apply below_alloc | apply pw_below_drewN | apply below_drew1) | exact HB.out)⟩
                · rw [if_neg c49] at H
                  have c49b0 : (t216 == 30) = false := beq_eq_false_iff_ne.mpr c49
                  have c49b1 : (t216 != 30) = true := bne_iff_ne.mpr c49
                  obtain rfl := Option.some.inj H
                  go_wp2_with (first | ((with_reducible refine gate_callee (f := 11) rfl ?_); refine goesL_ (some 81) rfl rfl Tryd.func11 (by kernel_rfl) rfl #[.int .i64 a0, .int .i64 a2] rfl (by (try simp only [List.map_toArray, List.map_cons, List.map_nil]); first | done | rfl | (simp only [List.length_drop, List.length_take]; rfl)) ?_; (with_reducible refine (conclaveref03_In.calls a0 a2 false _ A31.out).mono ?_); rintro e w' ⟨rfl, ⟨nd, rfl⟩⟩; refine ⟨_, rfl, ?_⟩))
                  go_ret
                  exact ⟨by first | rfl | (simp [errW_none, errW_some] <;> rfl) | (simp [*, errW_none, errW_some] <;> rfl), by repeat (first | (with_reducible first | exact HB.out | apply below_alloc | apply pw_below_drewN | apply below_drew1) | exact HB.out)⟩
  · replace c5 := Bool.eq_false_iff.mpr c5
    subst c5
    have H1 : (some false) = some r := by rw [if_neg (show ¬ (false = true) by decide)] at H; exact H
    clear H
    have H := H1
    clear H1
    obtain rfl := Option.some.inj H
    go_enter Tryd.func6, Tryd.ntmps6
    go_wp2_with (first | ((with_reducible refine gate_callee (f := 9) rfl ?_); refine goesL_ (some 13) rfl rfl Tryd.func9 (by kernel_rfl) rfl #[] rfl (by (try simp only [List.map_toArray, List.map_cons, List.map_nil]); first | done | rfl | (simp only [List.length_drop, List.length_take]; rfl)) ?_; (with_reducible refine (conclavelaw03_anchor.calls (hrG := ?sideG) k  false _ A4.out).mono ?_); (case sideG => (first | exact HRG.out | exact TabG.below HRG.out (by repeat (first | (with_reducible first | exact HB.out | apply below_alloc | apply pw_below_drewN | apply below_drew1) | exact HB.out | exact Below.refl _ _)))); rintro e w55 ⟨rfl, hb⟩; refine ⟨_, rfl, ?_⟩; have n0_ := Aside0.mk (below_step (by repeat (first | (with_reducible first | exact HB.out | apply below_alloc | apply pw_below_drewN | apply below_drew1) | exact HB.out)) hb); clear HB; have HB := n0_; clear n0_; (try clear hb); (try clear hb2); (try clear hk); (try clear hi)))
    go_ret
    exact ⟨by first | rfl | (simp [errW_none, errW_some] <;> rfl) | (simp [*, errW_none, errW_some] <;> rfl), by repeat (first | (with_reducible first | exact HB.out | apply below_alloc | apply pw_below_drewN | apply below_drew1) | exact HB.out)⟩

/-- THE ONE PURE STATEMENT of conclavelaw03_HeapPaths: yours. -/
def conclavelaw03_HeapPaths.Pure : Prop := ∀ (a0 : Int) (a1 : Int) (a2 : Int), (Lit.int .i64 a0).wf = true → (Lit.int .i64 a1).wf = true → (Lit.int .i64 a2).wf = true → ∃ k, conclavelaw03_HeapPaths.f k a0 a1 a2 = some true
theorem conclavelaw03_HeapPaths.walk (P : conclavelaw03_HeapPaths.Pure) (a0 : Int) (a1 : Int) (a2 : Int) (w : World) (hrG : TabG w) (w0 : (Lit.int .i64 a0).wf = true) (w1 : (Lit.int .i64 a1).wf = true) (w2 : (Lit.int .i64 a2).wf = true) :
    Calls Tryd.prog 6 #[.int .i64 a0, .int .i64 a1, .int .i64 a2] w fun e w' => e = .returned (.bool true) ∧ Below w.heap.size w w' := by
  obtain ⟨k, h⟩ := P a0 a1 a2 w0 w1 w2
  refine (conclavelaw03_HeapPaths.calls (hrG := hrG) k a0 a1 a2 true w h).mono ?_
  rintro e w' ⟨rfl, hd⟩
  exact ⟨rfl, hd⟩

end Go.Proofs.YtmioejkhhcjfpaaDoor.PHe
