/- What this claim reaches of a longer text of this session. -/
import Derived.Test.YteljmaebhjhedaaDoorPTwx0
import Derived.Test.YteljmaebhjhedaaDoorPTwx1
import Derived.Test.YteljmaebhjhedaaDoorPTwx2
import Derived.Test.YteljmaebhjhedaaDoorPTwx3
import Derived.Test.YteljmaebhjhedaaDoorPTwx4
import Derived.Test.YteljmaebhjhedaaDoorPTwx5
import Derived.Test.YteljmaebhjhedaaDoorPTwx7
import Derived.Test.YteljmaebhjhedaaDoorPTwx8
namespace Go.Proofs.YteljmaebhjhedaaDoor.PTw
open Go.RowKit Go.Proofs.YteljmaebhjhedaaDoorW.PrintWords Go.Proofs.YteljmaebhjhedaaDoorW.PrintLast Go.Proofs.YteljmaebhjhedaaDoorW.PrintMore
attribute [local go_sem] max2_int min2_int max_two min_two max_three min_three max_four min_four   -- for this text's walks alone
set_option linter.unusedVariables false
set_option linter.unusedSimpArgs false
attribute [local go_sem high] eqA40
mutual
def conclavelaw09_CardChecks.j0 : Nat → Int → List Int → Int → Int → Int → Int → Int → Int → T2 → Option (Bool)
 | 0, _, _, _, _, _, _, _, _, _ => none
 | k + 1, x1, x2, x280000, x280001, x280002, x280003, x280004, x280005, x283000 => conclavelaw09_CardChecks.l0 k x1 x2 1 x280000 x280001 x280002 x280003 x280004 x280005 x283000
def conclavelaw09_CardChecks.l0 : Nat → Int → List Int → Int → Int → Int → Int → Int → Int → Int → T2 → Option (Bool)
 | 0, _, _, _, _, _, _, _, _, _, _ => none
 | k + 1, x1, x2, x10, x280000, x280001, x280002, x280003, x280004, x280005, x283000 => (term_Store_Len.f x283000).bind fun bt298 => (if x10 ≤ bt298.1 then ((term_Store_Get.f bt298.2 x10).bind fun bt311 => ((conclaveref01_Store_Get.f bt311.2.2.2.2.2 x10).bind fun bt318 => (if (!(bt311.1 == bt318.1) || (!(bt311.2.1.toList == bt318.2.1.toList) || (!(bt311.2.2.1 == bt318.2.2.1) || (!(bt311.2.2.2.1 == bt318.2.2.2.1))))) = true then (some true) else (conclavelaw09_CardChecks.l0 k x1 x2 (wrap64 (x10 + 1)) x280000 x280001 x280002 x280003 x280004 x280005 bt318.2.2.2.2)))) else ((some (([] : List Int) : List Int)).bind fun y301 => (if y301.length + x2.length < 17592186044416 then ((card_Check.f k bt298.2 x280000 x280001 x280002 x280003 x280004 x280005 x1 (y301 ++ x2)).bind fun bt307 => ((conclaveref09_Check.f k bt307.2 x280000 x280001 x280002 x280003 x280004 x280005 x1 x2).bind fun bt309 => (some (bt307.1 == bt309.1)))) else (none))))
end
def conclavelaw09_CardChecks.f (k : Nat) (a0_0 : Int) (a0_1 : Int) (a0_2 : Int) (a0_3 : Int) (a0_4 : Int) (a0_5 : Int) (a1 : Int) (l2 : List Int) : Option (Bool) := (conclavelaw09_anchor.f k).bind fun t280 => (if t280 = true then (if (l2.length : Int) > 100 then (some true) else ((conclavelaw09_stores.f 9).bind fun t281 => ((card_Make.f k t281 1 1 2 3 7).bind fun bt283 => ((conclaveref09_Make.f k bt283.2.2.2.2.2.2 1 1 2 3 7).bind fun bt291 => (if a0_5 = (-1) then (conclavelaw09_CardChecks.j0 k a1 l2 a0_0 a0_1 a0_2 a0_3 a0_4 bt283.2.2.2.2.2.1 bt291.2.2.2.2.2.2) else (conclavelaw09_CardChecks.j0 k a1 l2 a0_0 a0_1 a0_2 a0_3 a0_4 a0_5 bt291.2.2.2.2.2.2)))))) else (some false))
theorem conclavelaw09_CardChecks.mono_l : ∀ k, (∀ y0 y1 y2 y3 y4 y5 y6 y7 y8, LeO (conclavelaw09_CardChecks.j0 k y0 y1 y2 y3 y4 y5 y6 y7 y8) (conclavelaw09_CardChecks.j0 (k + 1) y0 y1 y2 y3 y4 y5 y6 y7 y8)) ∧ (∀ y0 y1 y2 y3 y4 y5 y6 y7 y8 y9, LeO (conclavelaw09_CardChecks.l0 k y0 y1 y2 y3 y4 y5 y6 y7 y8 y9) (conclavelaw09_CardChecks.l0 (k + 1) y0 y1 y2 y3 y4 y5 y6 y7 y8 y9))
 | 0 => ⟨fun _ _ _ _ _ _ _ _ _ r h => by simp [conclavelaw09_CardChecks.j0] at h, fun _ _ _ _ _ _ _ _ _ _ r h => by simp [conclavelaw09_CardChecks.l0] at h⟩
 | k + 1 => by
  obtain ⟨ih0, ih1⟩ := conclavelaw09_CardChecks.mono_l k
  refine ⟨?_, ?_⟩
  ·
   intro y0 y1 y2 y3 y4 y5 y6 y7 y8
   unfold conclavelaw09_CardChecks.j0
   repeat' first
   | (with_reducible exact ih0 _ _ _ _ _ _ _ _ _)
   | (with_reducible exact ih1 _ _ _ _ _ _ _ _ _ _)
   | (with_reducible exact card_Check.mono _ _ _ _ _ _ _ _ _ _)
   | (with_reducible exact card_Make.mono _ _ _ _ _ _ _)
   | (with_reducible exact conclavelaw09_anchor.mono _)
   | (with_reducible exact conclaveref09_Check.mono _ _ _ _ _ _ _ _ _ _)
   | (with_reducible exact conclaveref09_Make.mono _ _ _ _ _ _ _)
   | (with_reducible exact LeO.refl _)
   | (with_reducible exact LeO.none _)
   | (with_reducible refine LeO.ite ?_ ?_)
   | (with_reducible refine LeO.bind ?_ (fun _ => ?_))
   | exact ih0 _ _ _ _ _ _ _ _ _
   | exact ih1 _ _ _ _ _ _ _ _ _ _
   | exact card_Check.mono _ _ _ _ _ _ _ _ _ _
   | exact card_Make.mono _ _ _ _ _ _ _
   | exact conclavelaw09_anchor.mono _
   | exact conclaveref09_Check.mono _ _ _ _ _ _ _ _ _ _
   | exact conclaveref09_Make.mono _ _ _ _ _ _ _
   | exact LeO.none _
   | refine LeO.ite ?_ ?_
   | refine LeO.bind ?_ (fun _ => ?_)
  ·
   intro y0 y1 y2 y3 y4 y5 y6 y7 y8 y9
   unfold conclavelaw09_CardChecks.l0
   repeat' first
   | (with_reducible exact ih0 _ _ _ _ _ _ _ _ _)
   | (with_reducible exact ih1 _ _ _ _ _ _ _ _ _ _)
   | (with_reducible exact card_Check.mono _ _ _ _ _ _ _ _ _ _)
   | (with_reducible exact card_Make.mono _ _ _ _ _ _ _)
   | (with_reducible exact conclavelaw09_anchor.mono _)
   | (with_reducible exact conclaveref09_Check.mono _ _ _ _ _ _ _ _ _ _)
   | (with_reducible exact conclaveref09_Make.mono _ _ _ _ _ _ _)
   | (with_reducible exact LeO.refl _)
   | (with_reducible exact LeO.none _)
   | (with_reducible refine LeO.ite ?_ ?_)
   | (with_reducible refine LeO.bind ?_ (fun _ => ?_))
   | exact ih0 _ _ _ _ _ _ _ _ _
   | exact ih1 _ _ _ _ _ _ _ _ _ _
   | exact card_Check.mono _ _ _ _ _ _ _ _ _ _
   | exact card_Make.mono _ _ _ _ _ _ _
   | exact conclavelaw09_anchor.mono _
   | exact conclaveref09_Check.mono _ _ _ _ _ _ _ _ _ _
   | exact conclaveref09_Make.mono _ _ _ _ _ _ _
   | exact LeO.none _
   | refine LeO.ite ?_ ?_
   | refine LeO.bind ?_ (fun _ => ?_)
theorem conclavelaw09_CardChecks.mono : ∀ a0 a1 a2 a3 a4 a5 a6 a7 k, LeO (conclavelaw09_CardChecks.f k a0 a1 a2 a3 a4 a5 a6 a7) (conclavelaw09_CardChecks.f (k + 1) a0 a1 a2 a3 a4 a5 a6 a7) := by
 intro a0 a1 a2 a3 a4 a5 a6 a7 k
 obtain ⟨ih0, ih1⟩ := conclavelaw09_CardChecks.mono_l k
 unfold conclavelaw09_CardChecks.f
 repeat' first
  | (with_reducible exact ih0 _ _ _ _ _ _ _ _ _)
  | (with_reducible exact ih1 _ _ _ _ _ _ _ _ _ _)
  | (with_reducible exact card_Check.mono _ _ _ _ _ _ _ _ _ _)
  | (with_reducible exact card_Make.mono _ _ _ _ _ _ _)
  | (with_reducible exact conclavelaw09_anchor.mono _)
  | (with_reducible exact conclaveref09_Check.mono _ _ _ _ _ _ _ _ _ _)
  | (with_reducible exact conclaveref09_Make.mono _ _ _ _ _ _ _)
  | (with_reducible exact LeO.refl _)
  | (with_reducible exact LeO.none _)
  | (with_reducible refine LeO.ite ?_ ?_)
  | (with_reducible refine LeO.bind ?_ (fun _ => ?_))
  | exact ih0 _ _ _ _ _ _ _ _ _
  | exact ih1 _ _ _ _ _ _ _ _ _ _
  | exact card_Check.mono _ _ _ _ _ _ _ _ _ _
  | exact card_Make.mono _ _ _ _ _ _ _
  | exact conclavelaw09_anchor.mono _
  | exact conclaveref09_Check.mono _ _ _ _ _ _ _ _ _ _
  | exact conclaveref09_Make.mono _ _ _ _ _ _ _
  | exact LeO.none _
  | refine LeO.ite ?_ ?_
  | refine LeO.bind ?_ (fun _ => ?_)
def conclavelaw09_CardChecks.T19 : Bool × List (List Nat × List Nat) := (true, [([], []), ([], []), ([], []), ([], []), ([], []), ([3, 4], [3, 4]), ([0, 1, 2, 5, 5], [0, 1, 2, 5]), ([6, 6, 0, 1, 2, 3, 4, 5, 6], [6])])
def conclavelaw09_CardChecks.B19 : List Nat := [0, 0, 0, 0, 0, 24, 63, 127]
theorem conclavelaw09_CardChecks.tab19 : rtab .any (opsOf Tryd.f5 19) = conclavelaw09_CardChecks.T19 := by kernel_rfl
theorem conclavelaw09_CardChecks.bits19 : waitsOk conclavelaw09_CardChecks.T19.2 conclavelaw09_CardChecks.B19 = true := by kernel_rfl
set_option maxHeartbeats 8000000 in
set_option maxRecDepth 100000 in
theorem conclavelaw09_CardChecks.calls (k : Nat) (a0_0 : Int) (a0_1 : Int) (a0_2 : Int) (a0_3 : Int) (a0_4 : Int) (a0_5 : Int) (a1 : Int) (A2 : Option Addr) (c2 : Nat) (l2 : List Int) (r : Bool) (w : World) (hrG : TabG w) (hr2 : Kd.C (Kd.int .i64) w A2 l2.length l2) (hc2 : l2.length ≤ c2) (h : conclavelaw09_CardChecks.f k a0_0 a0_1 a0_2 a0_3 a0_4 a0_5 a1 l2 = some r) (hr : r = true) :
 Calls Tryd.prog 5 #[.agg #[.int .i64 a0_0, .int .i64 a0_1, .int .i64 a0_2, .int .i64 a0_3, .int .i64 a0_4, .int .i64 a0_5], .int .i64 a1, .slice A2 l2.length c2] w fun e w' => e = .returned (.bool r) ∧ Below w.heap.size w w' := by
 have HRG := Aside0.mk hrG
 clear hrG
 have hu30 := Tryd.underlying30
 have hu40 := Tryd.underlying40
 have hu36 := Tryd.underlying36
 have HR2 := Aside0.mk hr2
 have HC2 := Aside0.mk hc2
 clear hr2 hc2
 have HB := Aside0.mk (Below.refl w.heap.size w)
 have H : ((conclavelaw09_anchor.f k).bind fun t280 => (if t280 = true then (if (l2.length : Int) > 100 then (some true) else ((conclavelaw09_stores.f 9).bind fun t281 => ((card_Make.f k t281 1 1 2 3 7).bind fun bt283 => ((conclaveref09_Make.f k bt283.2.2.2.2.2.2 1 1 2 3 7).bind fun bt291 => (if a0_5 = (-1) then (conclavelaw09_CardChecks.j0 k a1 l2 a0_0 a0_1 a0_2 a0_3 a0_4 bt283.2.2.2.2.2.1 bt291.2.2.2.2.2.2) else (conclavelaw09_CardChecks.j0 k a1 l2 a0_0 a0_1 a0_2 a0_3 a0_4 a0_5 bt291.2.2.2.2.2.2)))))) else (some false))) = some r := h
 clear h
 replace H := Option.bind_eq_some_iff.mp H
 obtain ⟨t280, A40, H⟩ := H
 replace H : (if t280 = true then (if (l2.length : Int) > 100 then (some true) else ((conclavelaw09_stores.f 9).bind fun t281 => ((card_Make.f k t281 1 1 2 3 7).bind fun bt283 => ((conclaveref09_Make.f k bt283.2.2.2.2.2.2 1 1 2 3 7).bind fun bt291 => (if a0_5 = (-1) then (conclavelaw09_CardChecks.j0 k a1 l2 a0_0 a0_1 a0_2 a0_3 a0_4 bt283.2.2.2.2.2.1 bt291.2.2.2.2.2.2) else (conclavelaw09_CardChecks.j0 k a1 l2 a0_0 a0_1 a0_2 a0_3 a0_4 a0_5 bt291.2.2.2.2.2.2)))))) else (some false)) = some r := H
 have A4 := Aside0.mk A40
 clear A40
 by_cases c5 : t280 = true
 ·
  subst c5
  have H1 : (if (l2.length : Int) > 100 then (some true) else ((conclavelaw09_stores.f 9).bind fun t281 => ((card_Make.f k t281 1 1 2 3 7).bind fun bt283 => ((conclaveref09_Make.f k bt283.2.2.2.2.2.2 1 1 2 3 7).bind fun bt291 => (if a0_5 = (-1) then (conclavelaw09_CardChecks.j0 k a1 l2 a0_0 a0_1 a0_2 a0_3 a0_4 bt283.2.2.2.2.2.1 bt291.2.2.2.2.2.2) else (conclavelaw09_CardChecks.j0 k a1 l2 a0_0 a0_1 a0_2 a0_3 a0_4 a0_5 bt291.2.2.2.2.2.2)))))) = some r := by rw [if_pos rfl] at H; exact H
  clear H
  have H := H1
  clear H1
  by_cases c6 : (l2.length : Int) > 100
  ·
   rw [if_pos c6] at H
   have c6b0 : decide (100 < (l2.length : Int)) = true := decide_eq_true c6
   have c6b1 : decide (100 < l2.length) = true := decide_eq_true (by omega)
   clear c6
   obtain rfl := Option.some.inj H
   try exact absurd hr Bool.false_ne_true
   all_goals
    go_enter Tryd.func5, Tryd.ntmps5
    go_wp2_with (first | ((with_reducible refine gate_dst (N := 3) rfl ?_); refine box_event ?hg (N := 3) ?hd (cs := #[.int .i64 a0_0, .int .i64 a0_1, .int .i64 a0_2, .int .i64 a0_3, .int .i64 a0_4, .int .i64 a0_5]) (t := 30) ?hr ?_; (case hd => rfl); (case hg => rfl); (case hr => first | (go_simp; done) | (go_simp; rfl)); intro gb279 hg w7 hbox hb; have n0_ := Aside0.mk (below_step (by repeat (first | (with_reducible first |exact HB.out |apply below_alloc |apply pw_below_drewN |apply below_drew1) |exact HB.out)) hb); have n1_ := Aside0.mk (hbox); have n2_ := Aside0.mk ((by rw [hg]; exact (below_size (by repeat (first | (with_reducible first |exact HB.out |apply below_alloc |apply pw_below_drewN |apply below_drew1) |exact HB.out))) : w.heap.size ≤ gb279)); have n3_ := Aside0.mk ((by rw [hg]; exact (below_size (by repeat (first | (with_reducible first |exact HB.out |apply below_alloc |apply pw_below_drewN |apply below_drew1) |exact HB.out))) : w.heap.size ≤ gb279)); clear HB; have HB := n0_; have BK279 := n1_; have GW279 := n2_; have GE279 := n3_; clear n0_ n1_ n2_ n3_; clear hb hbox hg) | ((with_reducible refine gate_callee (f := 7) rfl ?_); refine goesL_ (some 15) rfl rfl Tryd.func7 (by kernel_rfl) rfl #[] rfl (by (try simp only [List.map_toArray, List.map_cons, List.map_nil]); first | done | rfl | (simp only [List.length_drop, List.length_take]; rfl)) ?_; (with_reducible refine (conclavelaw09_anchor.calls (hrG := ?sideG) k  true _ A4.out).mono ?_); (case sideG => (first | (with_reducible exact HRG.out) |exact TabG.below HRG.out (by repeat (first | (with_reducible first |exact HB.out |apply below_alloc |apply pw_below_drewN |apply below_drew1 |refine below_set ?_ (IsS60.ge HI282.out) |refine below_set ?_ GE279.out |refine below_set ?_ GE290.out |refine below_set ?_ GE300.out |refine below_set ?_ GE317.out) | (with_reducible exact Below.refl _ _))))); rintro e w8 ⟨rfl, hb⟩; refine ⟨_, rfl, ?_⟩; have n0_ := Aside0.mk (blk_below (g := gb279) (o := .cells #[.int .i64 a0_0, .int .i64 a0_1, .int .i64 a0_2, .int .i64 a0_3, .int .i64 a0_4, .int .i64 a0_5] 30 (0, 0)) (by (with_reducible repeat (first |refine blk_drewN ?_ _ |refine blk_drew ?_ |refine blk_alloc ?_ _)); exact BK279.out) hb); have n1_ := Aside0.mk (below_step (by repeat (first | (with_reducible first |exact HB.out |apply below_alloc |apply pw_below_drewN |apply below_drew1 |refine below_set ?_ GE279.out) |exact HB.out)) hb); clear BK279; clear HB; have BK279 := n0_; have HB := n1_; clear n0_ n1_; (try clear hb); (try clear hb2); (try clear hk); (try clear hi)))
    go_ret
    exact ⟨by first | rfl | (simp [errW_none, errW_some] <;> rfl) | (simp [*, errW_none, errW_some] <;> rfl), by repeat (first | (with_reducible first | exact HB.out | apply below_alloc | apply pw_below_drewN | apply below_drew1 | refine below_set ?_ GE279.out) | exact HB.out)⟩
  ·
   rw [if_neg c6] at H
   have c6b0 : decide (100 < (l2.length : Int)) = false := decide_eq_false c6
   have c6b1 : decide (100 < l2.length) = false := decide_eq_false (by omega)
   clear c6
   replace H := Option.bind_eq_some_iff.mp H
   obtain ⟨t281, A90, H⟩ := H
   replace H : ((card_Make.f k t281 1 1 2 3 7).bind fun bt283 => ((conclaveref09_Make.f k bt283.2.2.2.2.2.2 1 1 2 3 7).bind fun bt291 => (if a0_5 = (-1) then (conclavelaw09_CardChecks.j0 k a1 l2 a0_0 a0_1 a0_2 a0_3 a0_4 bt283.2.2.2.2.2.1 bt291.2.2.2.2.2.2) else (conclavelaw09_CardChecks.j0 k a1 l2 a0_0 a0_1 a0_2 a0_3 a0_4 a0_5 bt291.2.2.2.2.2.2)))) = some r := H
   have A9 := Aside0.mk A90
   clear A90
   replace H := Option.bind_eq_some_iff.mp H
   obtain ⟨⟨t283, t284, t285, t286, t287, t288, t289⟩, A100, H⟩ := H
   replace H : ((conclaveref09_Make.f k t289 1 1 2 3 7).bind fun bt291 => (if a0_5 = (-1) then (conclavelaw09_CardChecks.j0 k a1 l2 a0_0 a0_1 a0_2 a0_3 a0_4 t288 bt291.2.2.2.2.2.2) else (conclavelaw09_CardChecks.j0 k a1 l2 a0_0 a0_1 a0_2 a0_3 a0_4 a0_5 bt291.2.2.2.2.2.2))) = some r := H
   have A10 := Aside0.mk A100
   clear A100
   replace H := Option.bind_eq_some_iff.mp H
   obtain ⟨⟨t291, t292, t293, t294, t295, t296, t297⟩, A110, H⟩ := H
   replace H : (if a0_5 = (-1) then (conclavelaw09_CardChecks.j0 k a1 l2 a0_0 a0_1 a0_2 a0_3 a0_4 t288 t297) else (conclavelaw09_CardChecks.j0 k a1 l2 a0_0 a0_1 a0_2 a0_3 a0_4 a0_5 t297)) = some r := H
   have A11 := Aside0.mk A110
   clear A110
   have HC12 := Aside0.mk H
   clear H
   go_enter Tryd.func5, Tryd.ntmps5
   go_upto_if 32 with (first | ((with_reducible refine gate_dst (N := 3) rfl ?_); refine box_event ?hg (N := 3) ?hd (cs := #[.int .i64 a0_0, .int .i64 a0_1, .int .i64 a0_2, .int .i64 a0_3, .int .i64 a0_4, .int .i64 a0_5]) (t := 30) ?hr ?_; (case hd => rfl); (case hg => rfl); (case hr => first | (go_simp; done) | (go_simp; rfl)); intro gb279 hg w13 hbox hb; have n0_ := Aside0.mk (below_step (by repeat (first | (with_reducible first |exact HB.out |apply below_alloc |apply pw_below_drewN |apply below_drew1) |exact HB.out)) hb); have n1_ := Aside0.mk (hbox); have n2_ := Aside0.mk ((by rw [hg]; exact (below_size (by repeat (first | (with_reducible first |exact HB.out |apply below_alloc |apply pw_below_drewN |apply below_drew1) |exact HB.out))) : w.heap.size ≤ gb279)); have n3_ := Aside0.mk ((by rw [hg]; exact (below_size (by repeat (first | (with_reducible first |exact HB.out |apply below_alloc |apply pw_below_drewN |apply below_drew1) |exact HB.out))) : w.heap.size ≤ gb279)); clear HB; have HB := n0_; have BK279 := n1_; have GW279 := n2_; have GE279 := n3_; clear n0_ n1_ n2_ n3_; clear hb hbox hg) | ((with_reducible refine gate_callee (f := 7) rfl ?_); refine goesL_ (some 15) rfl rfl Tryd.func7 (by kernel_rfl) rfl #[] rfl (by (try simp only [List.map_toArray, List.map_cons, List.map_nil]); first | done | rfl | (simp only [List.length_drop, List.length_take]; rfl)) ?_; (with_reducible refine (conclavelaw09_anchor.calls (hrG := ?sideG) k  true _ A4.out).mono ?_); (case sideG => (first | (with_reducible exact HRG.out) |exact TabG.below HRG.out (by repeat (first | (with_reducible first |exact HB.out |apply below_alloc |apply pw_below_drewN |apply below_drew1 |refine below_set ?_ (IsS60.ge HI282.out) |refine below_set ?_ GE279.out |refine below_set ?_ GE290.out |refine below_set ?_ GE300.out |refine below_set ?_ GE317.out) | (with_reducible exact Below.refl _ _))))); rintro e w14 ⟨rfl, hb⟩; refine ⟨_, rfl, ?_⟩; have n0_ := Aside0.mk (blk_below (g := gb279) (o := .cells #[.int .i64 a0_0, .int .i64 a0_1, .int .i64 a0_2, .int .i64 a0_3, .int .i64 a0_4, .int .i64 a0_5] 30 (0, 0)) (by (with_reducible repeat (first |refine blk_drewN ?_ _ |refine blk_drew ?_ |refine blk_alloc ?_ _)); exact BK279.out) hb); have n1_ := Aside0.mk (below_step (by repeat (first | (with_reducible first |exact HB.out |apply below_alloc |apply pw_below_drewN |apply below_drew1 |refine below_set ?_ GE279.out) |exact HB.out)) hb); clear BK279; clear HB; have BK279 := n0_; have HB := n1_; clear n0_ n1_; (try clear hb); (try clear hb2); (try clear hk); (try clear hi)) | ((with_reducible refine gate_callee (f := 8) rfl ?_); refine goesL_ (some 21) rfl rfl Tryd.func8 (by kernel_rfl) rfl #[.int .i64 9] rfl (by (try simp only [List.map_toArray, List.map_cons, List.map_nil]); first | done | rfl | (simp only [List.length_drop, List.length_take]; rfl)) ?_; (with_reducible refine (conclavelaw09_stores.calls 9 t281 w _ ?side1 A9.out).mono ?_); (case side1 => repeat (first | (with_reducible first |exact HB.out |apply below_alloc |apply pw_below_drewN |apply below_drew1 |refine below_set ?_ GE279.out) |exact HB.out)); rintro e w15 ⟨g282, rfl, hi, hb, hb2⟩; refine ⟨_, rfl, ?_⟩; have n0_ := Aside0.mk (blk_below (g := gb279) (o := .cells #[.int .i64 a0_0, .int .i64 a0_1, .int .i64 a0_2, .int .i64 a0_3, .int .i64 a0_4, .int .i64 a0_5] 30 (0, 0)) (by (with_reducible repeat (first |refine blk_drewN ?_ _ |refine blk_drew ?_ |refine blk_alloc ?_ _)); exact BK279.out) hb2); have n1_ := Aside0.mk (hb); have n2_ := Aside0.mk (hi); have n3_ := Aside0.mk (IsS60.ne_blk hi (blk_below (g := gb279) (o := .cells #[.int .i64 a0_0, .int .i64 a0_1, .int .i64 a0_2, .int .i64 a0_3, .int .i64 a0_4, .int .i64 a0_5] 30 (0, 0)) (by (with_reducible repeat (first |refine blk_drewN ?_ _ |refine blk_drew ?_ |refine blk_alloc ?_ _)); exact BK279.out) hb2) (by decide)); have n4_ := Aside0.mk (Ne.symm (IsS60.ne_blk hi (blk_below (g := gb279) (o := .cells #[.int .i64 a0_0, .int .i64 a0_1, .int .i64 a0_2, .int .i64 a0_3, .int .i64 a0_4, .int .i64 a0_5] 30 (0, 0)) (by (with_reducible repeat (first |refine blk_drewN ?_ _ |refine blk_drew ?_ |refine blk_alloc ?_ _)); exact BK279.out) hb2) (by decide))); clear BK279; clear HB; have BK279 := n0_; have HB := n1_; have HI282 := n2_; have NB282_279 := n3_; have NB279_282 := n4_; clear n0_ n1_ n2_ n3_ n4_; (try clear hb); (try clear hb2); (try clear hk); (try clear hi)) | ((with_reducible refine gate_callee (f := 10) rfl ?_); refine goesL_ (some 27) rfl rfl Tryd.func10 (by kernel_rfl) rfl #[.pointer (some ⟨g282, 0, none⟩), .int .i64 1, .int .i64 1, .int .i64 2, .int .i64 3, .int .i64 7] rfl (by (try simp only [List.map_toArray, List.map_cons, List.map_nil]); first | done | rfl | (simp only [List.length_drop, List.length_take]; rfl)) ?_; (with_reducible refine (card_Make.calls (hrG := ?sideG) k g282 t281 1 1 2 3 7 t283 t284 t285 t286 t287 t288 t289 w _ ?side1 ?side2 A10.out).mono ?_); (case sideG => (first | (with_reducible exact HRG.out) |exact TabG.below HRG.out (by repeat (first | (with_reducible first |exact HB.out |apply below_alloc |apply pw_below_drewN |apply below_drew1 |refine below_set ?_ (IsS60.ge HI282.out) |refine below_set ?_ GE279.out |refine below_set ?_ GE290.out |refine below_set ?_ GE300.out |refine below_set ?_ GE317.out) | (with_reducible exact Below.refl _ _))))); (case side1 => repeat (first | (with_reducible first |exact HI282.out |apply IsS60.alloc |apply IsS60.drewN |apply IsS60.drew |apply IsS60.set_0 | (focus (refine IsS60.far ?_ ?_ _; rotate_left; (focus ((repeat (first | (with_reducible exact Nsty.of BK279.out rfl) |apply Nsty.set |apply Nsty.drewN |apply Nsty.drew |apply Nsty.alloc)); done))))) |exact HI282.out)); (case side2 => repeat (first | (with_reducible first |exact HB.out |apply below_alloc |apply pw_below_drewN |apply below_drew1 |refine below_set ?_ (IsS60.ge HI282.out) |refine below_set ?_ GE279.out) |exact HB.out)); rintro e w16 ⟨rfl, hi, hb, hk⟩; refine ⟨_, rfl, ?_⟩; have n0_ := Aside0.mk (KeepSt.blk hk (g' := gb279) (o := .cells #[.int .i64 a0_0, .int .i64 a0_1, .int .i64 a0_2, .int .i64 a0_3, .int .i64 a0_4, .int .i64 a0_5] 30 (0, 0)) (by (with_reducible repeat (first |refine blk_drewN ?_ _ |refine blk_drew ?_ |refine blk_alloc ?_ _)); exact BK279.out) NB279_282.out rfl); have n1_ := Aside0.mk (hb); have n2_ := Aside0.mk (hi); clear BK279; clear HB; clear HI282; have BK279 := n0_; have HB := n1_; have HI282 := n2_; clear n0_ n1_ n2_; (try clear hb); (try clear hb2); (try clear hk); (try clear hi)) | ((with_reducible refine gate_dst (N := 9) rfl ?_); refine box_event ?hg (N := 9) ?hd (cs := #[.int .i64 0, .int .i64 0, .int .i64 0, .int .i64 0, .int .i64 0, .int .i64 0]) (t := 30) ?hr ?_; (case hd => rfl); (case hg => rfl); (case hr => first | (go_simp; done) | (go_simp; rfl)); intro gb290 hg w17 hbox hb; have n0_ := Aside0.mk (blk_below (g := gb279) (o := .cells #[.int .i64 a0_0, .int .i64 a0_1, .int .i64 a0_2, .int .i64 a0_3, .int .i64 a0_4, .int .i64 a0_5] 30 (0, 0)) (by (with_reducible repeat (first |refine blk_drewN ?_ _ |refine blk_drew ?_ |refine blk_alloc ?_ _)); exact BK279.out) hb); have n1_ := Aside0.mk (IsS60.below (by repeat (first | (with_reducible first |exact HI282.out |apply IsS60.alloc |apply IsS60.drewN |apply IsS60.drew |apply IsS60.set_0 | (focus (refine IsS60.far ?_ ?_ _; rotate_left; (focus ((repeat (first | (with_reducible exact Nsty.of BK279.out rfl) |apply Nsty.set |apply Nsty.drewN |apply Nsty.drew |apply Nsty.alloc)); done))))) |exact HI282.out)) hb); have n2_ := Aside0.mk (below_step (by repeat (first | (with_reducible first |exact HB.out |apply below_alloc |apply pw_below_drewN |apply below_drew1 |refine below_set ?_ (IsS60.ge HI282.out) |refine below_set ?_ GE279.out) |exact HB.out)) hb); have n3_ := Aside0.mk (hbox); have n4_ := Aside0.mk ((by rw [hg]; exact (below_size (by repeat (first | (with_reducible first |exact HB.out |apply below_alloc |apply pw_below_drewN |apply below_drew1 |refine below_set ?_ (IsS60.ge HI282.out) |refine below_set ?_ GE279.out) |exact HB.out))) : w.heap.size ≤ gb290)); have n5_ := Aside0.mk ((by rw [hg]; exact (below_size (by repeat (first | (with_reducible first |exact HB.out |apply below_alloc |apply pw_below_drewN |apply below_drew1 |refine below_set ?_ (IsS60.ge HI282.out) |refine below_set ?_ GE279.out) |exact HB.out))) : w.heap.size ≤ gb290)); have n6_ := Aside0.mk ((by rw [hg]; exact Nat.ne_of_lt (blk_lt (g := gb279) (o := .cells #[.int .i64 a0_0, .int .i64 a0_1, .int .i64 a0_2, .int .i64 a0_3, .int .i64 a0_4, .int .i64 a0_5] 30 (0, 0)) (by (with_reducible repeat (first |refine blk_drewN ?_ _ |refine blk_drew ?_ |refine blk_alloc ?_ _)); exact BK279.out)) : gb279 ≠ gb290)); have n7_ := Aside0.mk ((by rw [hg]; exact Nat.ne_of_gt (blk_lt (g := gb279) (o := .cells #[.int .i64 a0_0, .int .i64 a0_1, .int .i64 a0_2, .int .i64 a0_3, .int .i64 a0_4, .int .i64 a0_5] 30 (0, 0)) (by (with_reducible repeat (first |refine blk_drewN ?_ _ |refine blk_drew ?_ |refine blk_alloc ?_ _)); exact BK279.out)) : gb290 ≠ gb279)); have n8_ := Aside0.mk ((by rw [hg]; exact Nat.ne_of_lt (IsS60.lt (show IsS60 w _ g282 t289 from by repeat (first | (with_reducible first |exact HI282.out |apply IsS60.alloc |apply IsS60.drewN |apply IsS60.drew |apply IsS60.set_0 | (focus (refine IsS60.far ?_ ?_ _; rotate_left; (focus ((repeat (first | (with_reducible exact Nsty.of BK279.out rfl) |apply Nsty.set |apply Nsty.drewN |apply Nsty.drew |apply Nsty.alloc)); done))))) |exact HI282.out))) : g282 ≠ gb290)); have n9_ := Aside0.mk ((by rw [hg]; exact Nat.ne_of_gt (IsS60.lt (show IsS60 w _ g282 t289 from by repeat (first | (with_reducible first |exact HI282.out |apply IsS60.alloc |apply IsS60.drewN |apply IsS60.drew |apply IsS60.set_0 | (focus (refine IsS60.far ?_ ?_ _; rotate_left; (focus ((repeat (first | (with_reducible exact Nsty.of BK279.out rfl) |apply Nsty.set |apply Nsty.drewN |apply Nsty.drew |apply Nsty.alloc)); done))))) |exact HI282.out))) : gb290 ≠ g282)); clear BK279; clear HI282; clear HB; have BK279 := n0_; have HI282 := n1_; have HB := n2_; have BK290 := n3_; have GW290 := n4_; have GE290 := n5_; have NB279_290 := n6_; have NB290_279 := n7_; have NB282_290 := n8_; have NB290_282 := n9_; clear n0_ n1_ n2_ n3_ n4_ n5_ n6_ n7_ n8_ n9_; clear hb hbox hg; have hnb18 := NB290_279.out; have hnc18 := NB279_290.out; have hnb19 := NB290_282.out; have hnc19 := NB282_290.out; have hcz20_0 : w17.cell? ⟨gb290, 0, none⟩ = some (.int .i64 0) := (blk_cell BK290.out 0).trans rfl; have hcz20_1 : w17.cell? ⟨gb290, 1, none⟩ = some (.int .i64 0) := (blk_cell BK290.out 1).trans rfl; have hcz20_2 : w17.cell? ⟨gb290, 2, none⟩ = some (.int .i64 0) := (blk_cell BK290.out 2).trans rfl; have hcz20_3 : w17.cell? ⟨gb290, 3, none⟩ = some (.int .i64 0) := (blk_cell BK290.out 3).trans rfl; have hcz20_4 : w17.cell? ⟨gb290, 4, none⟩ = some (.int .i64 0) := (blk_cell BK290.out 4).trans rfl; have hcz20_5 : w17.cell? ⟨gb290, 5, none⟩ = some (.int .i64 0) := (blk_cell BK290.out 5).trans rfl; have hfz20_0 := blk_frozen BK290.out 0; have hfz20_1 := blk_frozen BK290.out 1; have hfz20_2 := blk_frozen BK290.out 2; have hfz20_3 := blk_frozen BK290.out 3; have hfz20_4 := blk_frozen BK290.out 4; have hfz20_5 := blk_frozen BK290.out 5) | ((with_reducible refine gate_callee (f := 12) rfl ?_); refine goesL_ (some 29) rfl rfl Tryd.func12 (by kernel_rfl) rfl #[.pointer (some ⟨g282 + 1, 0, none⟩), .int .i64 1, .int .i64 1, .int .i64 2, .int .i64 3, .int .i64 7] rfl (by (try simp only [List.map_toArray, List.map_cons, List.map_nil]); first | done | rfl | (simp only [List.length_drop, List.length_take]; rfl)) ?_; (with_reducible refine (conclaveref09_Make.calls k g282 t289 1 1 2 3 7 t291 t292 t293 t294 t295 t296 t297 w _ ?side1 ?side2 A11.out).mono ?_); (case side1 => repeat (first | (with_reducible first |exact HI282.out |apply IsS60.alloc |apply IsS60.drewN |apply IsS60.drew |apply IsS60.set_0 | (focus (refine IsS60.far ?_ ?_ _; rotate_left; (focus ((repeat (first | (with_reducible exact Nsty.of BK279.out rfl) |apply Nsty.set |apply Nsty.drewN |apply Nsty.drew |apply Nsty.alloc)); done)))) | (focus (refine IsS60.far ?_ ?_ _; rotate_left; (focus ((repeat (first | (with_reducible exact Nsty.of BK290.out rfl) |apply Nsty.set |apply Nsty.drewN |apply Nsty.drew |apply Nsty.alloc)); done))))) |exact HI282.out)); (case side2 => repeat (first | (with_reducible first |exact HB.out |apply below_alloc |apply pw_below_drewN |apply below_drew1 |refine below_set ?_ (IsS60.ge HI282.out) |refine below_set ?_ GE279.out |refine below_set ?_ GE290.out) |exact HB.out)); rintro e w21 ⟨rfl, hi, hb, hk⟩; refine ⟨_, rfl, ?_⟩; have n0_ := Aside0.mk (KeepSt.blk hk (g' := gb279) (o := .cells #[.int .i64 a0_0, .int .i64 a0_1, .int .i64 a0_2, .int .i64 a0_3, .int .i64 a0_4, .int .i64 a0_5] 30 (0, 0)) (by (with_reducible repeat (first |refine blk_drewN ?_ _ |refine blk_drew ?_ |refine blk_alloc ?_ _)); refine blk_far ?_ NB279_290.out _; (with_reducible repeat (first |refine blk_drewN ?_ _ |refine blk_drew ?_ |refine blk_alloc ?_ _)); refine blk_far ?_ NB279_290.out _; (with_reducible repeat (first |refine blk_drewN ?_ _ |refine blk_drew ?_ |refine blk_alloc ?_ _)); refine blk_far ?_ NB279_290.out _; (with_reducible repeat (first |refine blk_drewN ?_ _ |refine blk_drew ?_ |refine blk_alloc ?_ _)); refine blk_far ?_ NB279_290.out _; (with_reducible repeat (first |refine blk_drewN ?_ _ |refine blk_drew ?_ |refine blk_alloc ?_ _)); refine blk_far ?_ NB279_290.out _; (with_reducible repeat (first |refine blk_drewN ?_ _ |refine blk_drew ?_ |refine blk_alloc ?_ _)); refine blk_far ?_ NB279_290.out _; (with_reducible repeat (first |refine blk_drewN ?_ _ |refine blk_drew ?_ |refine blk_alloc ?_ _)); exact BK279.out) NB279_282.out rfl); have n1_ := Aside0.mk (KeepSt.blk hk (g' := gb290) (o := .cells #[.int .i64 t283, .int .i64 t284, .int .i64 t285, .int .i64 t286, .int .i64 t287, .int .i64 t288] 30 (0, 0)) (by (with_reducible repeat (first |refine blk_drewN ?_ _ |refine blk_drew ?_ |refine blk_alloc ?_ _)); refine blk_put (cs := #[.int .i64 t283, .int .i64 t284, .int .i64 t285, .int .i64 t286, .int .i64 t287, .int .i64 0]) ?_ 5 _ rfl; (with_reducible repeat (first |refine blk_drewN ?_ _ |refine blk_drew ?_ |refine blk_alloc ?_ _)); refine blk_put (cs := #[.int .i64 t283, .int .i64 t284, .int .i64 t285, .int .i64 t286, .int .i64 0, .int .i64 0]) ?_ 4 _ rfl; (with_reducible repeat (first |refine blk_drewN ?_ _ |refine blk_drew ?_ |refine blk_alloc ?_ _)); refine blk_put (cs := #[.int .i64 t283, .int .i64 t284, .int .i64 t285, .int .i64 0, .int .i64 0, .int .i64 0]) ?_ 3 _ rfl; (with_reducible repeat (first |refine blk_drewN ?_ _ |refine blk_drew ?_ |refine blk_alloc ?_ _)); refine blk_put (cs := #[.int .i64 t283, .int .i64 t284, .int .i64 0, .int .i64 0, .int .i64 0, .int .i64 0]) ?_ 2 _ rfl; (with_reducible repeat (first |refine blk_drewN ?_ _ |refine blk_drew ?_ |refine blk_alloc ?_ _)); refine blk_put (cs := #[.int .i64 t283, .int .i64 0, .int .i64 0, .int .i64 0, .int .i64 0, .int .i64 0]) ?_ 1 _ rfl; (with_reducible repeat (first |refine blk_drewN ?_ _ |refine blk_drew ?_ |refine blk_alloc ?_ _)); refine blk_put (cs := #[.int .i64 0, .int .i64 0, .int .i64 0, .int .i64 0, .int .i64 0, .int .i64 0]) ?_ 0 _ rfl; (with_reducible repeat (first |refine blk_drewN ?_ _ |refine blk_drew ?_ |refine blk_alloc ?_ _)); exact BK290.out) NB290_282.out rfl); have n2_ := Aside0.mk (hb); have n3_ := Aside0.mk (hi); clear BK279; clear BK290; clear HB; clear HI282; have BK279 := n0_; have BK290 := n1_; have HB := n2_; have HI282 := n3_; clear n0_ n1_ n2_ n3_; (try clear hb); (try clear hb2); (try clear hk); (try clear hi); have hnb22 := NB279_282.out; have hnc22 := NB282_279.out; have hcz23_0 : w21.cell? ⟨gb279, 0, none⟩ = some (.int .i64 a0_0) := (blk_cell BK279.out 0).trans rfl; have hcz23_1 : w21.cell? ⟨gb279, 1, none⟩ = some (.int .i64 a0_1) := (blk_cell BK279.out 1).trans rfl; have hcz23_2 : w21.cell? ⟨gb279, 2, none⟩ = some (.int .i64 a0_2) := (blk_cell BK279.out 2).trans rfl; have hcz23_3 : w21.cell? ⟨gb279, 3, none⟩ = some (.int .i64 a0_3) := (blk_cell BK279.out 3).trans rfl; have hcz23_4 : w21.cell? ⟨gb279, 4, none⟩ = some (.int .i64 a0_4) := (blk_cell BK279.out 4).trans rfl; have hcz23_5 : w21.cell? ⟨gb279, 5, none⟩ = some (.int .i64 a0_5) := (blk_cell BK279.out 5).trans rfl; have hfz23_0 := blk_frozen BK279.out 0; have hfz23_1 := blk_frozen BK279.out 1; have hfz23_2 := blk_frozen BK279.out 2; have hfz23_3 := blk_frozen BK279.out 3; have hfz23_4 := blk_frozen BK279.out 4; have hfz23_5 := blk_frozen BK279.out 5))
   (try simp only [Act.put, List.setIfInBounds_toArray, List.set_cons_zero, List.set_cons_succ])
   go_cut [] (fun wc => ∃ (kq : Nat) (x280005_11 : Int), Aside0 (conclavelaw09_CardChecks.j0 kq a1 l2 a0_0 a0_1 a0_2 a0_3 a0_4 x280005_11 t297 = some r) ∧ Aside0 (kq ≤ k) ∧ Aside0 (wc.heap[gb279]? = some (.cells #[.int .i64 a0_0, .int .i64 a0_1, .int .i64 a0_2, .int .i64 a0_3, .int .i64 a0_4, .int .i64 x280005_11] 30 (0, 0))) ∧ Aside0 (wc.heap[gb290]? = some (.cells #[.int .i64 t283, .int .i64 t284, .int .i64 t285, .int .i64 t286, .int .i64 t287, .int .i64 t288] 30 (0, 0))) ∧ Aside0 (IsS60 w wc g282 t297) ∧ Aside0 (Below w.heap.size w wc))
   case first =>
    have H := HC12.out
    clear HC12
    by_cases c24 : a0_5 = (-1)
    ·
     rw [if_pos c24] at H
     have c24b0 : (a0_5 == (-1)) = true := beq_iff_eq.mpr c24
     have c24b1 : (a0_5 != (-1)) = false := bne_eq_false_iff_eq.mpr c24
     clear c24
     (first | rw [c24b0] | (simp only [i64_w, i32_w]; rw [c24b0]) | skip)
     have H' := Aside0.mk H
     clear H
     have hnb25 := NB290_279.out
     have hnc25 := NB279_290.out
     have hnb26 := NB290_282.out
     have hnc26 := NB282_290.out
     have hcz27_0 : w21.cell? ⟨gb290, 0, none⟩ = some (.int .i64 t283) := (blk_cell BK290.out 0).trans rfl
     have hcz27_1 : w21.cell? ⟨gb290, 1, none⟩ = some (.int .i64 t284) := (blk_cell BK290.out 1).trans rfl
     have hcz27_2 : w21.cell? ⟨gb290, 2, none⟩ = some (.int .i64 t285) := (blk_cell BK290.out 2).trans rfl
     have hcz27_3 : w21.cell? ⟨gb290, 3, none⟩ = some (.int .i64 t286) := (blk_cell BK290.out 3).trans rfl
     have hcz27_4 : w21.cell? ⟨gb290, 4, none⟩ = some (.int .i64 t287) := (blk_cell BK290.out 4).trans rfl
     have hcz27_5 : w21.cell? ⟨gb290, 5, none⟩ = some (.int .i64 t288) := (blk_cell BK290.out 5).trans rfl
     have hfz27_0 := blk_frozen BK290.out 0
     have hfz27_1 := blk_frozen BK290.out 1
     have hfz27_2 := blk_frozen BK290.out 2
     have hfz27_3 := blk_frozen BK290.out 3
     have hfz27_4 := blk_frozen BK290.out 4
     have hfz27_5 := blk_frozen BK290.out 5
     have hnb28 := NB279_282.out
     have hnc28 := NB282_279.out
     have hcz29_0 : w21.cell? ⟨gb279, 0, none⟩ = some (.int .i64 a0_0) := (blk_cell BK279.out 0).trans rfl
     have hcz29_1 : w21.cell? ⟨gb279, 1, none⟩ = some (.int .i64 a0_1) := (blk_cell BK279.out 1).trans rfl
     have hcz29_2 : w21.cell? ⟨gb279, 2, none⟩ = some (.int .i64 a0_2) := (blk_cell BK279.out 2).trans rfl
     have hcz29_3 : w21.cell? ⟨gb279, 3, none⟩ = some (.int .i64 a0_3) := (blk_cell BK279.out 3).trans rfl
     have hcz29_4 : w21.cell? ⟨gb279, 4, none⟩ = some (.int .i64 a0_4) := (blk_cell BK279.out 4).trans rfl
     have hcz29_5 : w21.cell? ⟨gb279, 5, none⟩ = some (.int .i64 a0_5) := (blk_cell BK279.out 5).trans rfl
     have hfz29_0 := blk_frozen BK279.out 0
     have hfz29_1 := blk_frozen BK279.out 1
     have hfz29_2 := blk_frozen BK279.out 2
     have hfz29_3 := blk_frozen BK279.out 3
     have hfz29_4 := blk_frozen BK279.out 4
     have hfz29_5 := blk_frozen BK279.out 5
     go_wp2
     go_meet
     case rel => exact ⟨_, (t288), H', ⟨by first | omega | exact Nat.le_refl _⟩, ⟨by (with_reducible repeat (first | refine blk_drewN ?_ _ | refine blk_drew ?_ | refine blk_alloc ?_ _)); refine blk_put (cs := #[.int .i64 a0_0, .int .i64 a0_1, .int .i64 a0_2, .int .i64 a0_3, .int .i64 a0_4, .int .i64 a0_5]) ?_ 5 _ rfl; (with_reducible repeat (first | refine blk_drewN ?_ _ | refine blk_drew ?_ | refine blk_alloc ?_ _)); exact BK279.out⟩, ⟨by (with_reducible repeat (first | refine blk_drewN ?_ _ | refine blk_drew ?_ | refine blk_alloc ?_ _)); refine blk_far ?_ NB290_279.out _; (with_reducible repeat (first | refine blk_drewN ?_ _ | refine blk_drew ?_ | refine blk_alloc ?_ _)); exact BK290.out⟩, ⟨by repeat (first | (with_reducible first | exact HI282.out | apply IsS60.alloc | apply IsS60.drewN | apply IsS60.drew | apply IsS60.set_0 | (focus (refine IsS60.far ?_ ?_ _; rotate_left; (focus ((repeat (first | (with_reducible exact Nsty.of BK279.out rfl) | apply Nsty.set | apply Nsty.drewN | apply Nsty.drew | apply Nsty.alloc)); done)))) | (focus (refine IsS60.far ?_ ?_ _; rotate_left; (focus ((repeat (first | (with_reducible exact Nsty.of BK290.out rfl) | apply Nsty.set | apply Nsty.drewN | apply Nsty.drew | apply Nsty.alloc)); done))))) | exact HI282.out)⟩, ⟨by repeat (first | (with_reducible first | exact HB.out | apply below_alloc | apply pw_below_drewN | apply below_drew1 | refine below_set ?_ (IsS60.ge HI282.out) | refine below_set ?_ GE279.out | refine below_set ?_ GE290.out) | exact HB.out)⟩⟩
    ·
     rw [if_neg c24] at H
     have c24b0 : (a0_5 == (-1)) = false := beq_eq_false_iff_ne.mpr c24
     have c24b1 : (a0_5 != (-1)) = true := bne_iff_ne.mpr c24
     (first | rw [c24b0] | (simp only [i64_w, i32_w]; rw [c24b0]) | skip)
     have H' := Aside0.mk H
     clear H
     go_wp2
     go_meet
     case rel => exact ⟨_, (a0_5), H', ⟨by first | omega | exact Nat.le_refl _⟩, ⟨by (with_reducible repeat (first | refine blk_drewN ?_ _ | refine blk_drew ?_ | refine blk_alloc ?_ _)); exact BK279.out⟩, ⟨by (with_reducible repeat (first | refine blk_drewN ?_ _ | refine blk_drew ?_ | refine blk_alloc ?_ _)); exact BK290.out⟩, ⟨by repeat (first | (with_reducible first | exact HI282.out | apply IsS60.alloc | apply IsS60.drewN | apply IsS60.drew | apply IsS60.set_0 | (focus (refine IsS60.far ?_ ?_ _; rotate_left; (focus ((repeat (first | (with_reducible exact Nsty.of BK279.out rfl) | apply Nsty.set | apply Nsty.drewN | apply Nsty.drew | apply Nsty.alloc)); done)))) | (focus (refine IsS60.far ?_ ?_ _; rotate_left; (focus ((repeat (first | (with_reducible exact Nsty.of BK290.out rfl) | apply Nsty.set | apply Nsty.drewN | apply Nsty.drew | apply Nsty.alloc)); done))))) | exact HI282.out)⟩, ⟨by repeat (first | (with_reducible first | exact HB.out | apply below_alloc | apply pw_below_drewN | apply below_drew1 | refine below_set ?_ (IsS60.ge HI282.out) | refine below_set ?_ GE279.out | refine below_set ?_ GE290.out) | exact HB.out)⟩⟩
   case rest =>
    clear HC12
    try clear c1
    try clear c2
    try clear p2
    try clear c5
    try clear c6
    try clear c6b0
    try clear c6b1
    try clear c7
    try clear c8
    try clear c10
    try clear c12
    try clear c18
    try clear c19
    try clear c22
    try clear c24
    try clear c24b0
    try clear c24b1
    try clear c25
    try clear c26
    try clear c28
    try clear hcz20_0
    try clear hcz20_1
    try clear hcz20_2
    try clear hcz20_3
    try clear hcz20_4
    try clear hcz20_5
    try clear hcz23_0
    try clear hcz23_1
    try clear hcz23_2
    try clear hcz23_3
    try clear hcz23_4
    try clear hcz23_5
    try clear hcz27_0
    try clear hcz27_1
    try clear hcz27_2
    try clear hcz27_3
    try clear hcz27_4
    try clear hcz27_5
    try clear hcz29_0
    try clear hcz29_1
    try clear hcz29_2
    try clear hcz29_3
    try clear hcz29_4
    try clear hcz29_5
    try clear hfz20_0
    try clear hfz20_1
    try clear hfz20_2
    try clear hfz20_3
    try clear hfz20_4
    try clear hfz20_5
    try clear hfz23_0
    try clear hfz23_1
    try clear hfz23_2
    try clear hfz23_3
    try clear hfz23_4
    try clear hfz23_5
    try clear hfz27_0
    try clear hfz27_1
    try clear hfz27_2
    try clear hfz27_3
    try clear hfz27_4
    try clear hfz27_5
    try clear hfz29_0
    try clear hfz29_1
    try clear hfz29_2
    try clear hfz29_3
    try clear hfz29_4
    try clear hfz29_5
    obtain ⟨kq, x280005_11, HA, HJ11, BK279, BK290, HI282, HB⟩ := hcut
    cases kq with
    | zero => exact absurd HA.out (by simp [conclavelaw09_CardChecks.j0])
    | succ kj11 =>
     have H := HA.out
     clear HA
     simp only [conclavelaw09_CardChecks.j0] at H
     have H' := Aside0.mk H
     clear H
     go_wp2
     go_loopg [10] kj11 (fun kq v10 w' => ∃ (x10_2 : Int) (x283000_2 : T2), v10 = .int .i64 x10_2 ∧ Aside0 (conclavelaw09_CardChecks.l0 kq a1 l2 x10_2 a0_0 a0_1 a0_2 a0_3 a0_4 x280005_11 x283000_2 = some r) ∧ Aside0 (kq ≤ kj11) ∧ Aside0 (w'.heap[gb279]? = some (.cells #[.int .i64 a0_0, .int .i64 a0_1, .int .i64 a0_2, .int .i64 a0_3, .int .i64 a0_4, .int .i64 x280005_11] 30 (0, 0))) ∧ Aside0 (w'.heap[gb290]? = some (.cells #[.int .i64 t283, .int .i64 t284, .int .i64 t285, .int .i64 t286, .int .i64 t287, .int .i64 t288] 30 (0, 0))) ∧ Aside0 (IsS60 w w' g282 x283000_2) ∧ Aside0 (Below w.heap.size w w'))
     case atStart => exact ⟨(1), (t297), (by first | rfl | (simp; done) | (simp [*]; done)), H', ⟨Nat.le_refl _⟩, ⟨by (with_reducible repeat (first | refine blk_drewN ?_ _ | refine blk_drew ?_ | refine blk_alloc ?_ _)); exact BK279.out⟩, ⟨by (with_reducible repeat (first | refine blk_drewN ?_ _ | refine blk_drew ?_ | refine blk_alloc ?_ _)); exact BK290.out⟩, ⟨by repeat (first | (with_reducible first | exact HI282.out | apply IsS60.alloc | apply IsS60.drewN | apply IsS60.drew | apply IsS60.set_0 | (focus (refine IsS60.far ?_ ?_ _; rotate_left; (focus ((repeat (first | (with_reducible exact Nsty.of BK279.out rfl) | apply Nsty.set | apply Nsty.drewN | apply Nsty.drew | apply Nsty.alloc)); done)))) | (focus (refine IsS60.far ?_ ?_ _; rotate_left; (focus ((repeat (first | (with_reducible exact Nsty.of BK290.out rfl) | apply Nsty.set | apply Nsty.drewN | apply Nsty.drew | apply Nsty.alloc)); done))))) | exact HI282.out)⟩, ⟨by repeat (first | (with_reducible first | exact HB.out | apply below_alloc | apply pw_below_drewN | apply below_drew1 | refine below_set ?_ (IsS60.ge HI282.out) | refine below_set ?_ GE279.out | refine below_set ?_ GE290.out) | exact HB.out)⟩⟩
     case round =>
      clear H'
      try clear c1
      try clear c2
      try clear p2
      try clear c5
      try clear c6
      try clear c6b0
      try clear c6b1
      try clear c7
      try clear c8
      try clear c10
      try clear c12
      try clear c18
      try clear c19
      try clear c22
      try clear c24
      try clear c24b0
      try clear c24b1
      try clear c25
      try clear c26
      try clear c28
      try clear hcz20_0
      try clear hcz20_1
      try clear hcz20_2
      try clear hcz20_3
      try clear hcz20_4
      try clear hcz20_5
      try clear hcz23_0
      try clear hcz23_1
      try clear hcz23_2
      try clear hcz23_3
      try clear hcz23_4
      try clear hcz23_5
      try clear hcz27_0
      try clear hcz27_1
      try clear hcz27_2
      try clear hcz27_3
      try clear hcz27_4
      try clear hcz27_5
      try clear hcz29_0
      try clear hcz29_1
      try clear hcz29_2
      try clear hcz29_3
      try clear hcz29_4
      try clear hcz29_5
      try clear hfz20_0
      try clear hfz20_1
      try clear hfz20_2
      try clear hfz20_3
      try clear hfz20_4
      try clear hfz20_5
      try clear hfz23_0
      try clear hfz23_1
      try clear hfz23_2
      try clear hfz23_3
      try clear hfz23_4
      try clear hfz23_5
      try clear hfz27_0
      try clear hfz27_1
      try clear hfz27_2
      try clear hfz27_3
      try clear hfz27_4
      try clear hfz27_5
      try clear hfz29_0
      try clear hfz29_1
      try clear hfz29_2
      try clear hfz29_3
      try clear hfz29_4
      try clear hfz29_5
      try clear p2
      obtain ⟨x10_2, x283000_2, rfl, HA, HK2, BK279, BK290, HI282, HB⟩ := hrel
      cases gk with
      | zero => exact absurd HA.out (by simp [conclavelaw09_CardChecks.l0])
      | succ k2 =>
       have H := HA.out
       clear HA
       simp only [conclavelaw09_CardChecks.l0] at H
       replace H := Option.bind_eq_some_iff.mp H
       obtain ⟨⟨t298, t299⟩, A300, H⟩ := H
       replace H : (if x10_2 ≤ t298 then ((term_Store_Get.f t299 x10_2).bind fun bt311 => ((conclaveref01_Store_Get.f bt311.2.2.2.2.2 x10_2).bind fun bt318 => (if (!(bt311.1 == bt318.1) || (!(bt311.2.1.toList == bt318.2.1.toList) || (!(bt311.2.2.1 == bt318.2.2.1) || (!(bt311.2.2.2.1 == bt318.2.2.2.1))))) = true then (some true) else (conclavelaw09_CardChecks.l0 k2 a1 l2 (wrap64 (x10_2 + 1)) a0_0 a0_1 a0_2 a0_3 a0_4 x280005_11 bt318.2.2.2.2)))) else ((some (([] : List Int) : List Int)).bind fun y301 => (if y301.length + l2.length < 17592186044416 then ((card_Check.f k2 t299 a0_0 a0_1 a0_2 a0_3 a0_4 x280005_11 a1 (y301 ++ l2)).bind fun bt307 => ((conclaveref09_Check.f k2 bt307.2 a0_0 a0_1 a0_2 a0_3 a0_4 x280005_11 a1 l2).bind fun bt309 => (some (bt307.1 == bt309.1)))) else (none)))) = some r := H
       have A30 := Aside0.mk A300
       clear A300
       by_cases c31 : x10_2 ≤ t298
       ·
        rw [if_pos c31] at H
        have c31b0 : decide (x10_2 ≤ t298) = true := decide_eq_true c31
        clear c31
        replace H := Option.bind_eq_some_iff.mp H
        obtain ⟨⟨t311, t312, t313, t314, t315, t316⟩, A320, H⟩ := H
        replace H : ((conclaveref01_Store_Get.f t316 x10_2).bind fun bt318 => (if (!(t311 == bt318.1) || (!(t312.toList == bt318.2.1.toList) || (!(t313 == bt318.2.2.1) || (!(t314 == bt318.2.2.2.1))))) = true then (some true) else (conclavelaw09_CardChecks.l0 k2 a1 l2 (wrap64 (x10_2 + 1)) a0_0 a0_1 a0_2 a0_3 a0_4 x280005_11 bt318.2.2.2.2))) = some r := H
        have A32 := Aside0.mk A320
        clear A320
        replace H := Option.bind_eq_some_iff.mp H
        obtain ⟨⟨t318, t319, t320, t321, t322⟩, A330, H⟩ := H
        replace H : (if (!(t311 == t318) || (!(t312.toList == t319.toList) || (!(t313 == t320) || (!(t314 == t321))))) = true then (some true) else (conclavelaw09_CardChecks.l0 k2 a1 l2 (wrap64 (x10_2 + 1)) a0_0 a0_1 a0_2 a0_3 a0_4 x280005_11 t322)) = some r := H
        have A33 := Aside0.mk A330
        clear A330
        by_cases c34 : (!(t311 == t318) || (!(t312.toList == t319.toList) || (!(t313 == t320) || (!(t314 == t321))))) = true
        ·
         rw [if_pos c34] at H
         have c34b0 : (!(t311 == t318) || (!(t312.toList == t319.toList) || (!(t313 == t320) || (!(t314 == t321))))) = true := c34
         clear c34
         obtain rfl := Option.some.inj H
         try exact absurd hr Bool.false_ne_true
         all_goals
          try go_wp2_with (first | ((with_reducible refine gate_callee (f := 13) rfl ?_); refine goesL_ (some 38) rfl rfl Tryd.func13 (by kernel_rfl) rfl #[.pointer (some ⟨g282, 0, none⟩)] rfl (by (try simp only [List.map_toArray, List.map_cons, List.map_nil]); first | done | rfl | (simp only [List.length_drop, List.length_take]; rfl)) ?_; (with_reducible refine (term_Store_Len.calls g282 x283000_2 t298 t299 w _ ?side1 ?side2 A30.out).mono ?_); (case side1 => repeat (first | (with_reducible first |exact HI282.out |apply IsS60.alloc |apply IsS60.drewN |apply IsS60.drew |apply IsS60.set_0 | (focus (refine IsS60.far ?_ ?_ _; rotate_left; (focus ((repeat (first | (with_reducible exact Nsty.of BK279.out rfl) |apply Nsty.set |apply Nsty.drewN |apply Nsty.drew |apply Nsty.alloc)); done)))) | (focus (refine IsS60.far ?_ ?_ _; rotate_left; (focus ((repeat (first | (with_reducible exact Nsty.of BK290.out rfl) |apply Nsty.set |apply Nsty.drewN |apply Nsty.drew |apply Nsty.alloc)); done))))) |exact HI282.out)); (case side2 => repeat (first | (with_reducible first |exact HB.out |apply below_alloc |apply pw_below_drewN |apply below_drew1 |refine below_set ?_ (IsS60.ge HI282.out) |refine below_set ?_ GE279.out |refine below_set ?_ GE290.out) |exact HB.out)); rintro e w35 ⟨rfl, hi, hb, hk⟩; refine ⟨_, rfl, ?_⟩; have n0_ := Aside0.mk (KeepSt.blk hk (g' := gb279) (o := .cells #[.int .i64 a0_0, .int .i64 a0_1, .int .i64 a0_2, .int .i64 a0_3, .int .i64 a0_4, .int .i64 x280005_11] 30 (0, 0)) (by (with_reducible repeat (first |refine blk_drewN ?_ _ |refine blk_drew ?_ |refine blk_alloc ?_ _)); exact BK279.out) NB279_282.out rfl); have n1_ := Aside0.mk (KeepSt.blk hk (g' := gb290) (o := .cells #[.int .i64 t283, .int .i64 t284, .int .i64 t285, .int .i64 t286, .int .i64 t287, .int .i64 t288] 30 (0, 0)) (by (with_reducible repeat (first |refine blk_drewN ?_ _ |refine blk_drew ?_ |refine blk_alloc ?_ _)); exact BK290.out) NB290_282.out rfl); have n2_ := Aside0.mk (hb); have n3_ := Aside0.mk (hi); clear BK279; clear BK290; clear HB; clear HI282; have BK279 := n0_; have BK290 := n1_; have HB := n2_; have HI282 := n3_; clear n0_ n1_ n2_ n3_; (try clear hb); (try clear hb2); (try clear hk); (try clear hi)) | ((with_reducible refine gate_callee (f := 14) rfl ?_); refine goesL_ (some 45) rfl rfl Tryd.func14 (by kernel_rfl) rfl #[.pointer (some ⟨g282, 0, none⟩), .int .i64 x10_2] rfl (by (try simp only [List.map_toArray, List.map_cons, List.map_nil]); first | done | rfl | (simp only [List.length_drop, List.length_take]; rfl)) ?_; (with_reducible refine (term_Store_Get.calls g282 t299 x10_2 t311 t312 t313 t314 t315 t316 w _ ?side1 ?side2 A32.out).mono ?_); (case side1 => repeat (first | (with_reducible first |exact HI282.out |apply IsS60.alloc |apply IsS60.drewN |apply IsS60.drew |apply IsS60.set_0 | (focus (refine IsS60.far ?_ ?_ _; rotate_left; (focus ((repeat (first | (with_reducible exact Nsty.of BK279.out rfl) |apply Nsty.set |apply Nsty.drewN |apply Nsty.drew |apply Nsty.alloc)); done)))) | (focus (refine IsS60.far ?_ ?_ _; rotate_left; (focus ((repeat (first | (with_reducible exact Nsty.of BK290.out rfl) |apply Nsty.set |apply Nsty.drewN |apply Nsty.drew |apply Nsty.alloc)); done))))) |exact HI282.out)); (case side2 => repeat (first | (with_reducible first |exact HB.out |apply below_alloc |apply pw_below_drewN |apply below_drew1 |refine below_set ?_ (IsS60.ge HI282.out) |refine below_set ?_ GE279.out |refine below_set ?_ GE290.out) |exact HB.out)); rintro e w36 ⟨rfl, hi, hb, hk⟩; refine ⟨_, rfl, ?_⟩; have n0_ := Aside0.mk (KeepSt.blk hk (g' := gb279) (o := .cells #[.int .i64 a0_0, .int .i64 a0_1, .int .i64 a0_2, .int .i64 a0_3, .int .i64 a0_4, .int .i64 x280005_11] 30 (0, 0)) (by (with_reducible repeat (first |refine blk_drewN ?_ _ |refine blk_drew ?_ |refine blk_alloc ?_ _)); exact BK279.out) NB279_282.out rfl); have n1_ := Aside0.mk (KeepSt.blk hk (g' := gb290) (o := .cells #[.int .i64 t283, .int .i64 t284, .int .i64 t285, .int .i64 t286, .int .i64 t287, .int .i64 t288] 30 (0, 0)) (by (with_reducible repeat (first |refine blk_drewN ?_ _ |refine blk_drew ?_ |refine blk_alloc ?_ _)); exact BK290.out) NB290_282.out rfl); have n2_ := Aside0.mk (hb); have n3_ := Aside0.mk (hi); clear BK279; clear BK290; clear HB; clear HI282; have BK279 := n0_; have BK290 := n1_; have HB := n2_; have HI282 := n3_; clear n0_ n1_ n2_ n3_; (try clear hb); (try clear hb2); (try clear hk); (try clear hi)) | ((with_reducible refine gate_dst (N := 11) rfl ?_); refine box_event ?hg (N := 11) ?hd (cs := #[.int .i64 0, .string (⟨#[]⟩ : ByteArray), .int .i64 0, .int .i64 0]) (t := 40) ?hr ?_; (case hd => rfl); (case hg => rfl); (case hr => first | (go_simp; done) | (go_simp; rfl)); intro gb317 hg w37 hbox hb; have n0_ := Aside0.mk (blk_below (g := gb279) (o := .cells #[.int .i64 a0_0, .int .i64 a0_1, .int .i64 a0_2, .int .i64 a0_3, .int .i64 a0_4, .int .i64 x280005_11] 30 (0, 0)) (by (with_reducible repeat (first |refine blk_drewN ?_ _ |refine blk_drew ?_ |refine blk_alloc ?_ _)); exact BK279.out) hb); have n1_ := Aside0.mk (blk_below (g := gb290) (o := .cells #[.int .i64 t283, .int .i64 t284, .int .i64 t285, .int .i64 t286, .int .i64 t287, .int .i64 t288] 30 (0, 0)) (by (with_reducible repeat (first |refine blk_drewN ?_ _ |refine blk_drew ?_ |refine blk_alloc ?_ _)); exact BK290.out) hb); have n2_ := Aside0.mk (IsS60.below (by repeat (first | (with_reducible first |exact HI282.out |apply IsS60.alloc |apply IsS60.drewN |apply IsS60.drew |apply IsS60.set_0 | (focus (refine IsS60.far ?_ ?_ _; rotate_left; (focus ((repeat (first | (with_reducible exact Nsty.of BK279.out rfl) |apply Nsty.set |apply Nsty.drewN |apply Nsty.drew |apply Nsty.alloc)); done)))) | (focus (refine IsS60.far ?_ ?_ _; rotate_left; (focus ((repeat (first | (with_reducible exact Nsty.of BK290.out rfl) |apply Nsty.set |apply Nsty.drewN |apply Nsty.drew |apply Nsty.alloc)); done))))) |exact HI282.out)) hb); have n3_ := Aside0.mk (below_step (by repeat (first | (with_reducible first |exact HB.out |apply below_alloc |apply pw_below_drewN |apply below_drew1 |refine below_set ?_ (IsS60.ge HI282.out) |refine below_set ?_ GE279.out |refine below_set ?_ GE290.out) |exact HB.out)) hb); have n4_ := Aside0.mk (hbox); have n5_ := Aside0.mk ((by rw [hg]; exact (below_size (by repeat (first | (with_reducible first |exact HB.out |apply below_alloc |apply pw_below_drewN |apply below_drew1 |refine below_set ?_ (IsS60.ge HI282.out) |refine below_set ?_ GE279.out |refine below_set ?_ GE290.out) |exact HB.out))) : w.heap.size ≤ gb317)); have n6_ := Aside0.mk ((by rw [hg]; exact (below_size (by repeat (first | (with_reducible first |exact HB.out |apply below_alloc |apply pw_below_drewN |apply below_drew1 |refine below_set ?_ (IsS60.ge HI282.out) |refine below_set ?_ GE279.out |refine below_set ?_ GE290.out) |exact HB.out))) : w.heap.size ≤ gb317)); have n7_ := Aside0.mk ((by rw [hg]; exact Nat.ne_of_lt (blk_lt (g := gb279) (o := .cells #[.int .i64 a0_0, .int .i64 a0_1, .int .i64 a0_2, .int .i64 a0_3, .int .i64 a0_4, .int .i64 x280005_11] 30 (0, 0)) (by (with_reducible repeat (first |refine blk_drewN ?_ _ |refine blk_drew ?_ |refine blk_alloc ?_ _)); exact BK279.out)) : gb279 ≠ gb317)); have n8_ := Aside0.mk ((by rw [hg]; exact Nat.ne_of_gt (blk_lt (g := gb279) (o := .cells #[.int .i64 a0_0, .int .i64 a0_1, .int .i64 a0_2, .int .i64 a0_3, .int .i64 a0_4, .int .i64 x280005_11] 30 (0, 0)) (by (with_reducible repeat (first |refine blk_drewN ?_ _ |refine blk_drew ?_ |refine blk_alloc ?_ _)); exact BK279.out)) : gb317 ≠ gb279)); have n9_ := Aside0.mk ((by rw [hg]; exact Nat.ne_of_lt (blk_lt (g := gb290) (o := .cells #[.int .i64 t283, .int .i64 t284, .int .i64 t285, .int .i64 t286, .int .i64 t287, .int .i64 t288] 30 (0, 0)) (by (with_reducible repeat (first |refine blk_drewN ?_ _ |refine blk_drew ?_ |refine blk_alloc ?_ _)); exact BK290.out)) : gb290 ≠ gb317)); have n10_ := Aside0.mk ((by rw [hg]; exact Nat.ne_of_gt (blk_lt (g := gb290) (o := .cells #[.int .i64 t283, .int .i64 t284, .int .i64 t285, .int .i64 t286, .int .i64 t287, .int .i64 t288] 30 (0, 0)) (by (with_reducible repeat (first |refine blk_drewN ?_ _ |refine blk_drew ?_ |refine blk_alloc ?_ _)); exact BK290.out)) : gb317 ≠ gb290)); have n11_ := Aside0.mk ((by rw [hg]; exact Nat.ne_of_lt (IsS60.lt (show IsS60 w _ g282 t316 from by repeat (first | (with_reducible first |exact HI282.out |apply IsS60.alloc |apply IsS60.drewN |apply IsS60.drew |apply IsS60.set_0 | (focus (refine IsS60.far ?_ ?_ _; rotate_left; (focus ((repeat (first | (with_reducible exact Nsty.of BK279.out rfl) |apply Nsty.set |apply Nsty.drewN |apply Nsty.drew |apply Nsty.alloc)); done)))) | (focus (refine IsS60.far ?_ ?_ _; rotate_left; (focus ((repeat (first | (with_reducible exact Nsty.of BK290.out rfl) |apply Nsty.set |apply Nsty.drewN |apply Nsty.drew |apply Nsty.alloc)); done))))) |exact HI282.out))) : g282 ≠ gb317)); have n12_ := Aside0.mk ((by rw [hg]; exact Nat.ne_of_gt (IsS60.lt (show IsS60 w _ g282 t316 from by repeat (first | (with_reducible first |exact HI282.out |apply IsS60.alloc |apply IsS60.drewN |apply IsS60.drew |apply IsS60.set_0 | (focus (refine IsS60.far ?_ ?_ _; rotate_left; (focus ((repeat (first | (with_reducible exact Nsty.of BK279.out rfl) |apply Nsty.set |apply Nsty.drewN |apply Nsty.drew |apply Nsty.alloc)); done)))) | (focus (refine IsS60.far ?_ ?_ _; rotate_left; (focus ((repeat (first | (with_reducible exact Nsty.of BK290.out rfl) |apply Nsty.set |apply Nsty.drewN |apply Nsty.drew |apply Nsty.alloc)); done))))) |exact HI282.out))) : gb317 ≠ g282)); clear BK279; clear BK290; clear HI282; clear HB; have BK279 := n0_; have BK290 := n1_; have HI282 := n2_; have HB := n3_; have BK317 := n4_; have GW317 := n5_; have GE317 := n6_; have NB279_317 := n7_; have NB317_279 := n8_; have NB290_317 := n9_; have NB317_290 := n10_; have NB282_317 := n11_; have NB317_282 := n12_; clear n0_ n1_ n2_ n3_ n4_ n5_ n6_ n7_ n8_ n9_ n10_ n11_ n12_; clear hb hbox hg; have hnb38 := NB317_279.out; have hnc38 := NB279_317.out; have hnb39 := NB317_290.out; have hnc39 := NB290_317.out; have hnb40 := NB317_282.out; have hnc40 := NB282_317.out; have hcz41_0 : w37.cell? ⟨gb317, 0, none⟩ = some (.int .i64 0) := (blk_cell BK317.out 0).trans rfl; have hcz41_1 : w37.cell? ⟨gb317, 1, none⟩ = some (.string (⟨#[]⟩ : ByteArray)) := (blk_cell BK317.out 1).trans rfl; have hcz41_2 : w37.cell? ⟨gb317, 2, none⟩ = some (.int .i64 0) := (blk_cell BK317.out 2).trans rfl; have hcz41_3 : w37.cell? ⟨gb317, 3, none⟩ = some (.int .i64 0) := (blk_cell BK317.out 3).trans rfl; have hfz41_0 := blk_frozen BK317.out 0; have hfz41_1 := blk_frozen BK317.out 1; have hfz41_2 := blk_frozen BK317.out 2; have hfz41_3 := blk_frozen BK317.out 3))
          have n0_ : Aside0 (((((w37.setCell ⟨gb317, 0, none⟩ (.int .i64 t311)).setCell ⟨gb317, 1, none⟩ (.string t312)).setCell ⟨gb317, 2, none⟩ (.int .i64 t313)).setCell ⟨gb317, 3, none⟩ (.int .i64 t314)).heap[gb279]? = some (.cells #[.int .i64 a0_0, .int .i64 a0_1, .int .i64 a0_2, .int .i64 a0_3, .int .i64 a0_4, .int .i64 x280005_11] 30 (0, 0))) := ⟨by (with_reducible repeat (first | refine blk_drewN ?_ _ | refine blk_drew ?_ | refine blk_alloc ?_ _)); refine blk_far ?_ NB279_317.out _; (with_reducible repeat (first | refine blk_drewN ?_ _ | refine blk_drew ?_ | refine blk_alloc ?_ _)); refine blk_far ?_ NB279_317.out _; (with_reducible repeat (first | refine blk_drewN ?_ _ | refine blk_drew ?_ | refine blk_alloc ?_ _)); refine blk_far ?_ NB279_317.out _; (with_reducible repeat (first | refine blk_drewN ?_ _ | refine blk_drew ?_ | refine blk_alloc ?_ _)); refine blk_far ?_ NB279_317.out _; (with_reducible repeat (first | refine blk_drewN ?_ _ | refine blk_drew ?_ | refine blk_alloc ?_ _)); exact BK279.out⟩
          have n1_ : Aside0 (((((w37.setCell ⟨gb317, 0, none⟩ (.int .i64 t311)).setCell ⟨gb317, 1, none⟩ (.string t312)).setCell ⟨gb317, 2, none⟩ (.int .i64 t313)).setCell ⟨gb317, 3, none⟩ (.int .i64 t314)).heap[gb290]? = some (.cells #[.int .i64 t283, .int .i64 t284, .int .i64 t285, .int .i64 t286, .int .i64 t287, .int .i64 t288] 30 (0, 0))) := ⟨by (with_reducible repeat (first | refine blk_drewN ?_ _ | refine blk_drew ?_ | refine blk_alloc ?_ _)); refine blk_far ?_ NB290_317.out _; (with_reducible repeat (first | refine blk_drewN ?_ _ | refine blk_drew ?_ | refine blk_alloc ?_ _)); refine blk_far ?_ NB290_317.out _; (with_reducible repeat (first | refine blk_drewN ?_ _ | refine blk_drew ?_ | refine blk_alloc ?_ _)); refine blk_far ?_ NB290_317.out _; (with_reducible repeat (first | refine blk_drewN ?_ _ | refine blk_drew ?_ | refine blk_alloc ?_ _)); refine blk_far ?_ NB290_317.out _; (with_reducible repeat (first | refine blk_drewN ?_ _ | refine blk_drew ?_ | refine blk_alloc ?_ _)); exact BK290.out⟩
          have n2_ : Aside0 (((((w37.setCell ⟨gb317, 0, none⟩ (.int .i64 t311)).setCell ⟨gb317, 1, none⟩ (.string t312)).setCell ⟨gb317, 2, none⟩ (.int .i64 t313)).setCell ⟨gb317, 3, none⟩ (.int .i64 t314)).heap[gb317]? = some (.cells #[.int .i64 t311, .string t312, .int .i64 t313, .int .i64 t314] 40 (0, 0))) := ⟨by (with_reducible repeat (first | refine blk_drewN ?_ _ | refine blk_drew ?_ | refine blk_alloc ?_ _)); refine blk_put (cs := #[.int .i64 t311, .string t312, .int .i64 t313, .int .i64 0]) ?_ 3 _ rfl; (with_reducible repeat (first | refine blk_drewN ?_ _ | refine blk_drew ?_ | refine blk_alloc ?_ _)); refine blk_put (cs := #[.int .i64 t311, .string t312, .int .i64 0, .int .i64 0]) ?_ 2 _ rfl; (with_reducible repeat (first | refine blk_drewN ?_ _ | refine blk_drew ?_ | refine blk_alloc ?_ _)); refine blk_put (cs := #[.int .i64 t311, .string (⟨#[]⟩ : ByteArray), .int .i64 0, .int .i64 0]) ?_ 1 _ rfl; (with_reducible repeat (first | refine blk_drewN ?_ _ | refine blk_drew ?_ | refine blk_alloc ?_ _)); refine blk_put (cs := #[.int .i64 0, .string (⟨#[]⟩ : ByteArray), .int .i64 0, .int .i64 0]) ?_ 0 _ rfl; (with_reducible repeat (first | refine blk_drewN ?_ _ | refine blk_drew ?_ | refine blk_alloc ?_ _)); exact BK317.out⟩
          have n3_ : Aside0 (IsS60 w ((((w37.setCell ⟨gb317, 0, none⟩ (.int .i64 t311)).setCell ⟨gb317, 1, none⟩ (.string t312)).setCell ⟨gb317, 2, none⟩ (.int .i64 t313)).setCell ⟨gb317, 3, none⟩ (.int .i64 t314)) g282 t316) := ⟨by repeat (first | (with_reducible first | exact HI282.out | apply IsS60.alloc | apply IsS60.drewN | apply IsS60.drew | apply IsS60.set_0 | (focus (refine IsS60.far ?_ ?_ _; rotate_left; (focus ((repeat (first | (with_reducible exact Nsty.of BK279.out rfl) | apply Nsty.set | apply Nsty.drewN | apply Nsty.drew | apply Nsty.alloc)); done)))) | (focus (refine IsS60.far ?_ ?_ _; rotate_left; (focus ((repeat (first | (with_reducible exact Nsty.of BK290.out rfl) | apply Nsty.set | apply Nsty.drewN | apply Nsty.drew | apply Nsty.alloc)); done)))) | (focus (refine IsS60.far ?_ ?_ _; rotate_left; (focus ((repeat (first | (with_reducible exact Nsty.of BK317.out rfl) | apply Nsty.set | apply Nsty.drewN | apply Nsty.drew | apply Nsty.alloc)); done))))) | exact HI282.out)⟩
          have n4_ : Aside0 (Below w.heap.size w ((((w37.setCell ⟨gb317, 0, none⟩ (.int .i64 t311)).setCell ⟨gb317, 1, none⟩ (.string t312)).setCell ⟨gb317, 2, none⟩ (.int .i64 t313)).setCell ⟨gb317, 3, none⟩ (.int .i64 t314))) := ⟨by repeat (first | (with_reducible first | exact HB.out | apply below_alloc | apply pw_below_drewN | apply below_drew1 | refine below_set ?_ (IsS60.ge HI282.out) | refine below_set ?_ GE279.out | refine below_set ?_ GE290.out | refine below_set ?_ GE317.out) | exact HB.out)⟩
          (try clear BK279)
          (try clear BK290)
          (try clear BK317)
          (try clear HI282)
          (try clear HB)
          generalize ((((w37.setCell ⟨gb317, 0, none⟩ (.int .i64 t311)).setCell ⟨gb317, 1, none⟩ (.string t312)).setCell ⟨gb317, 2, none⟩ (.int .i64 t313)).setCell ⟨gb317, 3, none⟩ (.int .i64 t314)) = w42 at n0_ n1_ n2_ n3_ n4_ ⊢
          have BK279 := n0_
          have BK290 := n1_
          have BK317 := n2_
          have HI282 := n3_
          have HB := n4_
          clear n0_ n1_ n2_ n3_ n4_
          have n0_ := Aside0.mk (blk_drew BK279.out)
          have n1_ := Aside0.mk (blk_drew BK290.out)
          have n2_ := Aside0.mk (blk_drew BK317.out)
          have n3_ := Aside0.mk (IsS60.drew HI282.out)
          have n4_ := Aside0.mk (below_drew1 HB.out)
          clear BK279
          clear BK290
          clear BK317
          clear HI282
          clear HB
          have BK279 := n0_
          have BK290 := n1_
          have BK317 := n2_
          have HI282 := n3_
          have HB := n4_
          clear n0_ n1_ n2_ n3_ n4_
          refine start_ (n := 5) (S := fun w' => w'.cell? ⟨gb317, 0, none⟩ = some (.int .i64 t311) ∧ w'.cell? ⟨gb317, 1, none⟩ = some (.string t312) ∧ w'.cell? ⟨gb317, 2, none⟩ = some (.int .i64 t313) ∧ w'.cell? ⟨gb317, 3, none⟩ = some (.int .i64 t314)) (ds := []) #[false,false,false,false,false] (by kernel_rfl) rfl rfl ⟨(blk_cell BK317.out 0).trans rfl, (blk_cell BK317.out 1).trans rfl, (blk_cell BK317.out 2).trans rfl, (blk_cell BK317.out 3).trans rfl⟩ (fun hHeld => ?_)
          generalize w42.drew = w43 at BK279 BK290 BK317 HI282 HB hHeld ⊢
          refine pure_ (i := 1) (N := some 49) (v := ?_) (a' := ?_) #[false,true,false,false,false] rfl rfl (by kernel_rfl) (fun _ _ _ h => h) (Or.inl ⟨by rfl, ?_⟩) ?_ ?_
          rotate_left
          ·
           intro w'
           go_simp
           first | (with_reducible rfl) | (rw [node_field0]; rfl) | (rw [node_field2]; rfl) | (rw [node_field3]; rfl) | (rw [node_field1]; rfl)
          rotate_left
          ·
           simp only [Act.put, List.setIfInBounds_toArray, List.set_cons_zero, List.set_cons_succ, i64_w, i32_w]
           rfl
          refine pure_ (i := 2) (N := some 50) (v := ?_) (a' := ?_) #[false,true,true,false,false] rfl rfl (by kernel_rfl) (fun _ _ _ h => h) (Or.inl ⟨by rfl, ?_⟩) ?_ ?_
          rotate_left
          ·
           intro w'
           go_simp
           first | (with_reducible rfl) | (rw [node_field0]; rfl) | (rw [node_field2]; rfl) | (rw [node_field3]; rfl) | (rw [node_field1]; rfl)
          rotate_left
          ·
           simp only [Act.put, List.setIfInBounds_toArray, List.set_cons_zero, List.set_cons_succ, i64_w, i32_w]
           rfl
          refine take_ (i := 0) (N := some 48) (v := ?_) (a' := ?_) #[true,true,true,false,false] rfl rfl (by kernel_rfl) (fun _ _ _ h => h) (Or.inl ⟨by rfl, ?_⟩) hHeld ?_ ?_
          rotate_left
          ·
           rintro w' ⟨s0, s1, s2, s3⟩
           go_simp
           first | (with_reducible rfl) | (rw [node_field0]; rfl) | (rw [node_field2]; rfl) | (rw [node_field3]; rfl) | (rw [node_field1]; rfl)
          rotate_left
          ·
           simp only [Act.put, List.setIfInBounds_toArray, List.set_cons_zero, List.set_cons_succ, i64_w, i32_w]
           rfl
          refine one_ (i := 3) (N := some 51) #[true,true,true,true,false] rfl rfl (by kernel_rfl) (by decide) (fun K hK => ?_)
          refine goes_ Tryd.func15 (by kernel_rfl) rfl #[.pointer (some ⟨g282 + 1, 0, none⟩), .int .i64 x10_2] (by rfl) rfl rfl (by (try simp only [List.map_toArray, List.map_cons, List.map_nil]); first | done | rfl | (simp only [List.length_drop, List.length_take]; rfl)) ?_
          with_reducible refine (conclaveref01_Store_Get.calls g282 t316 x10_2 t318 t319 t320 t321 t322 w _ ?side1 ?side2 A33.out).mono ?_
          (case side1 => repeat (first | (with_reducible first | exact HI282.out | apply IsS60.alloc | apply IsS60.drewN | apply IsS60.drew | apply IsS60.set_0 | (focus (refine IsS60.far ?_ ?_ _; rotate_left; (focus ((repeat (first | (with_reducible exact Nsty.of BK279.out rfl) | apply Nsty.set | apply Nsty.drewN | apply Nsty.drew | apply Nsty.alloc)); done)))) | (focus (refine IsS60.far ?_ ?_ _; rotate_left; (focus ((repeat (first | (with_reducible exact Nsty.of BK290.out rfl) | apply Nsty.set | apply Nsty.drewN | apply Nsty.drew | apply Nsty.alloc)); done)))) | (focus (refine IsS60.far ?_ ?_ _; rotate_left; (focus ((repeat (first | (with_reducible exact Nsty.of BK317.out rfl) | apply Nsty.set | apply Nsty.drewN | apply Nsty.drew | apply Nsty.alloc)); done))))) | exact HI282.out))
          (case side2 => repeat (first | (with_reducible first | exact HB.out | apply below_alloc | apply pw_below_drewN | apply below_drew1 | refine below_set ?_ (IsS60.ge HI282.out) | refine below_set ?_ GE279.out | refine below_set ?_ GE290.out | refine below_set ?_ GE317.out) | exact HB.out))
          rintro e w44 ⟨rfl, hi, hb, hk⟩
          refine ⟨_, rfl, ?_⟩
          have n0_ := Aside0.mk (KeepSt.blk hk (g' := gb279) (o := .cells #[.int .i64 a0_0, .int .i64 a0_1, .int .i64 a0_2, .int .i64 a0_3, .int .i64 a0_4, .int .i64 x280005_11] 30 (0, 0)) (by (with_reducible repeat (first | refine blk_drewN ?_ _ | refine blk_drew ?_ | refine blk_alloc ?_ _)); exact BK279.out) NB279_282.out rfl)
          have n1_ := Aside0.mk (KeepSt.blk hk (g' := gb290) (o := .cells #[.int .i64 t283, .int .i64 t284, .int .i64 t285, .int .i64 t286, .int .i64 t287, .int .i64 t288] 30 (0, 0)) (by (with_reducible repeat (first | refine blk_drewN ?_ _ | refine blk_drew ?_ | refine blk_alloc ?_ _)); exact BK290.out) NB290_282.out rfl)
          have n2_ := Aside0.mk (KeepSt.blk hk (g' := gb317) (o := .cells #[.int .i64 t311, .string t312, .int .i64 t313, .int .i64 t314] 40 (0, 0)) (by (with_reducible repeat (first | refine blk_drewN ?_ _ | refine blk_drew ?_ | refine blk_alloc ?_ _)); exact BK317.out) NB317_282.out rfl)
          have n3_ := Aside0.mk (hb)
          have n4_ := Aside0.mk (hi)
          clear BK279
          clear BK290
          clear BK317
          clear HB
          clear HI282
          have BK279 := n0_
          have BK290 := n1_
          have BK317 := n2_
          have HB := n3_
          have HI282 := n4_
          clear n0_ n1_ n2_ n3_ n4_
          (try clear hb)
          (try clear hb2)
          (try clear hk)
          (try clear hi)
          refine hK.out _ _ ⟨(blk_cell BK317.out 0).trans rfl, (blk_cell BK317.out 1).trans rfl, (blk_cell BK317.out 2).trans rfl, (blk_cell BK317.out 3).trans rfl⟩ (fun hHeld => ?_)
          clear hK K
          refine norm_ (a' := ?_) ?_ ?_
          rotate_left
          ·
           show Act.put _ (some 51) _ = _
           simp only [Act.put, List.setIfInBounds_toArray, List.set_cons_zero, List.set_cons_succ, i64_w, i32_w]
           rfl
          refine pure_ (i := 4) (N := some 52) (v := ?_) (a' := ?_) #[true,true,true,true,true] rfl rfl (by kernel_rfl) (fun _ _ _ h => h) (Or.inl ⟨by rfl, ?_⟩) ?_ ?_
          rotate_left
          ·
           intro w'
           go_simp
           first | (with_reducible rfl) | (rw [node_field0]; rfl) | (rw [node_field2]; rfl) | (rw [node_field3]; rfl) | (rw [node_field1]; rfl)
          rotate_left
          ·
           simp only [Act.put, List.setIfInBounds_toArray, List.set_cons_zero, List.set_cons_succ, i64_w, i32_w]
           rfl
          refine done_ (by kernel_rfl) ?_
          try go_wp2
          go_ret
          exact ⟨by first | rfl | (simp [errW_none, errW_some] <;> rfl) | (simp [*, errW_none, errW_some] <;> rfl), by repeat (first | (with_reducible first | exact HB.out | apply below_alloc | apply pw_below_drewN | apply below_drew1 | refine below_set ?_ (IsS60.ge HI282.out) | refine below_set ?_ GE279.out | refine below_set ?_ GE290.out | refine below_set ?_ GE317.out) | exact HB.out)⟩
        ·
         rw [if_neg c34] at H
         have c34b0 : (!(t311 == t318) || (!(t312.toList == t319.toList) || (!(t313 == t320) || (!(t314 == t321))))) = false := by simpa using c34
         clear c34
         have H' := Aside0.mk H
         clear H
         try go_wp2_with (first | ((with_reducible refine gate_callee (f := 13) rfl ?_); refine goesL_ (some 38) rfl rfl Tryd.func13 (by kernel_rfl) rfl #[.pointer (some ⟨g282, 0, none⟩)] rfl (by (try simp only [List.map_toArray, List.map_cons, List.map_nil]); first | done | rfl | (simp only [List.length_drop, List.length_take]; rfl)) ?_; (with_reducible refine (term_Store_Len.calls g282 x283000_2 t298 t299 w _ ?side1 ?side2 A30.out).mono ?_); (case side1 => repeat (first | (with_reducible first |exact HI282.out |apply IsS60.alloc |apply IsS60.drewN |apply IsS60.drew |apply IsS60.set_0 | (focus (refine IsS60.far ?_ ?_ _; rotate_left; (focus ((repeat (first | (with_reducible exact Nsty.of BK279.out rfl) |apply Nsty.set |apply Nsty.drewN |apply Nsty.drew |apply Nsty.alloc)); done)))) | (focus (refine IsS60.far ?_ ?_ _; rotate_left; (focus ((repeat (first | (with_reducible exact Nsty.of BK290.out rfl) |apply Nsty.set |apply Nsty.drewN |apply Nsty.drew |apply Nsty.alloc)); done))))) |exact HI282.out)); (case side2 => repeat (first | (with_reducible first |exact HB.out |apply below_alloc |apply pw_below_drewN |apply below_drew1 |refine below_set ?_ (IsS60.ge HI282.out) |refine below_set ?_ GE279.out |refine below_set ?_ GE290.out) |exact HB.out)); rintro e w45 ⟨rfl, hi, hb, hk⟩; refine ⟨_, rfl, ?_⟩; have n0_ := Aside0.mk (KeepSt.blk hk (g' := gb279) (o := .cells #[.int .i64 a0_0, .int .i64 a0_1, .int .i64 a0_2, .int .i64 a0_3, .int .i64 a0_4, .int .i64 x280005_11] 30 (0, 0)) (by (with_reducible repeat (first |refine blk_drewN ?_ _ |refine blk_drew ?_ |refine blk_alloc ?_ _)); exact BK279.out) NB279_282.out rfl); have n1_ := Aside0.mk (KeepSt.blk hk (g' := gb290) (o := .cells #[.int .i64 t283, .int .i64 t284, .int .i64 t285, .int .i64 t286, .int .i64 t287, .int .i64 t288] 30 (0, 0)) (by (with_reducible repeat (first |refine blk_drewN ?_ _ |refine blk_drew ?_ |refine blk_alloc ?_ _)); exact BK290.out) NB290_282.out rfl); have n2_ := Aside0.mk (hb); have n3_ := Aside0.mk (hi); clear BK279; clear BK290; clear HB; clear HI282; have BK279 := n0_; have BK290 := n1_; have HB := n2_; have HI282 := n3_; clear n0_ n1_ n2_ n3_; (try clear hb); (try clear hb2); (try clear hk); (try clear hi)) | ((with_reducible refine gate_callee (f := 14) rfl ?_); refine goesL_ (some 45) rfl rfl Tryd.func14 (by kernel_rfl) rfl #[.pointer (some ⟨g282, 0, none⟩), .int .i64 x10_2] rfl (by (try simp only [List.map_toArray, List.map_cons, List.map_nil]); first | done | rfl | (simp only [List.length_drop, List.length_take]; rfl)) ?_; (with_reducible refine (term_Store_Get.calls g282 t299 x10_2 t311 t312 t313 t314 t315 t316 w _ ?side1 ?side2 A32.out).mono ?_); (case side1 => repeat (first | (with_reducible first |exact HI282.out |apply IsS60.alloc |apply IsS60.drewN |apply IsS60.drew |apply IsS60.set_0 | (focus (refine IsS60.far ?_ ?_ _; rotate_left; (focus ((repeat (first | (with_reducible exact Nsty.of BK279.out rfl) |apply Nsty.set |apply Nsty.drewN |apply Nsty.drew |apply Nsty.alloc)); done)))) | (focus (refine IsS60.far ?_ ?_ _; rotate_left; (focus ((repeat (first | (with_reducible exact Nsty.of BK290.out rfl) |apply Nsty.set |apply Nsty.drewN |apply Nsty.drew |apply Nsty.alloc)); done))))) |exact HI282.out)); (case side2 => repeat (first | (with_reducible first |exact HB.out |apply below_alloc |apply pw_below_drewN |apply below_drew1 |refine below_set ?_ (IsS60.ge HI282.out) |refine below_set ?_ GE279.out |refine below_set ?_ GE290.out) |exact HB.out)); rintro e w46 ⟨rfl, hi, hb, hk⟩; refine ⟨_, rfl, ?_⟩; have n0_ := Aside0.mk (KeepSt.blk hk (g' := gb279) (o := .cells #[.int .i64 a0_0, .int .i64 a0_1, .int .i64 a0_2, .int .i64 a0_3, .int .i64 a0_4, .int .i64 x280005_11] 30 (0, 0)) (by (with_reducible repeat (first |refine blk_drewN ?_ _ |refine blk_drew ?_ |refine blk_alloc ?_ _)); exact BK279.out) NB279_282.out rfl); have n1_ := Aside0.mk (KeepSt.blk hk (g' := gb290) (o := .cells #[.int .i64 t283, .int .i64 t284, .int .i64 t285, .int .i64 t286, .int .i64 t287, .int .i64 t288] 30 (0, 0)) (by (with_reducible repeat (first |refine blk_drewN ?_ _ |refine blk_drew ?_ |refine blk_alloc ?_ _)); exact BK290.out) NB290_282.out rfl); have n2_ := Aside0.mk (hb); have n3_ := Aside0.mk (hi); clear BK279; clear BK290; clear HB; clear HI282; have BK279 := n0_; have BK290 := n1_; have HB := n2_; have HI282 := n3_; clear n0_ n1_ n2_ n3_; (try clear hb); (try clear hb2); (try clear hk); (try clear hi)) | ((with_reducible refine gate_dst (N := 11) rfl ?_); refine box_event ?hg (N := 11) ?hd (cs := #[.int .i64 0, .string (⟨#[]⟩ : ByteArray), .int .i64 0, .int .i64 0]) (t := 40) ?hr ?_; (case hd => rfl); (case hg => rfl); (case hr => first | (go_simp; done) | (go_simp; rfl)); intro gb317 hg w47 hbox hb; have n0_ := Aside0.mk (blk_below (g := gb279) (o := .cells #[.int .i64 a0_0, .int .i64 a0_1, .int .i64 a0_2, .int .i64 a0_3, .int .i64 a0_4, .int .i64 x280005_11] 30 (0, 0)) (by (with_reducible repeat (first |refine blk_drewN ?_ _ |refine blk_drew ?_ |refine blk_alloc ?_ _)); exact BK279.out) hb); have n1_ := Aside0.mk (blk_below (g := gb290) (o := .cells #[.int .i64 t283, .int .i64 t284, .int .i64 t285, .int .i64 t286, .int .i64 t287, .int .i64 t288] 30 (0, 0)) (by (with_reducible repeat (first |refine blk_drewN ?_ _ |refine blk_drew ?_ |refine blk_alloc ?_ _)); exact BK290.out) hb); have n2_ := Aside0.mk (IsS60.below (by repeat (first | (with_reducible first |exact HI282.out |apply IsS60.alloc |apply IsS60.drewN |apply IsS60.drew |apply IsS60.set_0 | (focus (refine IsS60.far ?_ ?_ _; rotate_left; (focus ((repeat (first | (with_reducible exact Nsty.of BK279.out rfl) |apply Nsty.set |apply Nsty.drewN |apply Nsty.drew |apply Nsty.alloc)); done)))) | (focus (refine IsS60.far ?_ ?_ _; rotate_left; (focus ((repeat (first | (with_reducible exact Nsty.of BK290.out rfl) |apply Nsty.set |apply Nsty.drewN |apply Nsty.drew |apply Nsty.alloc)); done))))) |exact HI282.out)) hb); have n3_ := Aside0.mk (below_step (by repeat (first | (with_reducible first |exact HB.out |apply below_alloc |apply pw_below_drewN |apply below_drew1 |refine below_set ?_ (IsS60.ge HI282.out) |refine below_set ?_ GE279.out |refine below_set ?_ GE290.out) |exact HB.out)) hb); have n4_ := Aside0.mk (hbox); have n5_ := Aside0.mk ((by rw [hg]; exact (below_size (by repeat (first | (with_reducible first |exact HB.out |apply below_alloc |apply pw_below_drewN |apply below_drew1 |refine below_set ?_ (IsS60.ge HI282.out) |refine below_set ?_ GE279.out |refine below_set ?_ GE290.out) |exact HB.out))) : w.heap.size ≤ gb317)); have n6_ := Aside0.mk ((by rw [hg]; exact (below_size (by repeat (first | (with_reducible first |exact HB.out |apply below_alloc |apply pw_below_drewN |apply below_drew1 |refine below_set ?_ (IsS60.ge HI282.out) |refine below_set ?_ GE279.out |refine below_set ?_ GE290.out) |exact HB.out))) : w.heap.size ≤ gb317)); have n7_ := Aside0.mk ((by rw [hg]; exact Nat.ne_of_lt (blk_lt (g := gb279) (o := .cells #[.int .i64 a0_0, .int .i64 a0_1, .int .i64 a0_2, .int .i64 a0_3, .int .i64 a0_4, .int .i64 x280005_11] 30 (0, 0)) (by (with_reducible repeat (first |refine blk_drewN ?_ _ |refine blk_drew ?_ |refine blk_alloc ?_ _)); exact BK279.out)) : gb279 ≠ gb317)); have n8_ := Aside0.mk ((by rw [hg]; exact Nat.ne_of_gt (blk_lt (g := gb279) (o := .cells #[.int .i64 a0_0, .int .i64 a0_1, .int .i64 a0_2, .int .i64 a0_3, .int .i64 a0_4, .int .i64 x280005_11] 30 (0, 0)) (by (with_reducible repeat (first |refine blk_drewN ?_ _ |refine blk_drew ?_ |refine blk_alloc ?_ _)); exact BK279.out)) : gb317 ≠ gb279)); have n9_ := Aside0.mk ((by rw [hg]; exact Nat.ne_of_lt (blk_lt (g := gb290) (o := .cells #[.int .i64 t283, .int .i64 t284, .int .i64 t285, .int .i64 t286, .int .i64 t287, .int .i64 t288] 30 (0, 0)) (by (with_reducible repeat (first |refine blk_drewN ?_ _ |refine blk_drew ?_ |refine blk_alloc ?_ _)); exact BK290.out)) : gb290 ≠ gb317)); have n10_ := Aside0.mk ((by rw [hg]; exact Nat.ne_of_gt (blk_lt (g := gb290) (o := .cells #[.int .i64 t283, .int .i64 t284, .int .i64 t285, .int .i64 t286, .int .i64 t287, .int .i64 t288] 30 (0, 0)) (by (with_reducible repeat (first |refine blk_drewN ?_ _ |refine blk_drew ?_ |refine blk_alloc ?_ _)); exact BK290.out)) : gb317 ≠ gb290)); have n11_ := Aside0.mk ((by rw [hg]; exact Nat.ne_of_lt (IsS60.lt (show IsS60 w _ g282 t316 from by repeat (first | (with_reducible first |exact HI282.out |apply IsS60.alloc |apply IsS60.drewN |apply IsS60.drew |apply IsS60.set_0 | (focus (refine IsS60.far ?_ ?_ _; rotate_left; (focus ((repeat (first | (with_reducible exact Nsty.of BK279.out rfl) |apply Nsty.set |apply Nsty.drewN |apply Nsty.drew |apply Nsty.alloc)); done)))) | (focus (refine IsS60.far ?_ ?_ _; rotate_left; (focus ((repeat (first | (with_reducible exact Nsty.of BK290.out rfl) |apply Nsty.set |apply Nsty.drewN |apply Nsty.drew |apply Nsty.alloc)); done))))) |exact HI282.out))) : g282 ≠ gb317)); have n12_ := Aside0.mk ((by rw [hg]; exact Nat.ne_of_gt (IsS60.lt (show IsS60 w _ g282 t316 from by repeat (first | (with_reducible first |exact HI282.out |apply IsS60.alloc |apply IsS60.drewN |apply IsS60.drew |apply IsS60.set_0 | (focus (refine IsS60.far ?_ ?_ _; rotate_left; (focus ((repeat (first | (with_reducible exact Nsty.of BK279.out rfl) |apply Nsty.set |apply Nsty.drewN |apply Nsty.drew |apply Nsty.alloc)); done)))) | (focus (refine IsS60.far ?_ ?_ _; rotate_left; (focus ((repeat (first | (with_reducible exact Nsty.of BK290.out rfl) |apply Nsty.set |apply Nsty.drewN |apply Nsty.drew |apply Nsty.alloc)); done))))) |exact HI282.out))) : gb317 ≠ g282)); clear BK279; clear BK290; clear HI282; clear HB; have BK279 := n0_; have BK290 := n1_; have HI282 := n2_; have HB := n3_; have BK317 := n4_; have GW317 := n5_; have GE317 := n6_; have NB279_317 := n7_; have NB317_279 := n8_; have NB290_317 := n9_; have NB317_290 := n10_; have NB282_317 := n11_; have NB317_282 := n12_; clear n0_ n1_ n2_ n3_ n4_ n5_ n6_ n7_ n8_ n9_ n10_ n11_ n12_; clear hb hbox hg; have hnb48 := NB317_279.out; have hnc48 := NB279_317.out; have hnb49 := NB317_290.out; have hnc49 := NB290_317.out; have hnb50 := NB317_282.out; have hnc50 := NB282_317.out; have hcz51_0 : w47.cell? ⟨gb317, 0, none⟩ = some (.int .i64 0) := (blk_cell BK317.out 0).trans rfl; have hcz51_1 : w47.cell? ⟨gb317, 1, none⟩ = some (.string (⟨#[]⟩ : ByteArray)) := (blk_cell BK317.out 1).trans rfl; have hcz51_2 : w47.cell? ⟨gb317, 2, none⟩ = some (.int .i64 0) := (blk_cell BK317.out 2).trans rfl; have hcz51_3 : w47.cell? ⟨gb317, 3, none⟩ = some (.int .i64 0) := (blk_cell BK317.out 3).trans rfl; have hfz51_0 := blk_frozen BK317.out 0; have hfz51_1 := blk_frozen BK317.out 1; have hfz51_2 := blk_frozen BK317.out 2; have hfz51_3 := blk_frozen BK317.out 3))
         have n0_ : Aside0 (((((w47.setCell ⟨gb317, 0, none⟩ (.int .i64 t311)).setCell ⟨gb317, 1, none⟩ (.string t312)).setCell ⟨gb317, 2, none⟩ (.int .i64 t313)).setCell ⟨gb317, 3, none⟩ (.int .i64 t314)).heap[gb279]? = some (.cells #[.int .i64 a0_0, .int .i64 a0_1, .int .i64 a0_2, .int .i64 a0_3, .int .i64 a0_4, .int .i64 x280005_11] 30 (0, 0))) := ⟨by (with_reducible repeat (first | refine blk_drewN ?_ _ | refine blk_drew ?_ | refine blk_alloc ?_ _)); refine blk_far ?_ NB279_317.out _; (with_reducible repeat (first | refine blk_drewN ?_ _ | refine blk_drew ?_ | refine blk_alloc ?_ _)); refine blk_far ?_ NB279_317.out _; (with_reducible repeat (first | refine blk_drewN ?_ _ | refine blk_drew ?_ | refine blk_alloc ?_ _)); refine blk_far ?_ NB279_317.out _; (with_reducible repeat (first | refine blk_drewN ?_ _ | refine blk_drew ?_ | refine blk_alloc ?_ _)); refine blk_far ?_ NB279_317.out _; (with_reducible repeat (first | refine blk_drewN ?_ _ | refine blk_drew ?_ | refine blk_alloc ?_ _)); exact BK279.out⟩
         have n1_ : Aside0 (((((w47.setCell ⟨gb317, 0, none⟩ (.int .i64 t311)).setCell ⟨gb317, 1, none⟩ (.string t312)).setCell ⟨gb317, 2, none⟩ (.int .i64 t313)).setCell ⟨gb317, 3, none⟩ (.int .i64 t314)).heap[gb290]? = some (.cells #[.int .i64 t283, .int .i64 t284, .int .i64 t285, .int .i64 t286, .int .i64 t287, .int .i64 t288] 30 (0, 0))) := ⟨by (with_reducible repeat (first | refine blk_drewN ?_ _ | refine blk_drew ?_ | refine blk_alloc ?_ _)); refine blk_far ?_ NB290_317.out _; (with_reducible repeat (first | refine blk_drewN ?_ _ | refine blk_drew ?_ | refine blk_alloc ?_ _)); refine blk_far ?_ NB290_317.out _; (with_reducible repeat (first | refine blk_drewN ?_ _ | refine blk_drew ?_ | refine blk_alloc ?_ _)); refine blk_far ?_ NB290_317.out _; (with_reducible repeat (first | refine blk_drewN ?_ _ | refine blk_drew ?_ | refine blk_alloc ?_ _)); refine blk_far ?_ NB290_317.out _; (with_reducible repeat (first | refine blk_drewN ?_ _ | refine blk_drew ?_ | refine blk_alloc ?_ _)); exact BK290.out⟩
         have n2_ : Aside0 (((((w47.setCell ⟨gb317, 0, none⟩ (.int .i64 t311)).setCell ⟨gb317, 1, none⟩ (.string t312)).setCell ⟨gb317, 2, none⟩ (.int .i64 t313)).setCell ⟨gb317, 3, none⟩ (.int .i64 t314)).heap[gb317]? = some (.cells #[.int .i64 t311, .string t312, .int .i64 t313, .int .i64 t314] 40 (0, 0))) := ⟨by (with_reducible repeat (first | refine blk_drewN ?_ _ | refine blk_drew ?_ | refine blk_alloc ?_ _)); refine blk_put (cs := #[.int .i64 t311, .string t312, .int .i64 t313, .int .i64 0]) ?_ 3 _ rfl; (with_reducible repeat (first | refine blk_drewN ?_ _ | refine blk_drew ?_ | refine blk_alloc ?_ _)); refine blk_put (cs := #[.int .i64 t311, .string t312, .int .i64 0, .int .i64 0]) ?_ 2 _ rfl; (with_reducible repeat (first | refine blk_drewN ?_ _ | refine blk_drew ?_ | refine blk_alloc ?_ _)); refine blk_put (cs := #[.int .i64 t311, .string (⟨#[]⟩ : ByteArray), .int .i64 0, .int .i64 0]) ?_ 1 _ rfl; (with_reducible repeat (first | refine blk_drewN ?_ _ | refine blk_drew ?_ | refine blk_alloc ?_ _)); refine blk_put (cs := #[.int .i64 0, .string (⟨#[]⟩ : ByteArray), .int .i64 0, .int .i64 0]) ?_ 0 _ rfl; (with_reducible repeat (first | refine blk_drewN ?_ _ | refine blk_drew ?_ | refine blk_alloc ?_ _)); exact BK317.out⟩
         have n3_ : Aside0 (IsS60 w ((((w47.setCell ⟨gb317, 0, none⟩ (.int .i64 t311)).setCell ⟨gb317, 1, none⟩ (.string t312)).setCell ⟨gb317, 2, none⟩ (.int .i64 t313)).setCell ⟨gb317, 3, none⟩ (.int .i64 t314)) g282 t316) := ⟨by repeat (first | (with_reducible first | exact HI282.out | apply IsS60.alloc | apply IsS60.drewN | apply IsS60.drew | apply IsS60.set_0 | (focus (refine IsS60.far ?_ ?_ _; rotate_left; (focus ((repeat (first | (with_reducible exact Nsty.of BK279.out rfl) | apply Nsty.set | apply Nsty.drewN | apply Nsty.drew | apply Nsty.alloc)); done)))) | (focus (refine IsS60.far ?_ ?_ _; rotate_left; (focus ((repeat (first | (with_reducible exact Nsty.of BK290.out rfl) | apply Nsty.set | apply Nsty.drewN | apply Nsty.drew | apply Nsty.alloc)); done)))) | (focus (refine IsS60.far ?_ ?_ _; rotate_left; (focus ((repeat (first | (with_reducible exact Nsty.of BK317.out rfl) | apply Nsty.set | apply Nsty.drewN | apply Nsty.drew | apply Nsty.alloc)); done))))) | exact HI282.out)⟩
         have n4_ : Aside0 (Below w.heap.size w ((((w47.setCell ⟨gb317, 0, none⟩ (.int .i64 t311)).setCell ⟨gb317, 1, none⟩ (.string t312)).setCell ⟨gb317, 2, none⟩ (.int .i64 t313)).setCell ⟨gb317, 3, none⟩ (.int .i64 t314))) := ⟨by repeat (first | (with_reducible first | exact HB.out | apply below_alloc | apply pw_below_drewN | apply below_drew1 | refine below_set ?_ (IsS60.ge HI282.out) | refine below_set ?_ GE279.out | refine below_set ?_ GE290.out | refine below_set ?_ GE317.out) | exact HB.out)⟩
         (try clear BK279)
         (try clear BK290)
         (try clear BK317)
         (try clear HI282)
         (try clear HB)
         generalize ((((w47.setCell ⟨gb317, 0, none⟩ (.int .i64 t311)).setCell ⟨gb317, 1, none⟩ (.string t312)).setCell ⟨gb317, 2, none⟩ (.int .i64 t313)).setCell ⟨gb317, 3, none⟩ (.int .i64 t314)) = w52 at n0_ n1_ n2_ n3_ n4_ ⊢
         have BK279 := n0_
         have BK290 := n1_
         have BK317 := n2_
         have HI282 := n3_
         have HB := n4_
         clear n0_ n1_ n2_ n3_ n4_
         have n0_ := Aside0.mk (blk_drew BK279.out)
         have n1_ := Aside0.mk (blk_drew BK290.out)
         have n2_ := Aside0.mk (blk_drew BK317.out)
         have n3_ := Aside0.mk (IsS60.drew HI282.out)
         have n4_ := Aside0.mk (below_drew1 HB.out)
         clear BK279
         clear BK290
         clear BK317
         clear HI282
         clear HB
         have BK279 := n0_
         have BK290 := n1_
         have BK317 := n2_
         have HI282 := n3_
         have HB := n4_
         clear n0_ n1_ n2_ n3_ n4_
         refine start_ (n := 5) (S := fun w' => w'.cell? ⟨gb317, 0, none⟩ = some (.int .i64 t311) ∧ w'.cell? ⟨gb317, 1, none⟩ = some (.string t312) ∧ w'.cell? ⟨gb317, 2, none⟩ = some (.int .i64 t313) ∧ w'.cell? ⟨gb317, 3, none⟩ = some (.int .i64 t314)) (ds := []) #[false,false,false,false,false] (by kernel_rfl) rfl rfl ⟨(blk_cell BK317.out 0).trans rfl, (blk_cell BK317.out 1).trans rfl, (blk_cell BK317.out 2).trans rfl, (blk_cell BK317.out 3).trans rfl⟩ (fun hHeld => ?_)
         generalize w52.drew = w53 at BK279 BK290 BK317 HI282 HB hHeld ⊢
         refine pure_ (i := 1) (N := some 49) (v := ?_) (a' := ?_) #[false,true,false,false,false] rfl rfl (by kernel_rfl) (fun _ _ _ h => h) (Or.inl ⟨by rfl, ?_⟩) ?_ ?_
         rotate_left
         ·
          intro w'
          go_simp
          first | (with_reducible rfl) | (rw [node_field0]; rfl) | (rw [node_field2]; rfl) | (rw [node_field3]; rfl) | (rw [node_field1]; rfl)
         rotate_left
         ·
          simp only [Act.put, List.setIfInBounds_toArray, List.set_cons_zero, List.set_cons_succ, i64_w, i32_w]
          rfl
         refine pure_ (i := 2) (N := some 50) (v := ?_) (a' := ?_) #[false,true,true,false,false] rfl rfl (by kernel_rfl) (fun _ _ _ h => h) (Or.inl ⟨by rfl, ?_⟩) ?_ ?_
         rotate_left
         ·
          intro w'
          go_simp
          first | (with_reducible rfl) | (rw [node_field0]; rfl) | (rw [node_field2]; rfl) | (rw [node_field3]; rfl) | (rw [node_field1]; rfl)
         rotate_left
         ·
          simp only [Act.put, List.setIfInBounds_toArray, List.set_cons_zero, List.set_cons_succ, i64_w, i32_w]
          rfl
         refine take_ (i := 0) (N := some 48) (v := ?_) (a' := ?_) #[true,true,true,false,false] rfl rfl (by kernel_rfl) (fun _ _ _ h => h) (Or.inl ⟨by rfl, ?_⟩) hHeld ?_ ?_
         rotate_left
         ·
          rintro w' ⟨s0, s1, s2, s3⟩
          go_simp
          first | (with_reducible rfl) | (rw [node_field0]; rfl) | (rw [node_field2]; rfl) | (rw [node_field3]; rfl) | (rw [node_field1]; rfl)
         rotate_left
         ·
          simp only [Act.put, List.setIfInBounds_toArray, List.set_cons_zero, List.set_cons_succ, i64_w, i32_w]
          rfl
         refine one_ (i := 3) (N := some 51) #[true,true,true,true,false] rfl rfl (by kernel_rfl) (by decide) (fun K hK => ?_)
         refine goes_ Tryd.func15 (by kernel_rfl) rfl #[.pointer (some ⟨g282 + 1, 0, none⟩), .int .i64 x10_2] (by rfl) rfl rfl (by (try simp only [List.map_toArray, List.map_cons, List.map_nil]); first | done | rfl | (simp only [List.length_drop, List.length_take]; rfl)) ?_
         with_reducible refine (conclaveref01_Store_Get.calls g282 t316 x10_2 t318 t319 t320 t321 t322 w _ ?side1 ?side2 A33.out).mono ?_
         (case side1 => repeat (first | (with_reducible first | exact HI282.out | apply IsS60.alloc | apply IsS60.drewN | apply IsS60.drew | apply IsS60.set_0 | (focus (refine IsS60.far ?_ ?_ _; rotate_left; (focus ((repeat (first | (with_reducible exact Nsty.of BK279.out rfl) | apply Nsty.set | apply Nsty.drewN | apply Nsty.drew | apply Nsty.alloc)); done)))) | (focus (refine IsS60.far ?_ ?_ _; rotate_left; (focus ((repeat (first | (with_reducible exact Nsty.of BK290.out rfl) | apply Nsty.set | apply Nsty.drewN | apply Nsty.drew | apply Nsty.alloc)); done)))) | (focus (refine IsS60.far ?_ ?_ _; rotate_left; (focus ((repeat (first | (with_reducible exact Nsty.of BK317.out rfl) | apply Nsty.set | apply Nsty.drewN | apply Nsty.drew | apply Nsty.alloc)); done))))) | exact HI282.out))
         (case side2 => repeat (first | (with_reducible first | exact HB.out | apply below_alloc | apply pw_below_drewN | apply below_drew1 | refine below_set ?_ (IsS60.ge HI282.out) | refine below_set ?_ GE279.out | refine below_set ?_ GE290.out | refine below_set ?_ GE317.out) | exact HB.out))
         rintro e w54 ⟨rfl, hi, hb, hk⟩
         refine ⟨_, rfl, ?_⟩
         have n0_ := Aside0.mk (KeepSt.blk hk (g' := gb279) (o := .cells #[.int .i64 a0_0, .int .i64 a0_1, .int .i64 a0_2, .int .i64 a0_3, .int .i64 a0_4, .int .i64 x280005_11] 30 (0, 0)) (by (with_reducible repeat (first | refine blk_drewN ?_ _ | refine blk_drew ?_ | refine blk_alloc ?_ _)); exact BK279.out) NB279_282.out rfl)
         have n1_ := Aside0.mk (KeepSt.blk hk (g' := gb290) (o := .cells #[.int .i64 t283, .int .i64 t284, .int .i64 t285, .int .i64 t286, .int .i64 t287, .int .i64 t288] 30 (0, 0)) (by (with_reducible repeat (first | refine blk_drewN ?_ _ | refine blk_drew ?_ | refine blk_alloc ?_ _)); exact BK290.out) NB290_282.out rfl)
         have n2_ := Aside0.mk (KeepSt.blk hk (g' := gb317) (o := .cells #[.int .i64 t311, .string t312, .int .i64 t313, .int .i64 t314] 40 (0, 0)) (by (with_reducible repeat (first | refine blk_drewN ?_ _ | refine blk_drew ?_ | refine blk_alloc ?_ _)); exact BK317.out) NB317_282.out rfl)
         have n3_ := Aside0.mk (hb)
         have n4_ := Aside0.mk (hi)
         clear BK279
         clear BK290
         clear BK317
         clear HB
         clear HI282
         have BK279 := n0_
         have BK290 := n1_
         have BK317 := n2_
         have HB := n3_
         have HI282 := n4_
         clear n0_ n1_ n2_ n3_ n4_
         (try clear hb)
         (try clear hb2)
         (try clear hk)
         (try clear hi)
         refine hK.out _ _ ⟨(blk_cell BK317.out 0).trans rfl, (blk_cell BK317.out 1).trans rfl, (blk_cell BK317.out 2).trans rfl, (blk_cell BK317.out 3).trans rfl⟩ (fun hHeld => ?_)
         clear hK K
         refine norm_ (a' := ?_) ?_ ?_
         rotate_left
         ·
          show Act.put _ (some 51) _ = _
          simp only [Act.put, List.setIfInBounds_toArray, List.set_cons_zero, List.set_cons_succ, i64_w, i32_w]
          rfl
         refine pure_ (i := 4) (N := some 52) (v := ?_) (a' := ?_) #[true,true,true,true,true] rfl rfl (by kernel_rfl) (fun _ _ _ h => h) (Or.inl ⟨by rfl, ?_⟩) ?_ ?_
         rotate_left
         ·
          intro w'
          go_simp
          first | (with_reducible rfl) | (rw [node_field0]; rfl) | (rw [node_field2]; rfl) | (rw [node_field3]; rfl) | (rw [node_field1]; rfl)
         rotate_left
         ·
          simp only [Act.put, List.setIfInBounds_toArray, List.set_cons_zero, List.set_cons_succ, i64_w, i32_w]
          rfl
         refine done_ (by kernel_rfl) ?_
         try go_wp2
         go_roundg k2
         case measure => have := HJ11.out; have := HK2.out; omega
         case rel => exact ⟨(wrap64 (x10_2 + 1)), (t322), (by first | rfl | (simp; done) | (simp [*]; done)), H', ⟨by have := HJ11.out; have := HK2.out; omega⟩, ⟨by (with_reducible repeat (first | refine blk_drewN ?_ _ | refine blk_drew ?_ | refine blk_alloc ?_ _)); exact BK279.out⟩, ⟨by (with_reducible repeat (first | refine blk_drewN ?_ _ | refine blk_drew ?_ | refine blk_alloc ?_ _)); exact BK290.out⟩, ⟨by repeat (first | (with_reducible first | exact HI282.out | apply IsS60.alloc | apply IsS60.drewN | apply IsS60.drew | apply IsS60.set_0 | (focus (refine IsS60.far ?_ ?_ _; rotate_left; (focus ((repeat (first | (with_reducible exact Nsty.of BK279.out rfl) | apply Nsty.set | apply Nsty.drewN | apply Nsty.drew | apply Nsty.alloc)); done)))) | (focus (refine IsS60.far ?_ ?_ _; rotate_left; (focus ((repeat (first | (with_reducible exact Nsty.of BK290.out rfl) | apply Nsty.set | apply Nsty.drewN | apply Nsty.drew | apply Nsty.alloc)); done)))) | (focus (refine IsS60.far ?_ ?_ _; rotate_left; (focus ((repeat (first | (with_reducible exact Nsty.of BK317.out rfl) | apply Nsty.set | apply Nsty.drewN | apply Nsty.drew | apply Nsty.alloc)); done))))) | exact HI282.out)⟩, ⟨by repeat (first | (with_reducible first | exact HB.out | apply below_alloc | apply pw_below_drewN | apply below_drew1 | refine below_set ?_ (IsS60.ge HI282.out) | refine below_set ?_ GE279.out | refine below_set ?_ GE290.out | refine below_set ?_ GE317.out) | exact HB.out)⟩⟩
       ·
        rw [if_neg c31] at H
        have c31b0 : decide (x10_2 ≤ t298) = false := decide_eq_false c31
        clear c31
        obtain ⟨y301, hy301⟩ : ∃ y_ : List Int, y_ = (([] : List Int)) := ⟨_, rfl⟩
        replace H : (if y301.length + l2.length < 17592186044416 then ((card_Check.f k2 t299 a0_0 a0_1 a0_2 a0_3 a0_4 x280005_11 a1 (y301 ++ l2)).bind fun bt307 => ((conclaveref09_Check.f k2 bt307.2 a0_0 a0_1 a0_2 a0_3 a0_4 x280005_11 a1 l2).bind fun bt309 => (some (bt307.1 == bt309.1)))) else (none)) = some r := by first | (rw [hy301]; with_reducible exact H) | (have H2_ := (Option.bind_some _ _).symm.trans H; rw [hy301]; with_reducible exact H2_) | (have H2_ := (Option.bind_some _ _).symm.trans H; with_reducible exact H2_) | with_reducible exact H | (rw [hy301]; exact H) | exact H
        have Ny301 := Aside0.mk hy301
        clear hy301
        by_cases c55 : y301.length + l2.length < 17592186044416
        ·
         rw [if_pos c55] at H
         have LMc55 := Aside0.mk c55
         clear c55
         obtain ⟨y304, hy304⟩ : ∃ y_ : List Int, y_ = (y301 ++ l2) := ⟨_, rfl⟩
         replace H : ((card_Check.f k2 t299 a0_0 a0_1 a0_2 a0_3 a0_4 x280005_11 a1 y304).bind fun bt307 => ((conclaveref09_Check.f k2 bt307.2 a0_0 a0_1 a0_2 a0_3 a0_4 x280005_11 a1 l2).bind fun bt309 => (some (bt307.1 == bt309.1)))) = some r := by first | (rw [hy304]; with_reducible exact H) | (have H2_ := (Option.bind_some _ _).symm.trans H; rw [hy304]; with_reducible exact H2_) | (have H2_ := (Option.bind_some _ _).symm.trans H; with_reducible exact H2_) | with_reducible exact H | (rw [hy304]; exact H) | exact H
         have Ny304 := Aside0.mk hy304
         clear hy304
         replace H := Option.bind_eq_some_iff.mp H
         obtain ⟨⟨t307, t308⟩, A560, H⟩ := H
         replace H : ((conclaveref09_Check.f k2 t308 a0_0 a0_1 a0_2 a0_3 a0_4 x280005_11 a1 l2).bind fun bt309 => (some (t307 == bt309.1))) = some r := H
         have A56 := Aside0.mk A560
         clear A560
         replace H := Option.bind_eq_some_iff.mp H
         obtain ⟨⟨t309, t310⟩, A570, H⟩ := H
         replace H : (some (t307 == t309)) = some r := H
         have A57 := Aside0.mk A570
         clear A570
         obtain rfl := Option.some.inj H
         try exact absurd hr Bool.false_ne_true
         all_goals
          try go_wp2_with (first | ((with_reducible refine gate_callee (f := 13) rfl ?_); refine goesL_ (some 38) rfl rfl Tryd.func13 (by kernel_rfl) rfl #[.pointer (some ⟨g282, 0, none⟩)] rfl (by (try simp only [List.map_toArray, List.map_cons, List.map_nil]); first | done | rfl | (simp only [List.length_drop, List.length_take]; rfl)) ?_; (with_reducible refine (term_Store_Len.calls g282 x283000_2 t298 t299 w _ ?side1 ?side2 A30.out).mono ?_); (case side1 => repeat (first | (with_reducible first |exact HI282.out |apply IsS60.alloc |apply IsS60.drewN |apply IsS60.drew |apply IsS60.set_0 | (focus (refine IsS60.far ?_ ?_ _; rotate_left; (focus ((repeat (first | (with_reducible exact Nsty.of BK279.out rfl) |apply Nsty.set |apply Nsty.drewN |apply Nsty.drew |apply Nsty.alloc)); done)))) | (focus (refine IsS60.far ?_ ?_ _; rotate_left; (focus ((repeat (first | (with_reducible exact Nsty.of BK290.out rfl) |apply Nsty.set |apply Nsty.drewN |apply Nsty.drew |apply Nsty.alloc)); done))))) |exact HI282.out)); (case side2 => repeat (first | (with_reducible first |exact HB.out |apply below_alloc |apply pw_below_drewN |apply below_drew1 |refine below_set ?_ (IsS60.ge HI282.out) |refine below_set ?_ GE279.out |refine below_set ?_ GE290.out) |exact HB.out)); rintro e w58 ⟨rfl, hi, hb, hk⟩; refine ⟨_, rfl, ?_⟩; have n0_ := Aside0.mk (KeepSt.blk hk (g' := gb279) (o := .cells #[.int .i64 a0_0, .int .i64 a0_1, .int .i64 a0_2, .int .i64 a0_3, .int .i64 a0_4, .int .i64 x280005_11] 30 (0, 0)) (by (with_reducible repeat (first |refine blk_drewN ?_ _ |refine blk_drew ?_ |refine blk_alloc ?_ _)); exact BK279.out) NB279_282.out rfl); have n1_ := Aside0.mk (KeepSt.blk hk (g' := gb290) (o := .cells #[.int .i64 t283, .int .i64 t284, .int .i64 t285, .int .i64 t286, .int .i64 t287, .int .i64 t288] 30 (0, 0)) (by (with_reducible repeat (first |refine blk_drewN ?_ _ |refine blk_drew ?_ |refine blk_alloc ?_ _)); exact BK290.out) NB290_282.out rfl); have n2_ := Aside0.mk (hb); have n3_ := Aside0.mk (hi); clear BK279; clear BK290; clear HB; clear HI282; have BK279 := n0_; have BK290 := n1_; have HB := n2_; have HI282 := n3_; clear n0_ n1_ n2_ n3_; (try clear hb); (try clear hb2); (try clear hk); (try clear hi); have hnb59 := NB279_290.out; have hnc59 := NB290_279.out; have hnb60 := NB279_282.out; have hnc60 := NB282_279.out; have hcz61_0 : w58.cell? ⟨gb279, 0, none⟩ = some (.int .i64 a0_0) := (blk_cell BK279.out 0).trans rfl; have hcz61_1 : w58.cell? ⟨gb279, 1, none⟩ = some (.int .i64 a0_1) := (blk_cell BK279.out 1).trans rfl; have hcz61_2 : w58.cell? ⟨gb279, 2, none⟩ = some (.int .i64 a0_2) := (blk_cell BK279.out 2).trans rfl; have hcz61_3 : w58.cell? ⟨gb279, 3, none⟩ = some (.int .i64 a0_3) := (blk_cell BK279.out 3).trans rfl; have hcz61_4 : w58.cell? ⟨gb279, 4, none⟩ = some (.int .i64 a0_4) := (blk_cell BK279.out 4).trans rfl; have hcz61_5 : w58.cell? ⟨gb279, 5, none⟩ = some (.int .i64 x280005_11) := (blk_cell BK279.out 5).trans rfl; have hfz61_0 := blk_frozen BK279.out 0; have hfz61_1 := blk_frozen BK279.out 1; have hfz61_2 := blk_frozen BK279.out 2; have hfz61_3 := blk_frozen BK279.out 3; have hfz61_4 := blk_frozen BK279.out 4; have hfz61_5 := blk_frozen BK279.out 5) | ((with_reducible refine gate_dst (N := 13) rfl ?_); refine box_event ?hg (N := 13) ?hd (cs := #[.int .i64 0, .int .i64 0, .int .i64 0, .int .i64 0, .int .i64 0, .int .i64 0]) (t := 36) ?hr ?_; (case hd => rfl); (case hg => rfl); (case hr => first | (go_simp; done) | (go_simp; rfl)); intro gb300 hg w62 hbox hb; have n0_ := Aside0.mk (blk_below (g := gb279) (o := .cells #[.int .i64 a0_0, .int .i64 a0_1, .int .i64 a0_2, .int .i64 a0_3, .int .i64 a0_4, .int .i64 x280005_11] 30 (0, 0)) (by (with_reducible repeat (first |refine blk_drewN ?_ _ |refine blk_drew ?_ |refine blk_alloc ?_ _)); exact BK279.out) hb); have n1_ := Aside0.mk (blk_below (g := gb290) (o := .cells #[.int .i64 t283, .int .i64 t284, .int .i64 t285, .int .i64 t286, .int .i64 t287, .int .i64 t288] 30 (0, 0)) (by (with_reducible repeat (first |refine blk_drewN ?_ _ |refine blk_drew ?_ |refine blk_alloc ?_ _)); exact BK290.out) hb); have n2_ := Aside0.mk (IsS60.below (by repeat (first | (with_reducible first |exact HI282.out |apply IsS60.alloc |apply IsS60.drewN |apply IsS60.drew |apply IsS60.set_0 | (focus (refine IsS60.far ?_ ?_ _; rotate_left; (focus ((repeat (first | (with_reducible exact Nsty.of BK279.out rfl) |apply Nsty.set |apply Nsty.drewN |apply Nsty.drew |apply Nsty.alloc)); done)))) | (focus (refine IsS60.far ?_ ?_ _; rotate_left; (focus ((repeat (first | (with_reducible exact Nsty.of BK290.out rfl) |apply Nsty.set |apply Nsty.drewN |apply Nsty.drew |apply Nsty.alloc)); done))))) |exact HI282.out)) hb); have n3_ := Aside0.mk (below_step (by repeat (first | (with_reducible first |exact HB.out |apply below_alloc |apply pw_below_drewN |apply below_drew1 |refine below_set ?_ (IsS60.ge HI282.out) |refine below_set ?_ GE279.out |refine below_set ?_ GE290.out) |exact HB.out)) hb); have n4_ := Aside0.mk (hbox); have n5_ := Aside0.mk ((by rw [hg]; exact (below_size (by repeat (first | (with_reducible first |exact HB.out |apply below_alloc |apply pw_below_drewN |apply below_drew1 |refine below_set ?_ (IsS60.ge HI282.out) |refine below_set ?_ GE279.out |refine below_set ?_ GE290.out) |exact HB.out))) : w.heap.size ≤ gb300)); have n6_ := Aside0.mk ((by rw [hg]; exact (below_size (by repeat (first | (with_reducible first |exact HB.out |apply below_alloc |apply pw_below_drewN |apply below_drew1 |refine below_set ?_ (IsS60.ge HI282.out) |refine below_set ?_ GE279.out |refine below_set ?_ GE290.out) |exact HB.out))) : w.heap.size ≤ gb300)); have n7_ := Aside0.mk ((by rw [hg]; exact Nat.ne_of_lt (blk_lt (g := gb279) (o := .cells #[.int .i64 a0_0, .int .i64 a0_1, .int .i64 a0_2, .int .i64 a0_3, .int .i64 a0_4, .int .i64 x280005_11] 30 (0, 0)) (by (with_reducible repeat (first |refine blk_drewN ?_ _ |refine blk_drew ?_ |refine blk_alloc ?_ _)); exact BK279.out)) : gb279 ≠ gb300)); have n8_ := Aside0.mk ((by rw [hg]; exact Nat.ne_of_gt (blk_lt (g := gb279) (o := .cells #[.int .i64 a0_0, .int .i64 a0_1, .int .i64 a0_2, .int .i64 a0_3, .int .i64 a0_4, .int .i64 x280005_11] 30 (0, 0)) (by (with_reducible repeat (first |refine blk_drewN ?_ _ |refine blk_drew ?_ |refine blk_alloc ?_ _)); exact BK279.out)) : gb300 ≠ gb279)); have n9_ := Aside0.mk ((by rw [hg]; exact Nat.ne_of_lt (blk_lt (g := gb290) (o := .cells #[.int .i64 t283, .int .i64 t284, .int .i64 t285, .int .i64 t286, .int .i64 t287, .int .i64 t288] 30 (0, 0)) (by (with_reducible repeat (first |refine blk_drewN ?_ _ |refine blk_drew ?_ |refine blk_alloc ?_ _)); exact BK290.out)) : gb290 ≠ gb300)); have n10_ := Aside0.mk ((by rw [hg]; exact Nat.ne_of_gt (blk_lt (g := gb290) (o := .cells #[.int .i64 t283, .int .i64 t284, .int .i64 t285, .int .i64 t286, .int .i64 t287, .int .i64 t288] 30 (0, 0)) (by (with_reducible repeat (first |refine blk_drewN ?_ _ |refine blk_drew ?_ |refine blk_alloc ?_ _)); exact BK290.out)) : gb300 ≠ gb290)); have n11_ := Aside0.mk ((by rw [hg]; exact Nat.ne_of_lt (IsS60.lt (show IsS60 w _ g282 t299 from by repeat (first | (with_reducible first |exact HI282.out |apply IsS60.alloc |apply IsS60.drewN |apply IsS60.drew |apply IsS60.set_0 | (focus (refine IsS60.far ?_ ?_ _; rotate_left; (focus ((repeat (first | (with_reducible exact Nsty.of BK279.out rfl) |apply Nsty.set |apply Nsty.drewN |apply Nsty.drew |apply Nsty.alloc)); done)))) | (focus (refine IsS60.far ?_ ?_ _; rotate_left; (focus ((repeat (first | (with_reducible exact Nsty.of BK290.out rfl) |apply Nsty.set |apply Nsty.drewN |apply Nsty.drew |apply Nsty.alloc)); done))))) |exact HI282.out))) : g282 ≠ gb300)); have n12_ := Aside0.mk ((by rw [hg]; exact Nat.ne_of_gt (IsS60.lt (show IsS60 w _ g282 t299 from by repeat (first | (with_reducible first |exact HI282.out |apply IsS60.alloc |apply IsS60.drewN |apply IsS60.drew |apply IsS60.set_0 | (focus (refine IsS60.far ?_ ?_ _; rotate_left; (focus ((repeat (first | (with_reducible exact Nsty.of BK279.out rfl) |apply Nsty.set |apply Nsty.drewN |apply Nsty.drew |apply Nsty.alloc)); done)))) | (focus (refine IsS60.far ?_ ?_ _; rotate_left; (focus ((repeat (first | (with_reducible exact Nsty.of BK290.out rfl) |apply Nsty.set |apply Nsty.drewN |apply Nsty.drew |apply Nsty.alloc)); done))))) |exact HI282.out))) : gb300 ≠ g282)); clear BK279; clear BK290; clear HI282; clear HB; have BK279 := n0_; have BK290 := n1_; have HI282 := n2_; have HB := n3_; have BK300 := n4_; have GW300 := n5_; have GE300 := n6_; have NB279_300 := n7_; have NB300_279 := n8_; have NB290_300 := n9_; have NB300_290 := n10_; have NB282_300 := n11_; have NB300_282 := n12_; clear n0_ n1_ n2_ n3_ n4_ n5_ n6_ n7_ n8_ n9_ n10_ n11_ n12_; clear hb hbox hg; have hnb63 := NB300_279.out; have hnc63 := NB279_300.out; have hnb64 := NB300_290.out; have hnc64 := NB290_300.out; have hnb65 := NB300_282.out; have hnc65 := NB282_300.out; have hcz66_0 : w62.cell? ⟨gb300, 0, none⟩ = some (.int .i64 0) := (blk_cell BK300.out 0).trans rfl; have hcz66_1 : w62.cell? ⟨gb300, 1, none⟩ = some (.int .i64 0) := (blk_cell BK300.out 1).trans rfl; have hcz66_2 : w62.cell? ⟨gb300, 2, none⟩ = some (.int .i64 0) := (blk_cell BK300.out 2).trans rfl; have hcz66_3 : w62.cell? ⟨gb300, 3, none⟩ = some (.int .i64 0) := (blk_cell BK300.out 3).trans rfl; have hcz66_4 : w62.cell? ⟨gb300, 4, none⟩ = some (.int .i64 0) := (blk_cell BK300.out 4).trans rfl; have hcz66_5 : w62.cell? ⟨gb300, 5, none⟩ = some (.int .i64 0) := (blk_cell BK300.out 5).trans rfl; have hfz66_0 := blk_frozen BK300.out 0; have hfz66_1 := blk_frozen BK300.out 1; have hfz66_2 := blk_frozen BK300.out 2; have hfz66_3 := blk_frozen BK300.out 3; have hfz66_4 := blk_frozen BK300.out 4; have hfz66_5 := blk_frozen BK300.out 5))
          have n0_ : Aside0 (((((((w62.setCell ⟨gb300, 0, none⟩ (.int .i64 a0_0)).setCell ⟨gb300, 1, none⟩ (.int .i64 a0_1)).setCell ⟨gb300, 2, none⟩ (.int .i64 a0_2)).setCell ⟨gb300, 3, none⟩ (.int .i64 a0_3)).setCell ⟨gb300, 4, none⟩ (.int .i64 a0_4)).setCell ⟨gb300, 5, none⟩ (.int .i64 x280005_11)).heap[gb279]? = some (.cells #[.int .i64 a0_0, .int .i64 a0_1, .int .i64 a0_2, .int .i64 a0_3, .int .i64 a0_4, .int .i64 x280005_11] 30 (0, 0))) := ⟨by (with_reducible repeat (first | refine blk_drewN ?_ _ | refine blk_drew ?_ | refine blk_alloc ?_ _)); refine blk_far ?_ NB279_300.out _; (with_reducible repeat (first | refine blk_drewN ?_ _ | refine blk_drew ?_ | refine blk_alloc ?_ _)); refine blk_far ?_ NB279_300.out _; (with_reducible repeat (first | refine blk_drewN ?_ _ | refine blk_drew ?_ | refine blk_alloc ?_ _)); refine blk_far ?_ NB279_300.out _; (with_reducible repeat (first | refine blk_drewN ?_ _ | refine blk_drew ?_ | refine blk_alloc ?_ _)); refine blk_far ?_ NB279_300.out _; (with_reducible repeat (first | refine blk_drewN ?_ _ | refine blk_drew ?_ | refine blk_alloc ?_ _)); refine blk_far ?_ NB279_300.out _; (with_reducible repeat (first | refine blk_drewN ?_ _ | refine blk_drew ?_ | refine blk_alloc ?_ _)); refine blk_far ?_ NB279_300.out _; (with_reducible repeat (first | refine blk_drewN ?_ _ | refine blk_drew ?_ | refine blk_alloc ?_ _)); exact BK279.out⟩
          have n1_ : Aside0 (((((((w62.setCell ⟨gb300, 0, none⟩ (.int .i64 a0_0)).setCell ⟨gb300, 1, none⟩ (.int .i64 a0_1)).setCell ⟨gb300, 2, none⟩ (.int .i64 a0_2)).setCell ⟨gb300, 3, none⟩ (.int .i64 a0_3)).setCell ⟨gb300, 4, none⟩ (.int .i64 a0_4)).setCell ⟨gb300, 5, none⟩ (.int .i64 x280005_11)).heap[gb290]? = some (.cells #[.int .i64 t283, .int .i64 t284, .int .i64 t285, .int .i64 t286, .int .i64 t287, .int .i64 t288] 30 (0, 0))) := ⟨by (with_reducible repeat (first | refine blk_drewN ?_ _ | refine blk_drew ?_ | refine blk_alloc ?_ _)); refine blk_far ?_ NB290_300.out _; (with_reducible repeat (first | refine blk_drewN ?_ _ | refine blk_drew ?_ | refine blk_alloc ?_ _)); refine blk_far ?_ NB290_300.out _; (with_reducible repeat (first | refine blk_drewN ?_ _ | refine blk_drew ?_ | refine blk_alloc ?_ _)); refine blk_far ?_ NB290_300.out _; (with_reducible repeat (first | refine blk_drewN ?_ _ | refine blk_drew ?_ | refine blk_alloc ?_ _)); refine blk_far ?_ NB290_300.out _; (with_reducible repeat (first | refine blk_drewN ?_ _ | refine blk_drew ?_ | refine blk_alloc ?_ _)); refine blk_far ?_ NB290_300.out _; (with_reducible repeat (first | refine blk_drewN ?_ _ | refine blk_drew ?_ | refine blk_alloc ?_ _)); refine blk_far ?_ NB290_300.out _; (with_reducible repeat (first | refine blk_drewN ?_ _ | refine blk_drew ?_ | refine blk_alloc ?_ _)); exact BK290.out⟩
          have n2_ : Aside0 (((((((w62.setCell ⟨gb300, 0, none⟩ (.int .i64 a0_0)).setCell ⟨gb300, 1, none⟩ (.int .i64 a0_1)).setCell ⟨gb300, 2, none⟩ (.int .i64 a0_2)).setCell ⟨gb300, 3, none⟩ (.int .i64 a0_3)).setCell ⟨gb300, 4, none⟩ (.int .i64 a0_4)).setCell ⟨gb300, 5, none⟩ (.int .i64 x280005_11)).heap[gb300]? = some (.cells #[.int .i64 a0_0, .int .i64 a0_1, .int .i64 a0_2, .int .i64 a0_3, .int .i64 a0_4, .int .i64 x280005_11] 36 (0, 0))) := ⟨by (with_reducible repeat (first | refine blk_drewN ?_ _ | refine blk_drew ?_ | refine blk_alloc ?_ _)); refine blk_put (cs := #[.int .i64 a0_0, .int .i64 a0_1, .int .i64 a0_2, .int .i64 a0_3, .int .i64 a0_4, .int .i64 0]) ?_ 5 _ rfl; (with_reducible repeat (first | refine blk_drewN ?_ _ | refine blk_drew ?_ | refine blk_alloc ?_ _)); refine blk_put (cs := #[.int .i64 a0_0, .int .i64 a0_1, .int .i64 a0_2, .int .i64 a0_3, .int .i64 0, .int .i64 0]) ?_ 4 _ rfl; (with_reducible repeat (first | refine blk_drewN ?_ _ | refine blk_drew ?_ | refine blk_alloc ?_ _)); refine blk_put (cs := #[.int .i64 a0_0, .int .i64 a0_1, .int .i64 a0_2, .int .i64 0, .int .i64 0, .int .i64 0]) ?_ 3 _ rfl; (with_reducible repeat (first | refine blk_drewN ?_ _ | refine blk_drew ?_ | refine blk_alloc ?_ _)); refine blk_put (cs := #[.int .i64 a0_0, .int .i64 a0_1, .int .i64 0, .int .i64 0, .int .i64 0, .int .i64 0]) ?_ 2 _ rfl; (with_reducible repeat (first | refine blk_drewN ?_ _ | refine blk_drew ?_ | refine blk_alloc ?_ _)); refine blk_put (cs := #[.int .i64 a0_0, .int .i64 0, .int .i64 0, .int .i64 0, .int .i64 0, .int .i64 0]) ?_ 1 _ rfl; (with_reducible repeat (first | refine blk_drewN ?_ _ | refine blk_drew ?_ | refine blk_alloc ?_ _)); refine blk_put (cs := #[.int .i64 0, .int .i64 0, .int .i64 0, .int .i64 0, .int .i64 0, .int .i64 0]) ?_ 0 _ rfl; (with_reducible repeat (first | refine blk_drewN ?_ _ | refine blk_drew ?_ | refine blk_alloc ?_ _)); exact BK300.out⟩
          have n3_ : Aside0 (IsS60 w ((((((w62.setCell ⟨gb300, 0, none⟩ (.int .i64 a0_0)).setCell ⟨gb300, 1, none⟩ (.int .i64 a0_1)).setCell ⟨gb300, 2, none⟩ (.int .i64 a0_2)).setCell ⟨gb300, 3, none⟩ (.int .i64 a0_3)).setCell ⟨gb300, 4, none⟩ (.int .i64 a0_4)).setCell ⟨gb300, 5, none⟩ (.int .i64 x280005_11)) g282 t299) := ⟨by repeat (first | (with_reducible first | exact HI282.out | apply IsS60.alloc | apply IsS60.drewN | apply IsS60.drew | apply IsS60.set_0 | (focus (refine IsS60.far ?_ ?_ _; rotate_left; (focus ((repeat (first | (with_reducible exact Nsty.of BK279.out rfl) | apply Nsty.set | apply Nsty.drewN | apply Nsty.drew | apply Nsty.alloc)); done)))) | (focus (refine IsS60.far ?_ ?_ _; rotate_left; (focus ((repeat (first | (with_reducible exact Nsty.of BK290.out rfl) | apply Nsty.set | apply Nsty.drewN | apply Nsty.drew | apply Nsty.alloc)); done)))) | (focus (refine IsS60.far ?_ ?_ _; rotate_left; (focus ((repeat (first | (with_reducible exact Nsty.of BK300.out rfl) | apply Nsty.set | apply Nsty.drewN | apply Nsty.drew | apply Nsty.alloc)); done))))) | exact HI282.out)⟩
          have n4_ : Aside0 (Below w.heap.size w ((((((w62.setCell ⟨gb300, 0, none⟩ (.int .i64 a0_0)).setCell ⟨gb300, 1, none⟩ (.int .i64 a0_1)).setCell ⟨gb300, 2, none⟩ (.int .i64 a0_2)).setCell ⟨gb300, 3, none⟩ (.int .i64 a0_3)).setCell ⟨gb300, 4, none⟩ (.int .i64 a0_4)).setCell ⟨gb300, 5, none⟩ (.int .i64 x280005_11))) := ⟨by repeat (first | (with_reducible first | exact HB.out | apply below_alloc | apply pw_below_drewN | apply below_drew1 | refine below_set ?_ (IsS60.ge HI282.out) | refine below_set ?_ GE279.out | refine below_set ?_ GE290.out | refine below_set ?_ GE300.out) | exact HB.out)⟩
          (try clear BK279)
          (try clear BK290)
          (try clear BK300)
          (try clear HI282)
          (try clear HB)
          generalize ((((((w62.setCell ⟨gb300, 0, none⟩ (.int .i64 a0_0)).setCell ⟨gb300, 1, none⟩ (.int .i64 a0_1)).setCell ⟨gb300, 2, none⟩ (.int .i64 a0_2)).setCell ⟨gb300, 3, none⟩ (.int .i64 a0_3)).setCell ⟨gb300, 4, none⟩ (.int .i64 a0_4)).setCell ⟨gb300, 5, none⟩ (.int .i64 x280005_11)) = w67 at n0_ n1_ n2_ n3_ n4_ ⊢
          have BK279 := n0_
          have BK290 := n1_
          have BK300 := n2_
          have HI282 := n3_
          have HB := n4_
          clear n0_ n1_ n2_ n3_ n4_
          have n0_ := Aside0.mk (blk_drew BK279.out)
          have n1_ := Aside0.mk (blk_drew BK290.out)
          have n2_ := Aside0.mk (blk_drew BK300.out)
          have n3_ := Aside0.mk (IsS60.drew HI282.out)
          have n4_ := Aside0.mk (below_drew1 HB.out)
          clear BK279
          clear BK290
          clear BK300
          clear HI282
          clear HB
          have BK279 := n0_
          have BK290 := n1_
          have BK300 := n2_
          have HI282 := n3_
          have HB := n4_
          clear n0_ n1_ n2_ n3_ n4_
          refine start_ (n := 8) (S := fun w' => w'.cell? ⟨gb279, 0, none⟩ = some (.int .i64 a0_0) ∧ w'.cell? ⟨gb279, 1, none⟩ = some (.int .i64 a0_1) ∧ w'.cell? ⟨gb279, 2, none⟩ = some (.int .i64 a0_2) ∧ w'.cell? ⟨gb279, 3, none⟩ = some (.int .i64 a0_3) ∧ w'.cell? ⟨gb279, 4, none⟩ = some (.int .i64 a0_4) ∧ w'.cell? ⟨gb279, 5, none⟩ = some (.int .i64 x280005_11)) (ds := []) #[false,false,false,false,false,false,false,false] (by kernel_rfl) rfl rfl ⟨(blk_cell BK279.out 0).trans rfl, (blk_cell BK279.out 1).trans rfl, (blk_cell BK279.out 2).trans rfl, (blk_cell BK279.out 3).trans rfl, (blk_cell BK279.out 4).trans rfl, (blk_cell BK279.out 5).trans rfl⟩ (fun hHeld => ?_); refine with_tabW conclavelaw09_CardChecks.tab19 conclavelaw09_CardChecks.bits19 (fun HT_ HW_ => ?_)
          generalize w67.drew = w68 at BK279 BK290 BK300 HI282 HB hHeld ⊢
          refine pure_ (i := 0) (N := some 66) (v := ?_) (a' := ?_) #[true,false,false,false,false,false,false,false] rfl rfl (any_of HT_.out (by kernel_rfl)) (fun _ _ _ h => h) (Or.inl ⟨by rfl, ?_⟩) ?_ ?_
          rotate_left
          ·
           intro w'
           go_simp
           first | (with_reducible rfl) | (rw [node_field0]; rfl) | (rw [node_field2]; rfl) | (rw [node_field3]; rfl) | (rw [node_field1]; rfl)
          rotate_left
          ·
           simp only [Act.put, List.setIfInBounds_toArray, List.set_cons_zero, List.set_cons_succ, i64_w, i32_w]
           rfl
          refine pure_ (i := 2) (N := some 68) (v := ?_) (a' := ?_) #[true,false,true,false,false,false,false,false] rfl rfl (any_of HT_.out (by kernel_rfl)) (fun _ _ _ h => h) (Or.inl ⟨by rfl, ?_⟩) ?_ ?_
          rotate_left
          ·
           intro w'
           go_simp
           first | (with_reducible rfl) | (rw [node_field0]; rfl) | (rw [node_field2]; rfl) | (rw [node_field3]; rfl) | (rw [node_field1]; rfl)
          rotate_left
          ·
           simp only [Act.put, List.setIfInBounds_toArray, List.set_cons_zero, List.set_cons_succ, i64_w, i32_w]
           rfl
          refine pure_ (i := 4) (N := some 70) (v := ?_) (a' := ?_) #[true,false,true,false,true,false,false,false] rfl rfl (any_of HT_.out (by kernel_rfl)) (fun _ _ _ h => h) (Or.inl ⟨by rfl, ?_⟩) ?_ ?_
          rotate_left
          ·
           intro w'
           go_simp
           first | (with_reducible rfl) | (rw [node_field0]; rfl) | (rw [node_field2]; rfl) | (rw [node_field3]; rfl) | (rw [node_field1]; rfl)
          rotate_left
          ·
           simp only [Act.put, List.setIfInBounds_toArray, List.set_cons_zero, List.set_cons_succ, i64_w, i32_w]
           rfl
          refine take_ (i := 1) (N := some 67) (v := ?_) (a' := ?_) #[true,true,true,false,true,false,false,false] rfl rfl (take_ofW HT_.out HW_.out (by kernel_rfl)) (fun _ _ _ h => h) (Or.inl ⟨by rfl, ?_⟩) hHeld ?_ ?_
          rotate_left
          ·
           rintro w' ⟨s0, s1, s2, s3, s4, s5⟩
           go_simp
           first | (with_reducible rfl) | (rw [node_field0]; rfl) | (rw [node_field2]; rfl) | (rw [node_field3]; rfl) | (rw [node_field1]; rfl)
          rotate_left
          ·
           simp only [Act.put, List.setIfInBounds_toArray, List.set_cons_zero, List.set_cons_succ, i64_w, i32_w]
           rfl
          refine one_ (i := 3) (N := some 69) #[true,true,true,true,true,false,false,false] rfl rfl (one_of HT_.out (by kernel_rfl)) (by decide) (fun K hK => ?_)
          refine Kd.R_lit_step (Kd.int .i64) _ 3 ?hg (N := 69) ?hd (xs := ([] : List Int)) (inner := []) (ok := fun _ => True) (okp := fun _ => True) ?hr ?hp (fun _ hk => hk) trivial (Below.refl _ _) (Nat.le_refl _) (by simp) ?_; (case hd => rfl); (case hg => rfl); (case hr => first | (go_simp; done) | (go_simp; rfl)); (case hp => exact (Reps.none _ _))
          intro v302 w69 ho70 hb hg_ hnew_
          clear hg_ hnew_
          (first | rw [← Ny301.out] at ho70 | (simp only [Int.reduceToNat] at ho70; rw [← Ny301.out] at ho70))
          have n0_ := Aside0.mk (Kd.R_lower ho70 (below_size (by repeat (first | (with_reducible first | exact HB.out | apply below_alloc | apply pw_below_drewN | apply below_drew1 | refine below_set ?_ (IsS60.ge HI282.out) | refine below_set ?_ GE279.out | refine below_set ?_ GE290.out | refine below_set ?_ GE300.out) | exact HB.out))))
          have n1_ := Aside0.mk (blk_below (g := gb279) (o := .cells #[.int .i64 a0_0, .int .i64 a0_1, .int .i64 a0_2, .int .i64 a0_3, .int .i64 a0_4, .int .i64 x280005_11] 30 (0, 0)) (by (with_reducible repeat (first | refine blk_drewN ?_ _ | refine blk_drew ?_ | refine blk_alloc ?_ _)); exact BK279.out) hb)
          have n2_ := Aside0.mk (blk_below (g := gb290) (o := .cells #[.int .i64 t283, .int .i64 t284, .int .i64 t285, .int .i64 t286, .int .i64 t287, .int .i64 t288] 30 (0, 0)) (by (with_reducible repeat (first | refine blk_drewN ?_ _ | refine blk_drew ?_ | refine blk_alloc ?_ _)); exact BK290.out) hb)
          have n3_ := Aside0.mk (IsS60.below (by repeat (first | (with_reducible first | exact HI282.out | apply IsS60.alloc | apply IsS60.drewN | apply IsS60.drew | apply IsS60.set_0 | (focus (refine IsS60.far ?_ ?_ _; rotate_left; (focus ((repeat (first | (with_reducible exact Nsty.of BK279.out rfl) | apply Nsty.set | apply Nsty.drewN | apply Nsty.drew | apply Nsty.alloc)); done)))) | (focus (refine IsS60.far ?_ ?_ _; rotate_left; (focus ((repeat (first | (with_reducible exact Nsty.of BK290.out rfl) | apply Nsty.set | apply Nsty.drewN | apply Nsty.drew | apply Nsty.alloc)); done)))) | (focus (refine IsS60.far ?_ ?_ _; rotate_left; (focus ((repeat (first | (with_reducible exact Nsty.of BK300.out rfl) | apply Nsty.set | apply Nsty.drewN | apply Nsty.drew | apply Nsty.alloc)); done))))) | exact HI282.out)) hb)
          have n4_ := Aside0.mk (blk_below (g := gb300) (o := .cells #[.int .i64 a0_0, .int .i64 a0_1, .int .i64 a0_2, .int .i64 a0_3, .int .i64 a0_4, .int .i64 x280005_11] 36 (0, 0)) (by (with_reducible repeat (first | refine blk_drewN ?_ _ | refine blk_drew ?_ | refine blk_alloc ?_ _)); exact BK300.out) hb)
          have n5_ := Aside0.mk (below_step (by repeat (first | (with_reducible first | exact HB.out | apply below_alloc | apply pw_below_drewN | apply below_drew1 | refine below_set ?_ (IsS60.ge HI282.out) | refine below_set ?_ GE279.out | refine below_set ?_ GE290.out | refine below_set ?_ GE300.out) | exact HB.out)) hb)
          clear BK279
          clear BK290
          clear HI282
          clear BK300
          clear HB
          have HO303 := n0_
          have BK279 := n1_
          have BK290 := n2_
          have HI282 := n3_
          have BK300 := n4_
          have HB := n5_
          clear n0_ n1_ n2_ n3_ n4_ n5_
          clear hb ho70
          refine hK.out _ _ ⟨(blk_cell BK279.out 0).trans rfl, (blk_cell BK279.out 1).trans rfl, (blk_cell BK279.out 2).trans rfl, (blk_cell BK279.out 3).trans rfl, (blk_cell BK279.out 4).trans rfl, (blk_cell BK279.out 5).trans rfl⟩ (fun hHeld => ?_)
          clear hK K
          refine norm_ (a' := ?_) ?_ ?_
          rotate_left
          ·
           show Act.put _ (some 69) _ = _
           simp only [Act.put, List.setIfInBounds_toArray, List.set_cons_zero, List.set_cons_succ, i64_w, i32_w]
           rfl
          refine one_ (i := 5) (N := some 71) #[true,true,true,true,true,true,false,false] rfl rfl (one_of HT_.out (by kernel_rfl)) (by decide) (fun K hK => ?_)
          refine Kd.R_append_rows_step (Kd.int .i64) (w0 := w) w.heap.size (by rfl) (.tmp 69) (.tmp 70) 28 3 (.int .i64 0) 8 rfl Tryd.underlying28 info3 rfl (by decide) (by omega) v302 y301 l2 _ _ _ (fun _ => True) (fun _ => False) rfl rfl ?aO ?aR (fun _ _ h => h) (fun _ h => h.elim) ?aF ?aB ?aS ?aL ?_
          (case aR => repeat (first | exact (Kd.C_below HR2.out HB.out) | (with_reducible refine Kd.C_alloc ?_ _) | (with_reducible refine Kd.C_drewN ?_ _) | (with_reducible refine Kd.C_drew ?_)))
          (case aB => exact (by repeat (first | (with_reducible first | exact HB.out | apply below_alloc | apply pw_below_drewN | apply below_drew1 | refine below_set ?_ (IsS60.ge HI282.out) | refine below_set ?_ GE279.out | refine below_set ?_ GE290.out | refine below_set ?_ GE300.out) | exact HB.out)))
          (case aF => exact (fun _ _ => trivial))
          (case aO => exact (by (with_reducible repeat (first | apply Kd.R_alloc | apply Kd.R_drewN | apply Kd.R_drew)); exact HO303.out))
          (case aS => exact (below_size (by repeat (first | (with_reducible first | exact HB.out | apply below_alloc | apply pw_below_drewN | apply below_drew1 | refine below_set ?_ (IsS60.ge HI282.out) | refine below_set ?_ GE279.out | refine below_set ?_ GE290.out | refine below_set ?_ GE300.out) | exact HB.out))))
          (case aL => have := LMc55.out; omega)
          intro v305 w71 ho hb hg hat
          rw [← Ny304.out] at ho
          have n0_ := Aside0.mk (blk_grown (g := gb279) (o := .cells #[.int .i64 a0_0, .int .i64 a0_1, .int .i64 a0_2, .int .i64 a0_3, .int .i64 a0_4, .int .i64 x280005_11] 30 (0, 0)) (by (with_reducible repeat (first | refine blk_drewN ?_ _ | refine blk_drew ?_ | refine blk_alloc ?_ _)); exact BK279.out) hg (Kd.R_ne HO303.out BK279.out (by decide)))
          have n1_ := Aside0.mk (blk_grown (g := gb290) (o := .cells #[.int .i64 t283, .int .i64 t284, .int .i64 t285, .int .i64 t286, .int .i64 t287, .int .i64 t288] 30 (0, 0)) (by (with_reducible repeat (first | refine blk_drewN ?_ _ | refine blk_drew ?_ | refine blk_alloc ?_ _)); exact BK290.out) hg (Kd.R_ne HO303.out BK290.out (by decide)))
          have n2_ := Aside0.mk (IsS60.grown (by repeat (first | (with_reducible first | exact HI282.out | apply IsS60.alloc | apply IsS60.drewN | apply IsS60.drew | apply IsS60.set_0 | (focus (refine IsS60.far ?_ ?_ _; rotate_left; (focus ((repeat (first | (with_reducible exact Nsty.of BK279.out rfl) | apply Nsty.set | apply Nsty.drewN | apply Nsty.drew | apply Nsty.alloc)); done)))) | (focus (refine IsS60.far ?_ ?_ _; rotate_left; (focus ((repeat (first | (with_reducible exact Nsty.of BK290.out rfl) | apply Nsty.set | apply Nsty.drewN | apply Nsty.drew | apply Nsty.alloc)); done)))) | (focus (refine IsS60.far ?_ ?_ _; rotate_left; (focus ((repeat (first | (with_reducible exact Nsty.of BK300.out rfl) | apply Nsty.set | apply Nsty.drewN | apply Nsty.drew | apply Nsty.alloc)); done))))) | exact HI282.out)) hg (IsS60.own_ne HI282.out HO303.out (by decide)))
          have n3_ := Aside0.mk (blk_grown (g := gb300) (o := .cells #[.int .i64 a0_0, .int .i64 a0_1, .int .i64 a0_2, .int .i64 a0_3, .int .i64 a0_4, .int .i64 x280005_11] 36 (0, 0)) (by (with_reducible repeat (first | refine blk_drewN ?_ _ | refine blk_drew ?_ | refine blk_alloc ?_ _)); exact BK300.out) hg (Kd.R_ne HO303.out BK300.out (by decide)))
          have n4_ := Aside0.mk (hb)
          have n5_ := Aside0.mk (ho)
          clear BK279
          clear BK290
          clear HI282
          clear BK300
          clear HB
          clear HO303
          have BK279 := n0_
          have BK290 := n1_
          have HI282 := n2_
          have BK300 := n3_
          have HB := n4_
          have HO306 := n5_
          clear n0_ n1_ n2_ n3_ n4_ n5_
          clear ho hb hg hat
          obtain ⟨Ao72, co72, eo72⟩ := Kd.R_slice HO306.out
          (first | subst eo72 | (injection eo72 with f1_ f2_ f3_; have f4_ := f1_.symm; have f5_ := f3_.symm; clear f1_ f2_ f3_; subst f4_; subst f5_))
          refine hK.out _ _ ⟨(blk_cell BK279.out 0).trans rfl, (blk_cell BK279.out 1).trans rfl, (blk_cell BK279.out 2).trans rfl, (blk_cell BK279.out 3).trans rfl, (blk_cell BK279.out 4).trans rfl, (blk_cell BK279.out 5).trans rfl⟩ (fun hHeld => ?_)
          clear hK K
          refine norm_ (a' := ?_) ?_ ?_
          rotate_left
          ·
           show Act.put _ (some 71) _ = _
           simp only [Act.put, List.setIfInBounds_toArray, List.set_cons_zero, List.set_cons_succ, i64_w, i32_w]
           rfl
          refine one_ (i := 6) (N := some 72) #[true,true,true,true,true,true,true,false] rfl rfl (one_of HT_.out (by kernel_rfl)) (by decide) (fun K hK => ?_)
          refine goes_ Tryd.func11 (by kernel_rfl) rfl #[.pointer (some ⟨g282, 0, none⟩), .agg #[.int .i64 a0_0, .int .i64 a0_1, .int .i64 a0_2, .int .i64 a0_3, .int .i64 a0_4, .int .i64 x280005_11], .int .i64 a1, .slice Ao72 y304.length co72] (by rfl) rfl rfl (by (try simp only [List.map_toArray, List.map_cons, List.map_nil]); first | done | rfl | (simp only [List.length_drop, List.length_take]; rfl)) ?_
          with_reducible refine (card_Check.calls (hrG := ?sideG) k2 g282 t299 a0_0 a0_1 a0_2 a0_3 a0_4 x280005_11 a1 _ _ y304 t307 t308 w _ ?side1 ?side2 ?side3 ?side4 ?side5 A56.out).mono ?_
          (case sideG => (first | (with_reducible exact HRG.out) | exact TabG.below HRG.out (by repeat (first | (with_reducible first | exact HB.out | apply below_alloc | apply pw_below_drewN | apply below_drew1 | refine below_set ?_ (IsS60.ge HI282.out) | refine below_set ?_ GE279.out | refine below_set ?_ GE290.out | refine below_set ?_ GE300.out | refine below_set ?_ GE317.out) | (with_reducible exact Below.refl _ _)))))
          (case side1 => repeat (first | (with_reducible first | exact HI282.out | apply IsS60.alloc | apply IsS60.drewN | apply IsS60.drew | apply IsS60.set_0 | (focus (refine IsS60.far ?_ ?_ _; rotate_left; (focus ((repeat (first | (with_reducible exact Nsty.of BK279.out rfl) | apply Nsty.set | apply Nsty.drewN | apply Nsty.drew | apply Nsty.alloc)); done)))) | (focus (refine IsS60.far ?_ ?_ _; rotate_left; (focus ((repeat (first | (with_reducible exact Nsty.of BK290.out rfl) | apply Nsty.set | apply Nsty.drewN | apply Nsty.drew | apply Nsty.alloc)); done)))) | (focus (refine IsS60.far ?_ ?_ _; rotate_left; (focus ((repeat (first | (with_reducible exact Nsty.of BK300.out rfl) | apply Nsty.set | apply Nsty.drewN | apply Nsty.drew | apply Nsty.alloc)); done))))) | exact HI282.out))
          (case side2 => repeat (first | (with_reducible first | exact HB.out | apply below_alloc | apply pw_below_drewN | apply below_drew1 | refine below_set ?_ (IsS60.ge HI282.out) | refine below_set ?_ GE279.out | refine below_set ?_ GE290.out | refine below_set ?_ GE300.out) | exact HB.out))
          (case side3 => repeat (first | exact (Kd.R_reads' HO306.out).2.2 | (with_reducible refine Kd.C_alloc ?_ _) | (with_reducible refine Kd.C_drewN ?_ _) | (with_reducible refine Kd.C_drew ?_)))
          (case side4 => exact (Kd.R_reads' HO306.out).2.1)
          (case side5 => exact Kd.far_R (by (with_reducible repeat (first | apply Kd.R_alloc | apply Kd.R_drewN | apply Kd.R_drew)); exact HO306.out) (by decide))
          rintro e w73 ⟨rfl, hi, hb, hk⟩
          refine ⟨_, rfl, ?_⟩
          have n0_ := Aside0.mk (KeepSt.blk hk (g' := gb279) (o := .cells #[.int .i64 a0_0, .int .i64 a0_1, .int .i64 a0_2, .int .i64 a0_3, .int .i64 a0_4, .int .i64 x280005_11] 30 (0, 0)) (by (with_reducible repeat (first | refine blk_drewN ?_ _ | refine blk_drew ?_ | refine blk_alloc ?_ _)); exact BK279.out) NB279_282.out rfl)
          have n1_ := Aside0.mk (KeepSt.blk hk (g' := gb290) (o := .cells #[.int .i64 t283, .int .i64 t284, .int .i64 t285, .int .i64 t286, .int .i64 t287, .int .i64 t288] 30 (0, 0)) (by (with_reducible repeat (first | refine blk_drewN ?_ _ | refine blk_drew ?_ | refine blk_alloc ?_ _)); exact BK290.out) NB290_282.out rfl)
          have n2_ := Aside0.mk (KeepSt.blk hk (g' := gb300) (o := .cells #[.int .i64 a0_0, .int .i64 a0_1, .int .i64 a0_2, .int .i64 a0_3, .int .i64 a0_4, .int .i64 x280005_11] 36 (0, 0)) (by (with_reducible repeat (first | refine blk_drewN ?_ _ | refine blk_drew ?_ | refine blk_alloc ?_ _)); exact BK300.out) NB300_282.out rfl)
          have n3_ := Aside0.mk (Kd.R_mono (Kd.R_keepSt (IsS60.apart (show IsS60 w _ g282 t299 from by repeat (first | (with_reducible first | exact HI282.out | apply IsS60.alloc | apply IsS60.drewN | apply IsS60.drew | apply IsS60.set_0 | (focus (refine IsS60.far ?_ ?_ _; rotate_left; (focus ((repeat (first | (with_reducible exact Nsty.of BK279.out rfl) | apply Nsty.set | apply Nsty.drewN | apply Nsty.drew | apply Nsty.alloc)); done)))) | (focus (refine IsS60.far ?_ ?_ _; rotate_left; (focus ((repeat (first | (with_reducible exact Nsty.of BK290.out rfl) | apply Nsty.set | apply Nsty.drewN | apply Nsty.drew | apply Nsty.alloc)); done)))) | (focus (refine IsS60.far ?_ ?_ _; rotate_left; (focus ((repeat (first | (with_reducible exact Nsty.of BK300.out rfl) | apply Nsty.set | apply Nsty.drewN | apply Nsty.drew | apply Nsty.alloc)); done))))) | exact HI282.out)) (by (with_reducible repeat (first | apply Kd.R_alloc | apply Kd.R_drewN | apply Kd.R_drew)); exact HO306.out) (by decide)) hk (fun _ h => h.2)) (fun _ h => h.1))
          have n4_ := Aside0.mk (hb)
          have n5_ := Aside0.mk (hi)
          clear BK279
          clear BK290
          clear BK300
          clear HO306
          clear HB
          clear HI282
          have BK279 := n0_
          have BK290 := n1_
          have BK300 := n2_
          have HO306 := n3_
          have HB := n4_
          have HI282 := n5_
          clear n0_ n1_ n2_ n3_ n4_ n5_
          (try clear hb)
          (try clear hb2)
          (try clear hk)
          (try clear hi)
          refine hK.out _ _ ⟨(blk_cell BK279.out 0).trans rfl, (blk_cell BK279.out 1).trans rfl, (blk_cell BK279.out 2).trans rfl, (blk_cell BK279.out 3).trans rfl, (blk_cell BK279.out 4).trans rfl, (blk_cell BK279.out 5).trans rfl⟩ (fun hHeld => ?_)
          clear hK K
          refine norm_ (a' := ?_) ?_ ?_
          rotate_left
          ·
           show Act.put _ (some 72) _ = _
           simp only [Act.put, List.setIfInBounds_toArray, List.set_cons_zero, List.set_cons_succ, i64_w, i32_w]
           rfl
          refine pure_ (i := 7) (N := some 14) (v := ?_) (a' := ?_) #[true,true,true,true,true,true,true,true] rfl rfl (any_of HT_.out (by kernel_rfl)) (fun _ _ _ h => h) (Or.inl ⟨by rfl, ?_⟩) ?_ ?_
          rotate_left
          ·
           intro w'
           go_simp
           first | (with_reducible rfl) | (rw [node_field0]; rfl) | (rw [node_field2]; rfl) | (rw [node_field3]; rfl) | (rw [node_field1]; rfl)
          rotate_left
          ·
           simp only [Act.put, List.setIfInBounds_toArray, List.set_cons_zero, List.set_cons_succ, i64_w, i32_w]
           rfl
          refine done_ (done_of HT_.out (by kernel_rfl)) ?_
          have hcz74_0 : w73.cell? ⟨gb300, 0, none⟩ = some (.int .i64 a0_0) := (blk_cell BK300.out 0).trans rfl
          have hcz74_1 : w73.cell? ⟨gb300, 1, none⟩ = some (.int .i64 a0_1) := (blk_cell BK300.out 1).trans rfl
          have hcz74_2 : w73.cell? ⟨gb300, 2, none⟩ = some (.int .i64 a0_2) := (blk_cell BK300.out 2).trans rfl
          have hcz74_3 : w73.cell? ⟨gb300, 3, none⟩ = some (.int .i64 a0_3) := (blk_cell BK300.out 3).trans rfl
          have hcz74_4 : w73.cell? ⟨gb300, 4, none⟩ = some (.int .i64 a0_4) := (blk_cell BK300.out 4).trans rfl
          have hcz74_5 : w73.cell? ⟨gb300, 5, none⟩ = some (.int .i64 x280005_11) := (blk_cell BK300.out 5).trans rfl
          have hfz74_0 := blk_frozen BK300.out 0
          have hfz74_1 := blk_frozen BK300.out 1
          have hfz74_2 := blk_frozen BK300.out 2
          have hfz74_3 := blk_frozen BK300.out 3
          have hfz74_4 := blk_frozen BK300.out 4
          have hfz74_5 := blk_frozen BK300.out 5
          try go_wp2_with (first | ((with_reducible refine gate_callee (f := 16) rfl ?_); refine goesL_ (some 78) rfl rfl Tryd.func16 (by kernel_rfl) rfl #[.pointer (some ⟨g282 + 1, 0, none⟩), .agg #[.int .i64 a0_0, .int .i64 a0_1, .int .i64 a0_2, .int .i64 a0_3, .int .i64 a0_4, .int .i64 x280005_11], .int .i64 a1, .slice A2 l2.length c2] rfl (by (try simp only [List.map_toArray, List.map_cons, List.map_nil]); first | done | rfl | (simp only [List.length_drop, List.length_take]; rfl)) ?_; (with_reducible refine (conclaveref09_Check.calls k2 g282 t308 a0_0 a0_1 a0_2 a0_3 a0_4 x280005_11 a1 _ _ l2 t309 t310 w _ ?side1 ?side2 ?side3 ?side4 ?side5 A57.out).mono ?_); (case side1 => repeat (first | (with_reducible first |exact HI282.out |apply IsS60.alloc |apply IsS60.drewN |apply IsS60.drew |apply IsS60.set_0 | (focus (refine IsS60.far ?_ ?_ _; rotate_left; (focus ((repeat (first | (with_reducible exact Nsty.of BK279.out rfl) |apply Nsty.set |apply Nsty.drewN |apply Nsty.drew |apply Nsty.alloc)); done)))) | (focus (refine IsS60.far ?_ ?_ _; rotate_left; (focus ((repeat (first | (with_reducible exact Nsty.of BK290.out rfl) |apply Nsty.set |apply Nsty.drewN |apply Nsty.drew |apply Nsty.alloc)); done)))) | (focus (refine IsS60.far ?_ ?_ _; rotate_left; (focus ((repeat (first | (with_reducible exact Nsty.of BK300.out rfl) |apply Nsty.set |apply Nsty.drewN |apply Nsty.drew |apply Nsty.alloc)); done))))) |exact HI282.out)); (case side2 => repeat (first | (with_reducible first |exact HB.out |apply below_alloc |apply pw_below_drewN |apply below_drew1 |refine below_set ?_ (IsS60.ge HI282.out) |refine below_set ?_ GE279.out |refine below_set ?_ GE290.out |refine below_set ?_ GE300.out) |exact HB.out)); (case side3 => repeat (first |exact (Kd.C_below HR2.out HB.out) | (with_reducible refine Kd.C_alloc ?_ _) | (with_reducible refine Kd.C_drewN ?_ _) | (with_reducible refine Kd.C_drew ?_))); (case side4 => exact HC2.out); (case side5 => exact Kd.far_CS HR2.out); rintro e w75 ⟨rfl, hi, hb, hk⟩; refine ⟨_, rfl, ?_⟩; have n0_ := Aside0.mk (KeepSt.blk hk (g' := gb279) (o := .cells #[.int .i64 a0_0, .int .i64 a0_1, .int .i64 a0_2, .int .i64 a0_3, .int .i64 a0_4, .int .i64 x280005_11] 30 (0, 0)) (by (with_reducible repeat (first |refine blk_drewN ?_ _ |refine blk_drew ?_ |refine blk_alloc ?_ _)); exact BK279.out) NB279_282.out rfl); have n1_ := Aside0.mk (KeepSt.blk hk (g' := gb290) (o := .cells #[.int .i64 t283, .int .i64 t284, .int .i64 t285, .int .i64 t286, .int .i64 t287, .int .i64 t288] 30 (0, 0)) (by (with_reducible repeat (first |refine blk_drewN ?_ _ |refine blk_drew ?_ |refine blk_alloc ?_ _)); exact BK290.out) NB290_282.out rfl); have n2_ := Aside0.mk (KeepSt.blk hk (g' := gb300) (o := .cells #[.int .i64 a0_0, .int .i64 a0_1, .int .i64 a0_2, .int .i64 a0_3, .int .i64 a0_4, .int .i64 x280005_11] 36 (0, 0)) (by (with_reducible repeat (first |refine blk_drewN ?_ _ |refine blk_drew ?_ |refine blk_alloc ?_ _)); exact BK300.out) NB300_282.out rfl); have n3_ := Aside0.mk (Kd.R_mono (Kd.R_keepSt (IsS60.apart (show IsS60 w _ g282 t308 from by repeat (first | (with_reducible first |exact HI282.out |apply IsS60.alloc |apply IsS60.drewN |apply IsS60.drew |apply IsS60.set_0 | (focus (refine IsS60.far ?_ ?_ _; rotate_left; (focus ((repeat (first | (with_reducible exact Nsty.of BK279.out rfl) |apply Nsty.set |apply Nsty.drewN |apply Nsty.drew |apply Nsty.alloc)); done)))) | (focus (refine IsS60.far ?_ ?_ _; rotate_left; (focus ((repeat (first | (with_reducible exact Nsty.of BK290.out rfl) |apply Nsty.set |apply Nsty.drewN |apply Nsty.drew |apply Nsty.alloc)); done)))) | (focus (refine IsS60.far ?_ ?_ _; rotate_left; (focus ((repeat (first | (with_reducible exact Nsty.of BK300.out rfl) |apply Nsty.set |apply Nsty.drewN |apply Nsty.drew |apply Nsty.alloc)); done))))) |exact HI282.out)) (by (with_reducible repeat (first |apply Kd.R_alloc |apply Kd.R_drewN |apply Kd.R_drew)); exact HO306.out) (by decide)) hk (fun _ h => h.2)) (fun _ h => h.1)); have n4_ := Aside0.mk (hb); have n5_ := Aside0.mk (hi); clear BK279; clear BK290; clear BK300; clear HO306; clear HB; clear HI282; have BK279 := n0_; have BK290 := n1_; have BK300 := n2_; have HO306 := n3_; have HB := n4_; have HI282 := n5_; clear n0_ n1_ n2_ n3_ n4_ n5_; (try clear hb); (try clear hb2); (try clear hk); (try clear hi)))
          go_ret
          exact ⟨by first | rfl | (simp [errW_none, errW_some] <;> rfl) | (simp [*, errW_none, errW_some] <;> rfl), by repeat (first | (with_reducible first | exact HB.out | apply below_alloc | apply pw_below_drewN | apply below_drew1 | refine below_set ?_ (IsS60.ge HI282.out) | refine below_set ?_ GE279.out | refine below_set ?_ GE290.out | refine below_set ?_ GE300.out) | exact HB.out)⟩
        ·
         rw [if_neg c55] at H
         exact absurd H (by simp)
 ·
  replace c5 := Bool.eq_false_iff.mpr c5
  subst c5
  have H1 : (some false) = some r := by rw [if_neg (show ¬ (false = true) by decide)] at H; exact H
  clear H
  have H := H1
  clear H1
  obtain rfl := Option.some.inj H
  try exact absurd hr Bool.false_ne_true
  all_goals
   go_enter Tryd.func5, Tryd.ntmps5
   go_wp2_with (first | ((with_reducible refine gate_dst (N := 3) rfl ?_); refine box_event ?hg (N := 3) ?hd (cs := #[.int .i64 a0_0, .int .i64 a0_1, .int .i64 a0_2, .int .i64 a0_3, .int .i64 a0_4, .int .i64 a0_5]) (t := 30) ?hr ?_; (case hd => rfl); (case hg => rfl); (case hr => first | (go_simp; done) | (go_simp; rfl)); intro gb279 hg w76 hbox hb; have n0_ := Aside0.mk (below_step (by repeat (first | (with_reducible first |exact HB.out |apply below_alloc |apply pw_below_drewN |apply below_drew1) |exact HB.out)) hb); have n1_ := Aside0.mk (hbox); have n2_ := Aside0.mk ((by rw [hg]; exact (below_size (by repeat (first | (with_reducible first |exact HB.out |apply below_alloc |apply pw_below_drewN |apply below_drew1) |exact HB.out))) : w.heap.size ≤ gb279)); have n3_ := Aside0.mk ((by rw [hg]; exact (below_size (by repeat (first | (with_reducible first |exact HB.out |apply below_alloc |apply pw_below_drewN |apply below_drew1) |exact HB.out))) : w.heap.size ≤ gb279)); clear HB; have HB := n0_; have BK279 := n1_; have GW279 := n2_; have GE279 := n3_; clear n0_ n1_ n2_ n3_; clear hb hbox hg) | ((with_reducible refine gate_callee (f := 7) rfl ?_); refine goesL_ (some 15) rfl rfl Tryd.func7 (by kernel_rfl) rfl #[] rfl (by (try simp only [List.map_toArray, List.map_cons, List.map_nil]); first | done | rfl | (simp only [List.length_drop, List.length_take]; rfl)) ?_; (with_reducible refine (conclavelaw09_anchor.calls (hrG := ?sideG) k  false _ A4.out).mono ?_); (case sideG => (first | (with_reducible exact HRG.out) |exact TabG.below HRG.out (by repeat (first | (with_reducible first |exact HB.out |apply below_alloc |apply pw_below_drewN |apply below_drew1 |refine below_set ?_ (IsS60.ge HI282.out) |refine below_set ?_ GE279.out |refine below_set ?_ GE290.out |refine below_set ?_ GE300.out |refine below_set ?_ GE317.out) | (with_reducible exact Below.refl _ _))))); rintro e w77 ⟨rfl, hb⟩; refine ⟨_, rfl, ?_⟩; have n0_ := Aside0.mk (blk_below (g := gb279) (o := .cells #[.int .i64 a0_0, .int .i64 a0_1, .int .i64 a0_2, .int .i64 a0_3, .int .i64 a0_4, .int .i64 a0_5] 30 (0, 0)) (by (with_reducible repeat (first |refine blk_drewN ?_ _ |refine blk_drew ?_ |refine blk_alloc ?_ _)); exact BK279.out) hb); have n1_ := Aside0.mk (below_step (by repeat (first | (with_reducible first |exact HB.out |apply below_alloc |apply pw_below_drewN |apply below_drew1 |refine below_set ?_ GE279.out) |exact HB.out)) hb); clear BK279; clear HB; have BK279 := n0_; have HB := n1_; clear n0_ n1_; (try clear hb); (try clear hb2); (try clear hk); (try clear hi)))
   go_ret
   exact ⟨by first | rfl | (simp [errW_none, errW_some] <;> rfl) | (simp [*, errW_none, errW_some] <;> rfl), by repeat (first | (with_reducible first | exact HB.out | apply below_alloc | apply pw_below_drewN | apply below_drew1 | refine below_set ?_ GE279.out) | exact HB.out)⟩
def conclavelaw09_CardChecks.Pure : Prop := ∀ (a0_0 : Int) (a0_1 : Int) (a0_2 : Int) (a0_3 : Int) (a0_4 : Int) (a0_5 : Int) (a1 : Int) (l2 : List Int), (Lit.int .i64 a0_0).wf = true → (Lit.int .i64 a0_1).wf = true → (Lit.int .i64 a0_2).wf = true → (Lit.int .i64 a0_3).wf = true → (Lit.int .i64 a0_4).wf = true → (Lit.int .i64 a0_5).wf = true → (Lit.int .i64 a1).wf = true → (l2.length ≤ maxLen ∧ ∀ x ∈ l2, (Lit.int .i64 x).wf = true) → ∃ k, conclavelaw09_CardChecks.f k a0_0 a0_1 a0_2 a0_3 a0_4 a0_5 a1 l2 = some true
theorem conclavelaw09_CardChecks.walk (P : conclavelaw09_CardChecks.Pure) (a0_0 : Int) (a0_1 : Int) (a0_2 : Int) (a0_3 : Int) (a0_4 : Int) (a0_5 : Int) (a1 : Int) (A2 : Option Addr) (c2 : Nat) (l2 : List Int) (w : World) (hrG : TabG w) (hr2 : Kd.C (Kd.int .i64) w A2 l2.length l2) (hc2 : l2.length ≤ c2) (h0 : (Lit.int .i64 a0_0).wf = true) (h1 : (Lit.int .i64 a0_1).wf = true) (h2 : (Lit.int .i64 a0_2).wf = true) (h3 : (Lit.int .i64 a0_3).wf = true) (h4 : (Lit.int .i64 a0_4).wf = true) (h5 : (Lit.int .i64 a0_5).wf = true) (h6 : (Lit.int .i64 a1).wf = true) (h7 : l2.length ≤ maxLen ∧ ∀ x ∈ l2, (Lit.int .i64 x).wf = true) :
 Calls Tryd.prog 5 #[.agg #[.int .i64 a0_0, .int .i64 a0_1, .int .i64 a0_2, .int .i64 a0_3, .int .i64 a0_4, .int .i64 a0_5], .int .i64 a1, .slice A2 l2.length c2] w fun e w' => e = .returned (.bool true) ∧ Below w.heap.size w w' := by
 obtain ⟨k, h⟩ := P a0_0 a0_1 a0_2 a0_3 a0_4 a0_5 a1 l2 h0 h1 h2 h3 h4 h5 h6 h7
 refine (conclavelaw09_CardChecks.calls (hrG := hrG) k a0_0 a0_1 a0_2 a0_3 a0_4 a0_5 a1 A2 c2 l2 true w hr2 hc2 h rfl).mono ?_
 rintro e w' ⟨rfl, hd⟩
 exact ⟨rfl, hd⟩
end Go.Proofs.YteljmaebhjhedaaDoor.PTw
