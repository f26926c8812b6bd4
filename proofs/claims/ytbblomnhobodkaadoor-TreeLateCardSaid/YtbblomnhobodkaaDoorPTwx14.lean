/- What this claim reaches of a longer text of this session. -/
import Derived.Test.YtbblomnhobodkaaDoorPTwx0
import Derived.Test.YtbblomnhobodkaaDoorPTwx1
import Derived.Test.YtbblomnhobodkaaDoorPTwx7
import Derived.Test.YtbblomnhobodkaaDoorPTwx8
import Derived.Test.YtbblomnhobodkaaDoorPTwx13
namespace Go.Proofs.YtbblomnhobodkaaDoor.PTw
open Go.RowKit Go.Proofs.YtbblomnhobodkaaDoorW.PrintWords Go.Proofs.YtbblomnhobodkaaDoorW.PrintLast Go.Proofs.YtbblomnhobodkaaDoorW.PrintMore
attribute [local go_sem] max2_int min2_int max_two min_two max_three min_three max_four min_four   -- for this text's walks alone
set_option linter.unusedVariables false
set_option linter.unusedSimpArgs false
mutual
def conclaveref04_Add.l0 : Nat → List (S29) → Int → Bool → Int → Int → Int → Int → List Int → Option ((List (S29)) × Int × Int)
  | 0, _, _, _, _, _, _, _, _ => none
  | k + 1, x7, x8, x355000, x355001, x355002, x355003, x355004, x355005 => (conclaveref04_Full.f x7 x8).bind fun t358 => (if t358 = true then (conclaveref04_Add.l0 k x7 (wrap64 (x8 + 1)) x355000 x355001 x355002 x355003 x355004 x355005) else ((conclaveref04_Leaves.f x7).bind fun t359 => (if x8 = t359 then (if x8 = 32 then (some (([] : List (S29)), 0, 41)) else (conclaveref04_Add.l1 k x7 x8 x355000 x355001 x355002 x355003 x355004 x355005)) else (conclaveref04_Add.j2 k x7 x8 x355000 x355001 x355002 x355003 x355004 x355005))))
def conclaveref04_Add.j2 : Nat → List (S29) → Int → Bool → Int → Int → Int → Int → List Int → Option ((List (S29)) × Int × Int)
  | 0, _, _, _, _, _, _, _, _ => none
  | k + 1, x7, x8, x355000, x355001, x355002, x355003, x355004, x355005 => (conclaveref04_Leaf.f x355000 x355001 x355002 x355003 x355004 x355005).bind fun bt363 => (if 0 ≤ (wrap64 (2 * x8)) then (if (wrap64 (2 * x8)) < (x7.length : Int) then ((some (x7.set ((wrap64 (2 * x8)) : Int).toNat (⟨bt363.1, bt363.2.1, bt363.2.2.1, bt363.2.2.2.1, bt363.2.2.2.2.1, bt363.2.2.2.2.2⟩ : S29) : List (S29))).bind fun y371 => ((conclaveref04_Leaves.f y371).bind fun t372 => (conclaveref04_Add.l2 k y371 x8 t372 1))) else (none)) else (none))
def conclaveref04_Add.l2 : Nat → List (S29) → Int → Int → Int → Option ((List (S29)) × Int × Int)
  | 0, _, _, _, _ => none
  | k + 1, x7, x8, x9, x10 => if x10 < (x7.length : Int) then (if 0 ≤ x10 then (if (rd_T29 x7 x10).f0 = true then ((conclaveref03_Under.f k (wrap64 (2 * x8)) x10 x9).bind fun t374 => (if t374 = true then ((conclaveref04_with.f k ((rd_T29 x7 x10).f5) x8).bind fun t376 => (conclaveref04_Add.l2 k (x7.set (x10 : Int).toNat (⟨(rd_T29 x7 x10).f0, (rd_T29 x7 x10).f1, (rd_T29 x7 x10).f2, (rd_T29 x7 x10).f3, (rd_T29 x7 x10).f4, t376⟩ : S29)) x8 x9 (wrap64 (x10 + 2)))) else (conclaveref04_Add.l2 k x7 x8 x9 (wrap64 (x10 + 2))))) else (conclaveref04_Add.l2 k x7 x8 x9 (wrap64 (x10 + 2)))) else (none)) else (some (x7, x8, 0))
def conclaveref04_Add.l1 : Nat → List (S29) → Int → Bool → Int → Int → Int → Int → List Int → Option ((List (S29)) × Int × Int)
  | 0, _, _, _, _, _, _, _, _ => none
  | k + 1, x7, x8, x355000, x355001, x355002, x355003, x355004, x355005 => if (x7.length : Int) < (wrap64 ((wrap64 (4 * x8)) - 1)) then (if x7.length < 2199023255552 then (conclaveref04_Add.l1 k (x7 ++ [(⟨false, 0, 0, 0, 0, ([] : List Int)⟩ : S29)]) x8 x355000 x355001 x355002 x355003 x355004 x355005) else (none)) else (conclaveref04_Add.j2 k x7 x8 x355000 x355001 x355002 x355003 x355004 x355005)
end
def conclaveref04_Add.f (k : Nat) (l0 : List (S29)) (a1_0 : Bool) (a1_1 : Int) (a1_2 : Int) (a1_3 : Int) (a1_4 : Int) (l1_5 : List Int) : Option ((List (S29)) × Int × Int) := (conclaveref04_Copy.f k l0).bind fun t355 => (conclaveref04_Add.l0 k t355 0 a1_0 a1_1 a1_2 a1_3 a1_4 l1_5)
theorem conclaveref04_Add.mono_l : ∀ k, (∀ y0 y1 y2 y3 y4 y5 y6 y7, LeO (conclaveref04_Add.l0 k y0 y1 y2 y3 y4 y5 y6 y7) (conclaveref04_Add.l0 (k + 1) y0 y1 y2 y3 y4 y5 y6 y7)) ∧ (∀ y0 y1 y2 y3 y4 y5 y6 y7, LeO (conclaveref04_Add.j2 k y0 y1 y2 y3 y4 y5 y6 y7) (conclaveref04_Add.j2 (k + 1) y0 y1 y2 y3 y4 y5 y6 y7)) ∧ (∀ y0 y1 y2 y3, LeO (conclaveref04_Add.l2 k y0 y1 y2 y3) (conclaveref04_Add.l2 (k + 1) y0 y1 y2 y3)) ∧ (∀ y0 y1 y2 y3 y4 y5 y6 y7, LeO (conclaveref04_Add.l1 k y0 y1 y2 y3 y4 y5 y6 y7) (conclaveref04_Add.l1 (k + 1) y0 y1 y2 y3 y4 y5 y6 y7))
  | 0 => ⟨fun _ _ _ _ _ _ _ _ r h => by simp [conclaveref04_Add.l0] at h, fun _ _ _ _ _ _ _ _ r h => by simp [conclaveref04_Add.j2] at h, fun _ _ _ _ r h => by simp [conclaveref04_Add.l2] at h, fun _ _ _ _ _ _ _ _ r h => by simp [conclaveref04_Add.l1] at h⟩
  | k + 1 => by
    obtain ⟨ih0, ih1, ih2, ih3⟩ := conclaveref04_Add.mono_l k
    refine ⟨?_, ?_, ?_, ?_⟩
    · intro y0 y1 y2 y3 y4 y5 y6 y7
      unfold conclaveref04_Add.l0
      repeat' first
      | (with_reducible exact ih0 _ _ _ _ _ _ _ _)
      | (with_reducible exact ih1 _ _ _ _ _ _ _ _)
      | (with_reducible exact ih2 _ _ _ _)
      | (with_reducible exact ih3 _ _ _ _ _ _ _ _)
      | (with_reducible exact conclaveref03_Under.mono _ _ _ _)
      | (with_reducible exact conclaveref04_Copy.mono _ _)
      | (with_reducible exact conclaveref04_with.mono _ _ _)
      | (with_reducible exact LeO.refl _)
      | (with_reducible exact LeO.none _)
      | (with_reducible refine LeO.ite ?_ ?_)
      | (with_reducible refine LeO.bind ?_ (fun _ => ?_))
      | exact ih0 _ _ _ _ _ _ _ _
      | exact ih1 _ _ _ _ _ _ _ _
      | exact ih2 _ _ _ _
      | exact ih3 _ _ _ _ _ _ _ _
      | exact conclaveref03_Under.mono _ _ _ _
      | exact conclaveref04_Copy.mono _ _
      | exact conclaveref04_with.mono _ _ _
      | exact LeO.none _
      | refine LeO.ite ?_ ?_
      | refine LeO.bind ?_ (fun _ => ?_)
    · intro y0 y1 y2 y3 y4 y5 y6 y7
      unfold conclaveref04_Add.j2
      repeat' first
      | (with_reducible exact ih0 _ _ _ _ _ _ _ _)
      | (with_reducible exact ih1 _ _ _ _ _ _ _ _)
      | (with_reducible exact ih2 _ _ _ _)
      | (with_reducible exact ih3 _ _ _ _ _ _ _ _)
      | (with_reducible exact conclaveref03_Under.mono _ _ _ _)
      | (with_reducible exact conclaveref04_Copy.mono _ _)
      | (with_reducible exact conclaveref04_with.mono _ _ _)
      | (with_reducible exact LeO.refl _)
      | (with_reducible exact LeO.none _)
      | (with_reducible refine LeO.ite ?_ ?_)
      | (with_reducible refine LeO.bind ?_ (fun _ => ?_))
      | exact ih0 _ _ _ _ _ _ _ _
      | exact ih1 _ _ _ _ _ _ _ _
      | exact ih2 _ _ _ _
      | exact ih3 _ _ _ _ _ _ _ _
      | exact conclaveref03_Under.mono _ _ _ _
      | exact conclaveref04_Copy.mono _ _
      | exact conclaveref04_with.mono _ _ _
      | exact LeO.none _
      | refine LeO.ite ?_ ?_
      | refine LeO.bind ?_ (fun _ => ?_)
    · intro y0 y1 y2 y3
      unfold conclaveref04_Add.l2
      repeat' first
      | (with_reducible exact ih0 _ _ _ _ _ _ _ _)
      | (with_reducible exact ih1 _ _ _ _ _ _ _ _)
      | (with_reducible exact ih2 _ _ _ _)
      | (with_reducible exact ih3 _ _ _ _ _ _ _ _)
      | (with_reducible exact conclaveref03_Under.mono _ _ _ _)
      | (with_reducible exact conclaveref04_Copy.mono _ _)
      | (with_reducible exact conclaveref04_with.mono _ _ _)
      | (with_reducible exact LeO.refl _)
      | (with_reducible exact LeO.none _)
      | (with_reducible refine LeO.ite ?_ ?_)
      | (with_reducible refine LeO.bind ?_ (fun _ => ?_))
      | exact ih0 _ _ _ _ _ _ _ _
      | exact ih1 _ _ _ _ _ _ _ _
      | exact ih2 _ _ _ _
      | exact ih3 _ _ _ _ _ _ _ _
      | exact conclaveref03_Under.mono _ _ _ _
      | exact conclaveref04_Copy.mono _ _
      | exact conclaveref04_with.mono _ _ _
      | exact LeO.none _
      | refine LeO.ite ?_ ?_
      | refine LeO.bind ?_ (fun _ => ?_)
    · intro y0 y1 y2 y3 y4 y5 y6 y7
      unfold conclaveref04_Add.l1
      repeat' first
      | (with_reducible exact ih0 _ _ _ _ _ _ _ _)
      | (with_reducible exact ih1 _ _ _ _ _ _ _ _)
      | (with_reducible exact ih2 _ _ _ _)
      | (with_reducible exact ih3 _ _ _ _ _ _ _ _)
      | (with_reducible exact conclaveref03_Under.mono _ _ _ _)
      | (with_reducible exact conclaveref04_Copy.mono _ _)
      | (with_reducible exact conclaveref04_with.mono _ _ _)
      | (with_reducible exact LeO.refl _)
      | (with_reducible exact LeO.none _)
      | (with_reducible refine LeO.ite ?_ ?_)
      | (with_reducible refine LeO.bind ?_ (fun _ => ?_))
      | exact ih0 _ _ _ _ _ _ _ _
      | exact ih1 _ _ _ _ _ _ _ _
      | exact ih2 _ _ _ _
      | exact ih3 _ _ _ _ _ _ _ _
      | exact conclaveref03_Under.mono _ _ _ _
      | exact conclaveref04_Copy.mono _ _
      | exact conclaveref04_with.mono _ _ _
      | exact LeO.none _
      | refine LeO.ite ?_ ?_
      | refine LeO.bind ?_ (fun _ => ?_)
theorem conclaveref04_Add.mono : ∀ a0 a1 a2 a3 a4 a5 a6 k, LeO (conclaveref04_Add.f k a0 a1 a2 a3 a4 a5 a6) (conclaveref04_Add.f (k + 1) a0 a1 a2 a3 a4 a5 a6) := by
  intro a0 a1 a2 a3 a4 a5 a6 k
  obtain ⟨ih0, ih1, ih2, ih3⟩ := conclaveref04_Add.mono_l k
  unfold conclaveref04_Add.f
  repeat' first
      | (with_reducible exact ih0 _ _ _ _ _ _ _ _)
      | (with_reducible exact ih1 _ _ _ _ _ _ _ _)
      | (with_reducible exact ih2 _ _ _ _)
      | (with_reducible exact ih3 _ _ _ _ _ _ _ _)
      | (with_reducible exact conclaveref03_Under.mono _ _ _ _)
      | (with_reducible exact conclaveref04_Copy.mono _ _)
      | (with_reducible exact conclaveref04_with.mono _ _ _)
      | (with_reducible exact LeO.refl _)
      | (with_reducible exact LeO.none _)
      | (with_reducible refine LeO.ite ?_ ?_)
      | (with_reducible refine LeO.bind ?_ (fun _ => ?_))
      | exact ih0 _ _ _ _ _ _ _ _
      | exact ih1 _ _ _ _ _ _ _ _
      | exact ih2 _ _ _ _
      | exact ih3 _ _ _ _ _ _ _ _
      | exact conclaveref03_Under.mono _ _ _ _
      | exact conclaveref04_Copy.mono _ _
      | exact conclaveref04_with.mono _ _ _
      | exact LeO.none _
      | refine LeO.ite ?_ ?_
      | refine LeO.bind ?_ (fun _ => ?_)
set_option maxHeartbeats 8000000 in
set_option maxRecDepth 100000 in
theorem conclaveref04_Add.calls (k : Nat) (A0 : Option Addr) (c0 : Nat) (l0 : List (S29)) (a1_0 : Bool) (a1_1 : Int) (a1_2 : Int) (a1_3 : Int) (a1_4 : Int) (P1_5_ : Nat → Prop) (A1_5 : Option Addr) (c1_5 : Nat) (l1_5 : List Int) (r1 : List (S29)) (r2 : Int) (r3 : Int) (w : World) (hr0 : Kd.C k29 w A0 l0.length l0) (hc0 : l0.length ≤ c0) (hs1_5 : Kd.V (Kd.int .i64) 3 w w.heap.size (fun k_ => P1_5_ k_) (.slice A1_5 l1_5.length c1_5) l1_5) (h : conclaveref04_Add.f k l0 a1_0 a1_1 a1_2 a1_3 a1_4 l1_5 = some (r1, r2, r3)) :
    Calls Tryd.prog 20 #[.slice A0 l0.length c0, .agg #[.bool a1_0, .int .i64 a1_1, .int .i64 a1_2, .int .i64 a1_3, .int .i64 a1_4, .slice A1_5 l1_5.length c1_5]] w fun e w' => ∃ v0_ : Value, e = .returned (.tuple #[v0_, .int .i64 r2, .int .i64 r3]) ∧ Kd.S k29 29 w' w.heap.size (fun k_ => (w.heap.size ≤ k_)) v0_ r1 ∧ Below w.heap.size w w' := by
  have hu29 := Tryd.underlying29
  have HR0 := Aside0.mk hr0
  have HC0 := Aside0.mk hc0
  clear hr0 hc0
  have HO1_5 := Aside0.mk (show Kd.V (Kd.int .i64) 3 w w.heap.size (fun k_ => (P1_5_ k_ ∨ w.heap.size ≤ k_)) (.slice A1_5 l1_5.length c1_5) l1_5 from Kd.V_mono hs1_5 (fun k_ hk => .inl hk))
  have HB := Aside0.mk (Below.refl w.heap.size w)
  have H : ((conclaveref04_Copy.f k l0).bind fun t355 => (conclaveref04_Add.l0 k t355 0 a1_0 a1_1 a1_2 a1_3 a1_4 l1_5)) = some (r1, r2, r3) := h
  clear h
  replace H := Option.bind_eq_some_iff.mp H
  obtain ⟨t355, A30, H⟩ := H
  replace H : (conclaveref04_Add.l0 k t355 0 a1_0 a1_1 a1_2 a1_3 a1_4 l1_5) = some (r1, r2, r3) := H
  have A3 := Aside0.mk A30
  clear A30
  have H' := Aside0.mk H
  clear H
  go_enter Tryd.func20, Tryd.ntmps20
  go_wp2_with (first | ((with_reducible refine gate_dst (N := 3) rfl ?_); refine box_event ?hg (N := 3) ?hd (cs := #[.bool a1_0, .int .i64 a1_1, .int .i64 a1_2, .int .i64 a1_3, .int .i64 a1_4, .slice A1_5 l1_5.length c1_5]) (t := 29) ?hr ?_; (case hd => rfl); (case hg => rfl); (case hr => first | (go_simp; done) | (go_simp; rfl)); intro gb354 hg w4 hbox hb; have n0_ := Aside0.mk (Kd.V_below (Kd.V_elderB (by (with_reducible repeat (first | apply Kd.V_alloc | apply Kd.V_drewN | apply Kd.V_drew)); exact HO1_5.out) gb354 (Nat.le_of_eq hg.symm)) hb); have n1_ := Aside0.mk (below_step (by repeat (first | (with_reducible first | exact HB.out | apply below_alloc | apply pw_below_drewN | apply below_drew1) | exact HB.out)) hb); have n2_ := Aside0.mk (hbox); have n3_ := Aside0.mk ((by rw [hg]; exact (below_size (by repeat (first | (with_reducible first | exact HB.out | apply below_alloc | apply pw_below_drewN | apply below_drew1) | exact HB.out))) : w.heap.size ≤ gb354)); have n4_ := Aside0.mk ((by rw [hg]; exact (below_size (by repeat (first | (with_reducible first | exact HB.out | apply below_alloc | apply pw_below_drewN | apply below_drew1) | exact HB.out))) : w.heap.size ≤ gb354)); clear HO1_5; clear HB; have HO1_5 := n0_; have HB := n1_; have BK354 := n2_; have GW354 := n3_; have GE354 := n4_; clear n0_ n1_ n2_ n3_ n4_; clear hb hbox hg) | ((with_reducible refine gate_callee (f := 14) rfl ?_); refine goesL_ (some 12) rfl rfl Tryd.func14 (by kernel_rfl) rfl #[.slice A0 l0.length c0] rfl (by (try simp only [List.map_toArray, List.map_cons, List.map_nil]); first | done | rfl | (simp only [List.length_drop, List.length_take]; rfl)) ?_; (with_reducible refine (conclaveref04_Copy.calls k _ _ l0 t355 _ ?side1 ?side2 A3.out).mono ?_); (case side1 => repeat (first | exact (Kd.C_below HR0.out HB.out) | (with_reducible refine Kd.C_alloc ?_ _) | (with_reducible refine Kd.C_drewN ?_ _) | (with_reducible refine Kd.C_drew ?_))); (case side2 => exact HC0.out); rintro e w5 ⟨v356, rfl, ho0, hb⟩; refine ⟨_, rfl, ?_⟩; have n0_ := Aside0.mk (Kd.V_elder' (by (with_reducible repeat (first | apply Kd.V_alloc | apply Kd.V_drewN | apply Kd.V_drew)); exact HO1_5.out) (Kd.S_base ho0) hb); have n1_ := Aside0.mk (Kd.S_lower (Kd.S_newB (Kd.S_newM (M := fun k_ => (w.heap.size ≤ k_)) ho0 (below_size (by repeat (first | (with_reducible first | exact HB.out | apply below_alloc | apply pw_below_drewN | apply below_drew1 | refine below_set ?_ GE354.out) | exact HB.out))) (fun k_ h_ => h_)) (g := gb354) (o := .cells #[.bool a1_0, .int .i64 a1_1, .int .i64 a1_2, .int .i64 a1_3, .int .i64 a1_4, .slice A1_5 l1_5.length c1_5] 29 (0, 0)) (by (with_reducible repeat (first | refine blk_drewN ?_ _ | refine blk_drew ?_ | refine blk_alloc ?_ _)); exact BK354.out)) (below_size (by repeat (first | (with_reducible first | exact HB.out | apply below_alloc | apply pw_below_drewN | apply below_drew1 | refine below_set ?_ GE354.out) | exact HB.out)))); have n2_ := Aside0.mk (blk_below (g := gb354) (o := .cells #[.bool a1_0, .int .i64 a1_1, .int .i64 a1_2, .int .i64 a1_3, .int .i64 a1_4, .slice A1_5 l1_5.length c1_5] 29 (0, 0)) (by (with_reducible repeat (first | refine blk_drewN ?_ _ | refine blk_drew ?_ | refine blk_alloc ?_ _)); exact BK354.out) hb); have n3_ := Aside0.mk (below_step (by repeat (first | (with_reducible first | exact HB.out | apply below_alloc | apply pw_below_drewN | apply below_drew1 | refine below_set ?_ GE354.out) | exact HB.out)) hb); clear HO1_5; clear BK354; clear HB; have HO1_5 := n0_; have HO357 := n1_; have BK354 := n2_; have HB := n3_; clear n0_ n1_ n2_ n3_; (try clear hb); (try clear hb2); (try clear hk); (try clear hi); (try clear ho0)))
  go_loopg [8] k (fun kq v8 w' => ∃ (x8_1 : Int), v8 = .int .i64 x8_1 ∧ Aside0 (conclaveref04_Add.l0 kq t355 x8_1 a1_0 a1_1 a1_2 a1_3 a1_4 l1_5 = some (r1, r2, r3)) ∧ Aside0 (kq ≤ k) ∧ Aside0 (Kd.S k29 29 w' w.heap.size (fun k_ => (w.heap.size ≤ k_) ∧ k_ ≠ gb354) v356 t355) ∧ Aside0 (Kd.V (Kd.int .i64) 3 w' w.heap.size (fun k_ => (P1_5_ k_ ∨ w.heap.size ≤ k_) ∧ some k_ ≠ (v356 : Value).ownBlock ∧ k_ ≠ gb354) (.slice A1_5 l1_5.length c1_5) l1_5) ∧ Aside0 (w'.heap[gb354]? = some (.cells #[.bool a1_0, .int .i64 a1_1, .int .i64 a1_2, .int .i64 a1_3, .int .i64 a1_4, (.slice A1_5 l1_5.length c1_5)] 29 (0, 0))) ∧ Aside0 (Below w.heap.size w w'))
  case atStart => exact ⟨(0), (by first | rfl | (simp; done) | (simp [*]; done)), H', ⟨Nat.le_refl _⟩, ⟨by (with_reducible repeat (first | apply Kd.S_alloc | apply Kd.S_drewN | apply Kd.S_drew)); exact Kd.S_mono HO357.out (fun _ hk => ⟨hk.1.1, hk.2⟩)⟩, ⟨by (with_reducible repeat (first | apply Kd.V_alloc | apply Kd.V_drewN | apply Kd.V_drew)); exact Kd.V_mono HO1_5.out (fun _ hk => ⟨hk.1.1, ⟨hk.2, hk.1.2⟩⟩)⟩, ⟨by (with_reducible repeat (first | refine blk_drewN ?_ _ | refine blk_drew ?_ | refine blk_alloc ?_ _)); exact BK354.out⟩, ⟨by repeat (first | (with_reducible first | exact HB.out | apply below_alloc | apply pw_below_drewN | apply below_drew1 | refine below_set ?_ GE354.out) | exact HB.out)⟩⟩
  case round =>
    clear H'
    try clear c1
    try clear c2
    try clear p2
    obtain ⟨x8_1, rfl, HA, HK1, HO_7, HO_355005, BK354, HB⟩ := hrel
    cases gk with
    | zero => exact absurd HA.out (by simp [conclaveref04_Add.l0])
    | succ k1 =>
      have H := HA.out
      clear HA
      simp only [conclaveref04_Add.l0] at H
      replace H := Option.bind_eq_some_iff.mp H
      obtain ⟨t358, A60, H⟩ := H
      replace H : (if t358 = true then (conclaveref04_Add.l0 k1 t355 (wrap64 (x8_1 + 1)) a1_0 a1_1 a1_2 a1_3 a1_4 l1_5) else ((conclaveref04_Leaves.f t355).bind fun t359 => (if x8_1 = t359 then (if x8_1 = 32 then (some (([] : List (S29)), 0, 41)) else (conclaveref04_Add.l1 k1 t355 x8_1 a1_0 a1_1 a1_2 a1_3 a1_4 l1_5)) else (conclaveref04_Add.j2 k1 t355 x8_1 a1_0 a1_1 a1_2 a1_3 a1_4 l1_5)))) = some (r1, r2, r3) := H
      have A6 := Aside0.mk A60
      clear A60
      by_cases c7 : t358 = true
      · subst c7
        have H1 : (conclaveref04_Add.l0 k1 t355 (wrap64 (x8_1 + 1)) a1_0 a1_1 a1_2 a1_3 a1_4 l1_5) = some (r1, r2, r3) := by rw [if_pos rfl] at H; exact H
        clear H
        have H := H1
        clear H1
        have H' := Aside0.mk H
        clear H
        obtain ⟨Ao8, co8, eo8⟩ := Kd.S_slice HO_7.out
        subst eo8
        go_wp2_with (first | ((with_reducible refine gate_callee (f := 22) rfl ?_); refine goesL_ (some 15) rfl rfl Tryd.func22 (by kernel_rfl) rfl #[.slice Ao8 t355.length co8, .int .i64 x8_1] rfl (by (try simp only [List.map_toArray, List.map_cons, List.map_nil]); first | done | rfl | (simp only [List.length_drop, List.length_take]; rfl)) ?_; (with_reducible refine (conclaveref04_Full.calls _ _ t355 x8_1 true _ ?side1 ?side2 A6.out).mono ?_); (case side1 => repeat (first | exact (Kd.S_reads' HO_7.out).2.2 | (with_reducible refine Kd.C_alloc ?_ _) | (with_reducible refine Kd.C_drewN ?_ _) | (with_reducible refine Kd.C_drew ?_))); (case side2 => exact (Kd.S_reads' HO_7.out).2.1); rintro e w' ⟨rfl, ⟨nd, rfl⟩⟩; refine ⟨_, rfl, ?_⟩))
        go_roundg k1
        case measure => have := HK1.out; omega
        case rel => exact ⟨(wrap64 (x8_1 + 1)), (by first | rfl | (simp; done) | (simp [*]; done)), H', ⟨by have := HK1.out; omega⟩, ⟨by (with_reducible repeat (first | apply Kd.S_alloc | apply Kd.S_drewN | apply Kd.S_drew)); exact HO_7.out⟩, ⟨by (with_reducible repeat (first | apply Kd.V_alloc | apply Kd.V_drewN | apply Kd.V_drew)); exact HO_355005.out⟩, ⟨by (with_reducible repeat (first | refine blk_drewN ?_ _ | refine blk_drew ?_ | refine blk_alloc ?_ _)); exact BK354.out⟩, ⟨by repeat (first | (with_reducible first | exact HB.out | apply below_alloc | apply pw_below_drewN | apply below_drew1 | refine below_set ?_ GE354.out) | exact HB.out)⟩⟩
      · replace c7 := Bool.eq_false_iff.mpr c7
        subst c7
        have H1 : ((conclaveref04_Leaves.f t355).bind fun t359 => (if x8_1 = t359 then (if x8_1 = 32 then (some (([] : List (S29)), 0, 41)) else (conclaveref04_Add.l1 k1 t355 x8_1 a1_0 a1_1 a1_2 a1_3 a1_4 l1_5)) else (conclaveref04_Add.j2 k1 t355 x8_1 a1_0 a1_1 a1_2 a1_3 a1_4 l1_5))) = some (r1, r2, r3) := by rw [if_neg (show ¬ (false = true) by decide)] at H; exact H
        clear H
        have H := H1
        clear H1
        replace H := Option.bind_eq_some_iff.mp H
        obtain ⟨t359, A90, H⟩ := H
        replace H : (if x8_1 = t359 then (if x8_1 = 32 then (some (([] : List (S29)), 0, 41)) else (conclaveref04_Add.l1 k1 t355 x8_1 a1_0 a1_1 a1_2 a1_3 a1_4 l1_5)) else (conclaveref04_Add.j2 k1 t355 x8_1 a1_0 a1_1 a1_2 a1_3 a1_4 l1_5)) = some (r1, r2, r3) := H
        have A9 := Aside0.mk A90
        clear A90
        have HC10 := Aside0.mk H
        clear H
        obtain ⟨Ao11, co11, eo11⟩ := Kd.S_slice HO_7.out
        subst eo11
        go_upto_if 21 with (first | ((with_reducible refine gate_callee (f := 22) rfl ?_); refine goesL_ (some 15) rfl rfl Tryd.func22 (by kernel_rfl) rfl #[.slice Ao11 t355.length co11, .int .i64 x8_1] rfl (by (try simp only [List.map_toArray, List.map_cons, List.map_nil]); first | done | rfl | (simp only [List.length_drop, List.length_take]; rfl)) ?_; (with_reducible refine (conclaveref04_Full.calls _ _ t355 x8_1 false _ ?side1 ?side2 A6.out).mono ?_); (case side1 => repeat (first | exact (Kd.S_reads' HO_7.out).2.2 | (with_reducible refine Kd.C_alloc ?_ _) | (with_reducible refine Kd.C_drewN ?_ _) | (with_reducible refine Kd.C_drew ?_))); (case side2 => exact (Kd.S_reads' HO_7.out).2.1); rintro e w' ⟨rfl, ⟨nd, rfl⟩⟩; refine ⟨_, rfl, ?_⟩) | ((with_reducible refine gate_callee (f := 21) rfl ?_); refine goesL_ (some 20) rfl rfl Tryd.func21 (by kernel_rfl) rfl #[.slice Ao11 t355.length co11] rfl (by (try simp only [List.map_toArray, List.map_cons, List.map_nil]); first | done | rfl | (simp only [List.length_drop, List.length_take]; rfl)) ?_; (with_reducible refine (conclaveref04_Leaves.calls _ _ t355 t359 _ ?side1 ?side2 A9.out).mono ?_); (case side1 => repeat (first | exact (Kd.S_reads' HO_7.out).2.2 | (with_reducible refine Kd.C_alloc ?_ _) | (with_reducible refine Kd.C_drewN ?_ _) | (with_reducible refine Kd.C_drew ?_))); (case side2 => exact (Kd.S_reads' HO_7.out).2.1); rintro e w' ⟨rfl, ⟨nd, rfl⟩⟩; refine ⟨_, rfl, ?_⟩))
        (try simp only [Act.put, List.setIfInBounds_toArray, List.set_cons_zero, List.set_cons_succ])
        go_cut [7] (fun v7 wc => ∃ (kq : Nat) (x7_9 : List (S29)), Aside0 (conclaveref04_Add.j2 kq x7_9 x8_1 a1_0 a1_1 a1_2 a1_3 a1_4 l1_5 = some (r1, r2, r3)) ∧ Aside0 (kq ≤ k1) ∧ Aside0 (Kd.S k29 29 wc w.heap.size (fun k_ => (w.heap.size ≤ k_) ∧ k_ ≠ gb354) v7 x7_9) ∧ Aside0 (Kd.V (Kd.int .i64) 3 wc w.heap.size (fun k_ => (P1_5_ k_ ∨ w.heap.size ≤ k_) ∧ some k_ ≠ (v7 : Value).ownBlock ∧ k_ ≠ gb354) (.slice A1_5 l1_5.length c1_5) l1_5) ∧ Aside0 (wc.heap[gb354]? = some (.cells #[.bool a1_0, .int .i64 a1_1, .int .i64 a1_2, .int .i64 a1_3, .int .i64 a1_4, (.slice A1_5 l1_5.length c1_5)] 29 (0, 0))) ∧ Aside0 (Below w.heap.size w wc))
        case first =>
          have H := HC10.out
          clear HC10
          by_cases c12 : x8_1 = t359
          · rw [if_pos c12] at H
            have c12b0 : (x8_1 == t359) = true := beq_iff_eq.mpr c12
            have c12b1 : (x8_1 != t359) = false := bne_eq_false_iff_eq.mpr c12
            clear c12
            (first | rw [c12b0] | (simp only [i64_w, i32_w]; rw [c12b0]) | skip)
            by_cases c13 : x8_1 = 32
            · rw [if_pos c13] at H
              have c13b0 : (x8_1 == 32) = true := beq_iff_eq.mpr c13
              have c13b1 : (x8_1 != 32) = false := bne_eq_false_iff_eq.mpr c13
              clear c13
              simp only [Option.some.injEq, Prod.mk.injEq] at H
              obtain ⟨rfl, rfl, rfl⟩ := H
              go_wp2
              go_ret3
              exact ⟨_, by first | rfl | (simp [errW_none, errW_some] <;> rfl) | (simp [*, errW_none, errW_some] <;> rfl), by first | exact Kd.S_nil _ _ _ _ _ | exact Kd.N_nil _ _ _ _ _ | exact Kd.V_nil _ _ _ _ _ | exact Kd.Q_nil _ _ _ _ _ | exact Kd.R_nil _ _ _ _ _, by repeat (first | (with_reducible first | exact HB.out | apply below_alloc | apply pw_below_drewN | apply below_drew1 | refine below_set ?_ GE354.out) | exact HB.out)⟩
            · rw [if_neg c13] at H
              have c13b0 : (x8_1 == 32) = false := beq_eq_false_iff_ne.mpr c13
              have c13b1 : (x8_1 != 32) = true := bne_iff_ne.mpr c13
              have H' := Aside0.mk H
              clear H
              go_wp2
              go_loopg [7] k1 (fun kq v7 w' => ∃ (x7_2 : List (S29)), Aside0 (conclaveref04_Add.l1 kq x7_2 x8_1 a1_0 a1_1 a1_2 a1_3 a1_4 l1_5 = some (r1, r2, r3)) ∧ Aside0 (kq ≤ k1) ∧ Aside0 (Kd.S k29 29 w' w.heap.size (fun k_ => (w.heap.size ≤ k_) ∧ k_ ≠ gb354) v7 x7_2) ∧ Aside0 (Kd.V (Kd.int .i64) 3 w' w.heap.size (fun k_ => (P1_5_ k_ ∨ w.heap.size ≤ k_) ∧ some k_ ≠ (v7 : Value).ownBlock ∧ k_ ≠ gb354) (.slice A1_5 l1_5.length c1_5) l1_5) ∧ Aside0 (w'.heap[gb354]? = some (.cells #[.bool a1_0, .int .i64 a1_1, .int .i64 a1_2, .int .i64 a1_3, .int .i64 a1_4, (.slice A1_5 l1_5.length c1_5)] 29 (0, 0))) ∧ Aside0 (Below w.heap.size w w'))
              case atStart => exact ⟨(t355), H', ⟨Nat.le_refl _⟩, ⟨by (with_reducible repeat (first | apply Kd.S_alloc | apply Kd.S_drewN | apply Kd.S_drew)); exact HO_7.out⟩, ⟨by (with_reducible repeat (first | apply Kd.V_alloc | apply Kd.V_drewN | apply Kd.V_drew)); exact HO_355005.out⟩, ⟨by (with_reducible repeat (first | refine blk_drewN ?_ _ | refine blk_drew ?_ | refine blk_alloc ?_ _)); exact BK354.out⟩, ⟨by repeat (first | (with_reducible first | exact HB.out | apply below_alloc | apply pw_below_drewN | apply below_drew1 | refine below_set ?_ GE354.out) | exact HB.out)⟩⟩
              case round =>
                clear H'
                try clear c1
                try clear c2
                try clear p2
                try clear p6
                try clear c7
                try clear c12
                try clear c12b0
                try clear c12b1
                try clear c13
                try clear c13b0
                try clear c13b1
                try clear p2
                obtain ⟨x7_2, HA, HK2, HO_7, HO_355005, BK354, HB⟩ := hrel
                cases gk with
                | zero => exact absurd HA.out (by simp [conclaveref04_Add.l1])
                | succ k2 =>
                  have H := HA.out
                  clear HA
                  simp only [conclaveref04_Add.l1] at H
                  by_cases c14 : (x7_2.length : Int) < (wrap64 ((wrap64 (4 * x8_1)) - 1))
                  · rw [if_pos c14] at H
                    have c14b0 : decide ((x7_2.length : Int) < (wrap64 ((wrap64 (4 * x8_1)) - 1))) = true := decide_eq_true c14
                    clear c14
                    by_cases c15 : x7_2.length < 2199023255552
                    · rw [if_pos c15] at H
                      have LMc15 := Aside0.mk c15
                      clear c15
                      obtain ⟨y360, hy360⟩ : ∃ y_ : List (S29), y_ = (x7_2 ++ [(⟨false, 0, 0, 0, 0, ([] : List Int)⟩ : S29)]) := ⟨_, rfl⟩
                      replace H : (conclaveref04_Add.l1 k2 y360 x8_1 a1_0 a1_1 a1_2 a1_3 a1_4 l1_5) = some (r1, r2, r3) := by first | (rw [hy360]; with_reducible exact H) | (have H2_ := (Option.bind_some _ _).symm.trans H; rw [hy360]; with_reducible exact H2_) | (have H2_ := (Option.bind_some _ _).symm.trans H; with_reducible exact H2_) | with_reducible exact H | (rw [hy360]; exact H) | exact H
                      have Ny360 := Aside0.mk hy360
                      clear hy360
                      have H' := Aside0.mk H
                      clear H
                      obtain ⟨Ao16, co16, eo16⟩ := Kd.S_slice HO_7.out
                      subst eo16
                      go_wp2_with (first | ((with_reducible refine gate_builtin (b := .append) (xs := #[.tmp 30, .tmp 32]) rfl ?_); at_builtin; refine Kd.S_append k29 (w0 := w) w.heap.size rfl (.tmp 30) (.tmp 32) 22 29 (.agg #[(.bool false), (.int .i64 0), (.int .i64 0), (.int .i64 0), (.int .i64 0), (.slice none 0 0)]) 64 rfl Tryd.underlying22 info29 rfl (by decide) (by omega) (.slice Ao16 x7_2.length co16) x7_2 (⟨false, 0, 0, 0, 0, ([] : List Int)⟩ : S29) [.bool false, .int .i64 0, .int .i64 0, .int .i64 0, .int .i64 0, .slice none 0 0] (fun k_ => (w.heap.size ≤ k_) ∧ k_ ≠ gb354) (fun _ => False) rfl rfl ?aP (fun k_ hk_ => hk_.elim) ?aF ?aO ?aB ?aS ?aL ?_; (case aP => exact k29_mkM _ _ _ (⟨false, 0, 0, 0, 0, ([] : List Int)⟩ : S29) (Kd.R_nil _ _ _ _ _)); (case aB => exact (by repeat (first | (with_reducible first | exact HB.out | apply below_alloc | apply pw_below_drewN | apply below_drew1 | refine below_set ?_ GE354.out) | exact HB.out))); (case aF => exact (fun k_ hk => ⟨(Nat.le_trans (below_size (by repeat (first | (with_reducible first | exact HB.out | apply below_alloc | apply pw_below_drewN | apply below_drew1 | refine below_set ?_ GE354.out) | exact HB.out))) hk), Kd.freshB (g := gb354) (o := .cells #[.bool a1_0, .int .i64 a1_1, .int .i64 a1_2, .int .i64 a1_3, .int .i64 a1_4, .slice A1_5 l1_5.length c1_5] 29 (0, 0)) (by (with_reducible repeat (first | refine blk_drewN ?_ _ | refine blk_drew ?_ | refine blk_alloc ?_ _)); exact BK354.out) k_ hk⟩)); (case aO => exact (by (with_reducible repeat (first | apply Kd.S_alloc | apply Kd.S_drewN | apply Kd.S_drew)); exact Kd.S_mono HO_7.out (fun k_ hk => ⟨⟨hk.1, hk.2⟩, fun e_ => e_⟩))); (case aS => exact (below_size (by repeat (first | (with_reducible first | exact HB.out | apply below_alloc | apply pw_below_drewN | apply below_drew1 | refine below_set ?_ GE354.out) | exact HB.out)))); (case aL => have := LMc15.out; omega); intro v361 w17 ho hb hg hat; rw [← Ny360.out] at ho; have n0_ := Aside0.mk (Kd.V_afterv (ok := (fun k_ => (P1_5_ k_ ∨ w.heap.size ≤ k_) ∧ k_ ≠ gb354)) (by (with_reducible repeat (first | apply Kd.V_alloc | apply Kd.V_drewN | apply Kd.V_drew)); exact Kd.V_mono HO_355005.out (fun _ hk => ⟨⟨hk.1, hk.2.2⟩, hk.2.1⟩)) hg hat); have n1_ := Aside0.mk (blk_grown (g := gb354) (o := .cells #[.bool a1_0, .int .i64 a1_1, .int .i64 a1_2, .int .i64 a1_3, .int .i64 a1_4, .slice A1_5 l1_5.length c1_5] 29 (0, 0)) (by (with_reducible repeat (first | refine blk_drewN ?_ _ | refine blk_drew ?_ | refine blk_alloc ?_ _)); exact BK354.out) hg (Kd.S_away HO_7.out (fun _ hk => hk.2))); have n2_ := Aside0.mk (hb); have n3_ := Aside0.mk (ho); clear HO_355005; clear BK354; clear HB; clear HO_7; have HO_355005 := n0_; have BK354 := n1_; have HB := n2_; have HO362 := n3_; clear n0_ n1_ n2_ n3_; clear ho hb hg hat))
                      go_roundg k2
                      case measure => have := HK1.out; have := HK2.out; omega
                      case rel => exact ⟨(y360), H', ⟨by have := HK1.out; have := HK2.out; omega⟩, ⟨by (with_reducible repeat (first | apply Kd.S_alloc | apply Kd.S_drewN | apply Kd.S_drew)); exact HO362.out⟩, ⟨by (with_reducible repeat (first | apply Kd.V_alloc | apply Kd.V_drewN | apply Kd.V_drew)); exact Kd.V_mono HO_355005.out (fun _ hk => ⟨hk.1.1, ⟨hk.2, hk.1.2⟩⟩)⟩, ⟨by (with_reducible repeat (first | refine blk_drewN ?_ _ | refine blk_drew ?_ | refine blk_alloc ?_ _)); exact BK354.out⟩, ⟨by repeat (first | (with_reducible first | exact HB.out | apply below_alloc | apply pw_below_drewN | apply below_drew1 | refine below_set ?_ GE354.out) | exact HB.out)⟩⟩
                    · rw [if_neg c15] at H
                      exact absurd H (by simp)
                  · rw [if_neg c14] at H
                    have c14b0 : decide ((x7_2.length : Int) < (wrap64 ((wrap64 (4 * x8_1)) - 1))) = false := decide_eq_false c14
                    clear c14
                    have H' := Aside0.mk H
                    clear H
                    obtain ⟨Ao18, co18, eo18⟩ := Kd.S_slice HO_7.out
                    subst eo18
                    go_wp2
                    go_meet
                    case rel => exact ⟨_, (x7_2), H', ⟨by have := HK1.out; have := HK2.out; first | omega | exact Nat.le_refl _⟩, ⟨by (with_reducible repeat (first | apply Kd.S_alloc | apply Kd.S_drewN | apply Kd.S_drew)); exact HO_7.out⟩, ⟨by (with_reducible repeat (first | apply Kd.V_alloc | apply Kd.V_drewN | apply Kd.V_drew)); exact HO_355005.out⟩, ⟨by (with_reducible repeat (first | refine blk_drewN ?_ _ | refine blk_drew ?_ | refine blk_alloc ?_ _)); exact BK354.out⟩, ⟨by repeat (first | (with_reducible first | exact HB.out | apply below_alloc | apply pw_below_drewN | apply below_drew1 | refine below_set ?_ GE354.out) | exact HB.out)⟩⟩
          · rw [if_neg c12] at H
            have c12b0 : (x8_1 == t359) = false := beq_eq_false_iff_ne.mpr c12
            have c12b1 : (x8_1 != t359) = true := bne_iff_ne.mpr c12
            (first | rw [c12b0] | (simp only [i64_w, i32_w]; rw [c12b0]) | skip)
            have H' := Aside0.mk H
            clear H
            go_wp2
            go_meet
            case rel => exact ⟨_, (t355), H', ⟨by have := HK1.out; first | omega | exact Nat.le_refl _⟩, ⟨by (with_reducible repeat (first | apply Kd.S_alloc | apply Kd.S_drewN | apply Kd.S_drew)); exact HO_7.out⟩, ⟨by (with_reducible repeat (first | apply Kd.V_alloc | apply Kd.V_drewN | apply Kd.V_drew)); exact HO_355005.out⟩, ⟨by (with_reducible repeat (first | refine blk_drewN ?_ _ | refine blk_drew ?_ | refine blk_alloc ?_ _)); exact BK354.out⟩, ⟨by repeat (first | (with_reducible first | exact HB.out | apply below_alloc | apply pw_below_drewN | apply below_drew1 | refine below_set ?_ GE354.out) | exact HB.out)⟩⟩
        case rest =>
          clear HC10
          try clear c1
          try clear c2
          try clear p2
          try clear p6
          try clear c7
          try clear c12
          try clear c12b0
          try clear c12b1
          try clear c13
          try clear c13b0
          try clear c13b1
          try clear c14
          try clear c14b0
          try clear c15
          try clear p2
          try clear p6
          obtain ⟨kq, x7_9, HA, HJ9, HO_7, HO_355005, BK354, HB⟩ := hcut
          cases kq with
          | zero => exact absurd HA.out (by simp [conclaveref04_Add.j2])
          | succ kj9 =>
            have H := HA.out
            clear HA
            simp only [conclaveref04_Add.j2] at H
            replace H := Option.bind_eq_some_iff.mp H
            obtain ⟨⟨t363, t364, t365, t366, t367, t368⟩, A190, H⟩ := H
            replace H : (if 0 ≤ (wrap64 (2 * x8_1)) then (if (wrap64 (2 * x8_1)) < (x7_9.length : Int) then ((some (x7_9.set ((wrap64 (2 * x8_1)) : Int).toNat (⟨t363, t364, t365, t366, t367, t368⟩ : S29) : List (S29))).bind fun y371 => ((conclaveref04_Leaves.f y371).bind fun t372 => (conclaveref04_Add.l2 kj9 y371 x8_1 t372 1))) else (none)) else (none)) = some (r1, r2, r3) := H
            have A19 := Aside0.mk A190
            clear A190
            obtain ⟨ji20, hji20⟩ : ∃ j_ : Int, (wrap64 (2 * x8_1)) = j_ := ⟨_, rfl⟩
            replace H : (if 0 ≤ (ji20) then (if (ji20) < (x7_9.length : Int) then ((some (x7_9.set ((ji20) : Int).toNat (⟨t363, t364, t365, t366, t367, t368⟩ : S29) : List (S29))).bind fun y371 => ((conclaveref04_Leaves.f y371).bind fun t372 => (conclaveref04_Add.l2 kj9 y371 x8_1 t372 1))) else (none)) else (none)) = some (r1, r2, r3) := by first | (rw [hji20] at H; exact H) | (simp only [hji20] at H ⊢; exact H)
            (try rw [hji20] at A19)
            have hji20w : (IntKind.i64.wrap (2 * x8_1)) = ji20 := (i64_w _).trans hji20
            by_cases c21 : 0 ≤ (ji20)
            · rw [if_pos c21] at H
              have c21b0 : decide (0 ≤ (ji20)) = true := decide_eq_true c21
              clear c21
              by_cases c22 : (ji20) < (x7_9.length : Int)
              · rw [if_pos c22] at H
                have c22b0 : decide ((ji20) < (x7_9.length : Int)) = true := decide_eq_true c22
                clear c22
                obtain ⟨y371, hy371⟩ : ∃ y_ : List (S29), y_ = (x7_9.set ((ji20) : Int).toNat (⟨t363, t364, t365, t366, t367, t368⟩ : S29)) := ⟨_, rfl⟩
                replace H : ((conclaveref04_Leaves.f y371).bind fun t372 => (conclaveref04_Add.l2 kj9 y371 x8_1 t372 1)) = some (r1, r2, r3) := by first | (rw [hy371]; with_reducible exact H) | (have H2_ := (Option.bind_some _ _).symm.trans H; rw [hy371]; with_reducible exact H2_) | (have H2_ := (Option.bind_some _ _).symm.trans H; with_reducible exact H2_) | with_reducible exact H | (rw [hy371]; exact H) | exact H
                have Ny371 := Aside0.mk hy371
                clear hy371
                replace H := Option.bind_eq_some_iff.mp H
                obtain ⟨t372, A240, H⟩ := H
                replace H : (conclaveref04_Add.l2 kj9 y371 x8_1 t372 1) = some (r1, r2, r3) := H
                have A24 := Aside0.mk A240
                clear A240
                have H' := Aside0.mk H
                clear H
                have hcz25_0 : wc.cell? ⟨gb354, 0, none⟩ = some (.bool a1_0) := (blk_cell BK354.out 0).trans rfl
                have hcz25_1 : wc.cell? ⟨gb354, 1, none⟩ = some (.int .i64 a1_1) := (blk_cell BK354.out 1).trans rfl
                have hcz25_2 : wc.cell? ⟨gb354, 2, none⟩ = some (.int .i64 a1_2) := (blk_cell BK354.out 2).trans rfl
                have hcz25_3 : wc.cell? ⟨gb354, 3, none⟩ = some (.int .i64 a1_3) := (blk_cell BK354.out 3).trans rfl
                have hcz25_4 : wc.cell? ⟨gb354, 4, none⟩ = some (.int .i64 a1_4) := (blk_cell BK354.out 4).trans rfl
                have hcz25_5 : wc.cell? ⟨gb354, 5, none⟩ = some (.slice A1_5 l1_5.length c1_5) := (blk_cell BK354.out 5).trans rfl
                have hfz25_0 := blk_frozen BK354.out 0
                have hfz25_1 := blk_frozen BK354.out 1
                have hfz25_2 := blk_frozen BK354.out 2
                have hfz25_3 := blk_frozen BK354.out 3
                have hfz25_4 := blk_frozen BK354.out 4
                have hfz25_5 := blk_frozen BK354.out 5
                go_wp2_with (first | ((with_reducible refine gate_callee (f := 35) rfl ?_); refine goesL_ (some 38) rfl rfl Tryd.func35 (by kernel_rfl) rfl #[.agg #[.bool a1_0, .int .i64 a1_1, .int .i64 a1_2, .int .i64 a1_3, .int .i64 a1_4, .slice A1_5 l1_5.length c1_5]] rfl (by (try simp only [List.map_toArray, List.map_cons, List.map_nil]); first | done | rfl | (simp only [List.length_drop, List.length_take]; rfl)) ?_; (with_reducible refine (conclaveref04_Leaf.calls a1_0 a1_1 a1_2 a1_3 a1_4 _ _ l1_5 t363 t364 t365 t366 t367 t368 _ ?side1 ?side2 A19.out).mono ?_); (case side1 => repeat (first | exact (Kd.V_reads' HO_355005.out).2.2 | (with_reducible refine Kd.C_alloc ?_ _) | (with_reducible refine Kd.C_drewN ?_ _) | (with_reducible refine Kd.C_drew ?_))); (case side2 => exact (Kd.V_reads' HO_355005.out).2.1); rintro e w26 ⟨v369, rfl, ho0, hb⟩; refine ⟨_, rfl, ?_⟩; obtain ⟨Av_, cv_, hv_⟩ := Kd.R_slice ho0; have HV369 := Aside0.mk hv_; clear hv_; have n0_ := Aside0.mk (Kd.S_elder' (by (with_reducible repeat (first | apply Kd.S_alloc | apply Kd.S_drewN | apply Kd.S_drew)); exact HO_7.out) (Kd.R_base ho0) hb); have n1_ := Aside0.mk (Kd.V_elder' (by (with_reducible repeat (first | apply Kd.V_alloc | apply Kd.V_drewN | apply Kd.V_drew)); exact HO_355005.out) (Kd.R_base ho0) hb); have n2_ := Aside0.mk (Kd.R_lower (Kd.R_newM (M := fun k_ => (w.heap.size ≤ k_)) ho0 (below_size (by repeat (first | (with_reducible first | exact HB.out | apply below_alloc | apply pw_below_drewN | apply below_drew1 | refine below_set ?_ GE354.out) | exact HB.out))) (fun k_ h_ => h_)) (below_size (by repeat (first | (with_reducible first | exact HB.out | apply below_alloc | apply pw_below_drewN | apply below_drew1 | refine below_set ?_ GE354.out) | exact HB.out)))); have n3_ := Aside0.mk (blk_below (g := gb354) (o := .cells #[.bool a1_0, .int .i64 a1_1, .int .i64 a1_2, .int .i64 a1_3, .int .i64 a1_4, .slice A1_5 l1_5.length c1_5] 29 (0, 0)) (by (with_reducible repeat (first | refine blk_drewN ?_ _ | refine blk_drew ?_ | refine blk_alloc ?_ _)); exact BK354.out) hb); have n4_ := Aside0.mk (below_step (by repeat (first | (with_reducible first | exact HB.out | apply below_alloc | apply pw_below_drewN | apply below_drew1 | refine below_set ?_ GE354.out) | exact HB.out)) hb); clear HO_7; clear HO_355005; clear BK354; clear HB; have HO_7 := n0_; have HO_355005 := n1_; have HO370 := n2_; have BK354 := n3_; have HB := n4_; clear n0_ n1_ n2_ n3_ n4_; (try clear hb); (try clear hb2); (try clear hk); (try clear hi); (try clear ho0); have p23 : 0 ≤ ((ji20) : Int) := of_decide_eq_true (by first | (with_reducible assumption) | assumption); have q23 : ((ji20) : Int) < ((x7_9.length : Int) : Int) := of_decide_eq_true (by first | (with_reducible assumption) | assumption); obtain ⟨go23, co23, eo23, gb23, gl23, cl23, HG23⟩ := Kd.S_form HO_7.out (by omega); (first | cases eo23 | (injection eo23 with ea_ en_ ec_; (first | subst ea_ | (injection ea_ with ea_; subst ea_)); subst ec_; clear en_)); have GB23 := Aside0.mk gb23; have GG23 := Aside0.mk HG23; clear gb23 gl23 HG23; obtain ⟨_, ce23, hcl23, hM23, hcc23, hfr23, _, _⟩ := Kd.S_elem HO_7.out z29 ((ji20) : Int) p23 q23; obtain ⟨ve23_5, rfl, ge23_5⟩ := k29_openM hM23; have hx23_0 : w26.cell? ⟨go23, ((ji20) : Int).toNat * 6, none⟩ = some (.bool ((rd_T29 x7_9 (ji20)).f0)) := hcc23 0 _ rfl; have hx23_1 : w26.cell? ⟨go23, ((ji20) : Int).toNat * 6 + 1, none⟩ = some (.int .i64 ((rd_T29 x7_9 (ji20)).f1)) := hcc23 1 _ rfl; have hx23_2 : w26.cell? ⟨go23, ((ji20) : Int).toNat * 6 + 2, none⟩ = some (.int .i64 ((rd_T29 x7_9 (ji20)).f2)) := hcc23 2 _ rfl; have hx23_3 : w26.cell? ⟨go23, ((ji20) : Int).toNat * 6 + 3, none⟩ = some (.int .i64 ((rd_T29 x7_9 (ji20)).f3)) := hcc23 3 _ rfl; have hx23_4 : w26.cell? ⟨go23, ((ji20) : Int).toNat * 6 + 4, none⟩ = some (.int .i64 ((rd_T29 x7_9 (ji20)).f4)) := hcc23 4 _ rfl; have hx23_5 : w26.cell? ⟨go23, ((ji20) : Int).toNat * 6 + 5, none⟩ = some (ve23_5) := hcc23 5 _ rfl; have hf23_0 : w26.frozen? ⟨go23, ((ji20) : Int).toNat * 6, none⟩ = false := hfr23 0; have hf23_1 : w26.frozen? ⟨go23, ((ji20) : Int).toNat * 6 + 1, none⟩ = false := hfr23 1; have hf23_2 : w26.frozen? ⟨go23, ((ji20) : Int).toNat * 6 + 2, none⟩ = false := hfr23 2; have hf23_3 : w26.frozen? ⟨go23, ((ji20) : Int).toNat * 6 + 3, none⟩ = false := hfr23 3; have hf23_4 : w26.frozen? ⟨go23, ((ji20) : Int).toNat * 6 + 4, none⟩ = false := hfr23 4; have hf23_5 : w26.frozen? ⟨go23, ((ji20) : Int).toNat * 6 + 5, none⟩ = false := hfr23 5; clear hcl23 hcc23 hfr23 hM23; replace p23 := eq_true p23; replace q23 := eq_true q23; have n_ := Aside0.mk (Kd.S_mono (ok' := (fun k_ => (w.heap.size ≤ k_) ∧ some k_ ≠ (v369 : Value).ownBlock ∧ k_ ≠ gb354)) HO_7.out (fun k_ hk => ⟨hk.1.1, ⟨hk.2, hk.1.2⟩⟩)); clear HO_7; have HO_7 := n_; clear n_; have HX27 := Aside0.mk (show Kd.S k29 29 w26 w.heap.size (fun k_ => ((fun k_ => (w.heap.size ≤ k_) ∧ k_ ≠ gb354)) k_ ∧ ¬ ((fun k_ => some k_ = (v369 : Value).ownBlock)) k_) (.slice (some ⟨go23, 0, none⟩) x7_9.length co23) x7_9 from (by (with_reducible repeat (first | apply Kd.S_alloc | apply Kd.S_drewN | apply Kd.S_drew)); exact Kd.S_mono HO_7.out (fun k_ hk => ⟨⟨hk.1, hk.2.2⟩, fun e_ => hk.2.1 e_⟩))); obtain ⟨oki27, ce27, hcl27, hM27, hcc27, hfr27, hoki27, hH27⟩ := Kd.S_elem HX27.out z29 ((ji20) : Int) (of_decide_eq_true (by first | (with_reducible assumption) | assumption)) (by have h_ : ((ji20) : Int) < ((x7_9.length : Int) : Int) := of_decide_eq_true (by first | (with_reducible assumption) | assumption); first | exact h_ | (have e_ := (Kd.S_reads' HO_7.out).1; omega) | simpa using h_); obtain ⟨ve27_5, rfl, ge27_5⟩ := k29_openM hM27; have HP27 := Kd.S_seg hH27 (of_decide_eq_true (by first | (with_reducible assumption) | assumption)) (by have h_ : ((ji20) : Int) < ((x7_9.length : Int) : Int) := of_decide_eq_true (by first | (with_reducible assumption) | assumption); first | exact h_ | (have e_ := (Kd.S_reads' HO_7.out).1; omega) | simpa using h_) (seg := [.bool t363, .int .i64 t364, .int .i64 t365, .int .i64 t366, .int .i64 t367, v369]) (j := 0) (show 6 ≤ 6 from by decide) (x' := (⟨t363, t364, t365, t366, t367, t368⟩ : S29)) (k29_mkM _ _ _ (⟨t363, t364, t365, t366, t367, t368⟩ : S29) (Kd.R_mono (Kd.R_tight rfl (Kd.R_mono (ok' := fun k_ => ((fun k_ => (w.heap.size ≤ k_) ∧ k_ ≠ gb354)) k_ ∧ k_ ≠ go23) (Kd.R_types (Kd.R_apart' (HO370.out) (Kd.S_typed HO_7.out) (by decide)) BK354.out (by decide)) (fun k_ hk => ⟨⟨hk.1.1.1, hk.2⟩, fun e_ => (hk.1.2) (by rw [e_]; rfl)⟩))) (fun _ h_ => Or.inr (h_)))) (fun _ hk => hk) (fun k_ hk_ => ((Kd.R_mono (ok' := fun k_ => ((fun k_ => (w.heap.size ≤ k_) ∧ k_ ≠ gb354)) k_ ∧ k_ ≠ go23) (Kd.R_types (Kd.R_apart' (HO370.out) (Kd.S_typed HO_7.out) (by decide)) BK354.out (by decide)) (fun k_ hk => ⟨⟨hk.1.1.1, hk.2⟩, fun e_ => (hk.1.2) (by rw [e_]; rfl)⟩))).1 k_ hk_.symm); have hx27_0 := hcc27 0 _ rfl; (try simp only [show (k29).sz = 6 from rfl, Nat.mul_one, Nat.add_zero] at hx27_0); have hf27_0 := hfr27 0; (try simp only [show (k29).sz = 6 from rfl, Nat.mul_one, Nat.add_zero] at hf27_0); have hx27_1 := hcc27 1 _ rfl; (try simp only [show (k29).sz = 6 from rfl, Nat.mul_one, Nat.add_zero] at hx27_1); have hf27_1 := hfr27 1; (try simp only [show (k29).sz = 6 from rfl, Nat.mul_one, Nat.add_zero] at hf27_1); have hx27_2 := hcc27 2 _ rfl; (try simp only [show (k29).sz = 6 from rfl, Nat.mul_one, Nat.add_zero] at hx27_2); have hf27_2 := hfr27 2; (try simp only [show (k29).sz = 6 from rfl, Nat.mul_one, Nat.add_zero] at hf27_2); have hx27_3 := hcc27 3 _ rfl; (try simp only [show (k29).sz = 6 from rfl, Nat.mul_one, Nat.add_zero] at hx27_3); have hf27_3 := hfr27 3; (try simp only [show (k29).sz = 6 from rfl, Nat.mul_one, Nat.add_zero] at hf27_3); have hx27_4 := hcc27 4 _ rfl; (try simp only [show (k29).sz = 6 from rfl, Nat.mul_one, Nat.add_zero] at hx27_4); have hf27_4 := hfr27 4; (try simp only [show (k29).sz = 6 from rfl, Nat.mul_one, Nat.add_zero] at hf27_4); have hx27_5 := hcc27 5 _ rfl; (try simp only [show (k29).sz = 6 from rfl, Nat.mul_one, Nat.add_zero] at hx27_5); have hf27_5 := hfr27 5; (try simp only [show (k29).sz = 6 from rfl, Nat.mul_one, Nat.add_zero] at hf27_5); clear hcl27 hcc27 hfr27 hM27 hoki27 hH27) | ((with_reducible refine gate_store (t := 29) (p := 39) rfl ?_); refine store_event (t := 29) (p := 39) (v := ?vo_w28) (w1 := ((((((w26.setCell ⟨go23, ((ji20) : Int).toNat * 6, none⟩ (.bool t363)).setCell ⟨go23, ((ji20) : Int).toNat * 6 + 1, none⟩ (.int .i64 t364)).setCell ⟨go23, ((ji20) : Int).toNat * 6 + 2, none⟩ (.int .i64 t365)).setCell ⟨go23, ((ji20) : Int).toNat * 6 + 3, none⟩ (.int .i64 t366)).setCell ⟨go23, ((ji20) : Int).toNat * 6 + 4, none⟩ (.int .i64 t367)).setCell ⟨go23, ((ji20) : Int).toNat * 6 + 5, none⟩ (v369))) ?hg ?ho ?hn ?hr ?_; (case ho => rfl); (case hg => rfl); (case hn => rfl); (case hr => first | (go_simp; done) | (go_simp; rfl) | (rw [HV369.out]; go_simp; done) | (rw [HV369.out]; go_simp; rfl)); intro w28 hw; have hg : w26.grownBy w28 (some go23) := (by rw [hw]; exact HP27.2); have hp_ : Kd.S k29 29 w28 w.heap.size (fun k_ => (w.heap.size ≤ k_) ∧ k_ ≠ gb354) (.slice (some ⟨go23, 0, none⟩) x7_9.length co23) y371 := (by rw [hw, Ny371.out]; exact HP27.1); clear HP27; have n0_ := Aside0.mk (hp_); have n1_ := Aside0.mk (Kd.V_afterv (v := (.slice (some ⟨go23, 0, none⟩) x7_9.length co23)) (v1 := (.slice (some ⟨go23, 0, none⟩) x7_9.length co23)) (ok := (fun k_ => (P1_5_ k_ ∨ w.heap.size ≤ k_) ∧ some k_ ≠ (v369 : Value).ownBlock ∧ k_ ≠ gb354)) (by (with_reducible repeat (first | apply Kd.V_alloc | apply Kd.V_drewN | apply Kd.V_drew)); exact Kd.V_mono HO_355005.out (fun _ hk => ⟨⟨hk.1.1, ⟨hk.2, hk.1.2.2⟩⟩, hk.1.2.1⟩)) hg (.inl rfl)); have n2_ := Aside0.mk (blk_grown (g := gb354) (o := .cells #[.bool a1_0, .int .i64 a1_1, .int .i64 a1_2, .int .i64 a1_3, .int .i64 a1_4, .slice A1_5 l1_5.length c1_5] 29 (0, 0)) (by (with_reducible repeat (first | refine blk_drewN ?_ _ | refine blk_drew ?_ | refine blk_alloc ?_ _)); exact BK354.out) hg (Kd.S_away HO_7.out (fun _ hk => hk.2.2))); have n3_ := Aside0.mk ((by rw [hw]; exact below_set (below_set (below_set (below_set (below_set (below_set (HB.out) GB23.out) GB23.out) GB23.out) GB23.out) GB23.out) GB23.out : Below w.heap.size w w28)); clear HO_7; clear HO_355005; clear BK354; clear HB; clear HO370; have HO_7 := n0_; have HO_355005 := n1_; have BK354 := n2_; have HB := n3_; clear n0_ n1_ n2_ n3_; clear hg hw hp_) | ((with_reducible refine gate_callee (f := 21) rfl ?_); refine goesL_ (some 41) rfl rfl Tryd.func21 (by kernel_rfl) rfl #[.slice (some ⟨go23, 0, none⟩) y371.length co23] rfl (by (try simp only [List.map_toArray, List.map_cons, List.map_nil]); first | done | (rw [show y371.length = x7_9.length from (Kd.S_reads' HO_7.out).1.symm] <;> rfl) | rfl | (simp only [List.length_drop, List.length_take]; rfl)) ?_; (with_reducible refine (conclaveref04_Leaves.calls _ _ y371 t372 _ ?side1 ?side2 A24.out).mono ?_); (case side1 => repeat (first | exact (Kd.S_reads' HO_7.out).2.2 | (with_reducible refine Kd.C_alloc ?_ _) | (with_reducible refine Kd.C_drewN ?_ _) | (with_reducible refine Kd.C_drew ?_))); (case side2 => rw [show y371.length = x7_9.length from (Kd.S_reads' HO_7.out).1.symm]; exact (Kd.S_reads' HO_7.out).2.1); rintro e w' ⟨rfl, ⟨nd, rfl⟩⟩; refine ⟨_, rfl, ?_⟩))
                go_loopg [10] kj9 (fun kq v10 w' => ∃ (x7_3 : List (S29)) (x10_3 : Int) (x355005_3 : List Int) (u355005 : Value), v10 = .int .i64 x10_3 ∧ Aside0 (conclaveref04_Add.l2 kq x7_3 x8_1 t372 x10_3 = some (r1, r2, r3)) ∧ Aside0 (kq ≤ kj9) ∧ Aside0 (Kd.S k29 29 w' w.heap.size (fun k_ => (w.heap.size ≤ k_) ∧ k_ ≠ gb354) (.slice (some ⟨go23, 0, none⟩) x7_9.length co23) x7_3) ∧ Aside0 (Kd.V (Kd.int .i64) 3 w' w.heap.size (fun k_ => (P1_5_ k_ ∨ w.heap.size ≤ k_) ∧ some k_ ≠ ((.slice (some ⟨go23, 0, none⟩) x7_9.length co23) : Value).ownBlock ∧ k_ ≠ gb354) u355005 x355005_3) ∧ Aside0 (w'.heap[gb354]? = some (.cells #[.bool a1_0, .int .i64 a1_1, .int .i64 a1_2, .int .i64 a1_3, .int .i64 a1_4, u355005] 29 (0, 0))) ∧ Aside0 (Below w.heap.size w w'))
                case atStart => exact ⟨(y371), (1), (l1_5), (.slice A1_5 l1_5.length c1_5), (by first | rfl | (simp; done) | (simp [*]; done)), H', ⟨Nat.le_refl _⟩, ⟨by (with_reducible repeat (first | apply Kd.S_alloc | apply Kd.S_drewN | apply Kd.S_drew)); exact HO_7.out⟩, ⟨by (with_reducible repeat (first | apply Kd.V_alloc | apply Kd.V_drewN | apply Kd.V_drew)); exact Kd.V_mono HO_355005.out (fun _ hk => ⟨hk.1.1, ⟨hk.2, hk.1.2.2⟩⟩)⟩, ⟨by (with_reducible repeat (first | refine blk_drewN ?_ _ | refine blk_drew ?_ | refine blk_alloc ?_ _)); exact BK354.out⟩, ⟨by repeat (first | (with_reducible first | exact HB.out | apply below_alloc | apply pw_below_drewN | apply below_drew1 | refine below_set ?_ GE354.out) | exact HB.out)⟩⟩
                case round =>
                  clear H'
                  try clear c1
                  try clear c2
                  try clear p2
                  try clear q2
                  try clear hx2
                  try clear hf2
                  try clear c3
                  try clear p6
                  try clear c7
                  try clear c12
                  try clear c12b0
                  try clear c12b1
                  try clear c13
                  try clear c13b0
                  try clear c13b1
                  try clear c14
                  try clear c14b0
                  try clear c15
                  try clear c20
                  try clear c21
                  try clear c21b0
                  try clear c22
                  try clear c22b0
                  try clear c23
                  try clear p23
                  try clear q23
                  try clear hx23
                  try clear hf23
                  try clear c27
                  try clear hx27
                  try clear hf27
                  try clear hcz25_0
                  try clear hcz25_1
                  try clear hcz25_2
                  try clear hcz25_3
                  try clear hcz25_4
                  try clear hcz25_5
                  try clear hfz25_0
                  try clear hfz25_1
                  try clear hfz25_2
                  try clear hfz25_3
                  try clear hfz25_4
                  try clear hfz25_5
                  try clear hx23_0
                  try clear hx23_1
                  try clear hx23_2
                  try clear hx23_3
                  try clear hx23_4
                  try clear hx23_5
                  try clear hx27_0
                  try clear hx27_1
                  try clear hx27_2
                  try clear hx27_3
                  try clear hx27_4
                  try clear hx27_5
                  try clear p2
                  try clear p23
                  try clear p6
                  try clear q23
                  obtain ⟨x7_3, x10_3, x355005_3, u355005, rfl, HA, HK3, HO_7, HO_355005, BK354, HB⟩ := hrel
                  have hl7_3 := (Kd.S_reads' HO_7.out).1
                  rw [hl7_3] at HO_7
                  (try simp only [hl7_3])
                  (try simp only [hl7_3] at BK354)
                  (try simp only [hl7_3] at HO_355005)
                  cases gk with
                  | zero => exact absurd HA.out (by simp [conclaveref04_Add.l2])
                  | succ k3 =>
                    have H := HA.out
                    clear HA
                    simp only [conclaveref04_Add.l2] at H
                    by_cases c29 : x10_3 < (x7_3.length : Int)
                    · rw [if_pos c29] at H
                      have c29b0 : decide (x10_3 < (x7_3.length : Int)) = true := decide_eq_true c29
                      clear c29
                      by_cases c30 : 0 ≤ x10_3
                      · rw [if_pos c30] at H
                        have c30b0 : decide (0 ≤ x10_3) = true := decide_eq_true c30
                        clear c30
                        obtain ⟨bq31, hbq31⟩ : ∃ b_ : Bool, b_ = ((rd_T29 x7_3 x10_3).f0) := ⟨_, rfl⟩
                        replace H : (if bq31 = true then ((conclaveref03_Under.f k3 (wrap64 (2 * x8_1)) x10_3 t372).bind fun t374 => (if t374 = true then ((conclaveref04_with.f k3 ((rd_T29 x7_3 x10_3).f5) x8_1).bind fun t376 => (conclaveref04_Add.l2 k3 (x7_3.set (x10_3 : Int).toNat (⟨bq31, (rd_T29 x7_3 x10_3).f1, (rd_T29 x7_3 x10_3).f2, (rd_T29 x7_3 x10_3).f3, (rd_T29 x7_3 x10_3).f4, t376⟩ : S29)) x8_1 t372 (wrap64 (x10_3 + 2)))) else (conclaveref04_Add.l2 k3 x7_3 x8_1 t372 (wrap64 (x10_3 + 2))))) else (conclaveref04_Add.l2 k3 x7_3 x8_1 t372 (wrap64 (x10_3 + 2)))) = some (r1, r2, r3) := by rw [← hbq31] at H; exact H
                        have Nbq31 := Aside0.mk hbq31
                        clear hbq31
                        by_cases c32 : bq31 = true
                        · subst c32
                          have H1 : ((conclaveref03_Under.f k3 (wrap64 (2 * x8_1)) x10_3 t372).bind fun t374 => (if t374 = true then ((conclaveref04_with.f k3 ((rd_T29 x7_3 x10_3).f5) x8_1).bind fun t376 => (conclaveref04_Add.l2 k3 (x7_3.set (x10_3 : Int).toNat (⟨true, (rd_T29 x7_3 x10_3).f1, (rd_T29 x7_3 x10_3).f2, (rd_T29 x7_3 x10_3).f3, (rd_T29 x7_3 x10_3).f4, t376⟩ : S29)) x8_1 t372 (wrap64 (x10_3 + 2)))) else (conclaveref04_Add.l2 k3 x7_3 x8_1 t372 (wrap64 (x10_3 + 2))))) = some (r1, r2, r3) := by rw [if_pos rfl] at H; exact H
                          clear H
                          have H := H1
                          clear H1
                          replace H := Option.bind_eq_some_iff.mp H
                          obtain ⟨t374, A330, H⟩ := H
                          replace H : (if t374 = true then ((conclaveref04_with.f k3 ((rd_T29 x7_3 x10_3).f5) x8_1).bind fun t376 => (conclaveref04_Add.l2 k3 (x7_3.set (x10_3 : Int).toNat (⟨true, (rd_T29 x7_3 x10_3).f1, (rd_T29 x7_3 x10_3).f2, (rd_T29 x7_3 x10_3).f3, (rd_T29 x7_3 x10_3).f4, t376⟩ : S29)) x8_1 t372 (wrap64 (x10_3 + 2)))) else (conclaveref04_Add.l2 k3 x7_3 x8_1 t372 (wrap64 (x10_3 + 2)))) = some (r1, r2, r3) := H
                          have A33 := Aside0.mk A330
                          clear A330
                          by_cases c34 : t374 = true
                          · subst c34
                            have H1 : ((conclaveref04_with.f k3 ((rd_T29 x7_3 x10_3).f5) x8_1).bind fun t376 => (conclaveref04_Add.l2 k3 (x7_3.set (x10_3 : Int).toNat (⟨true, (rd_T29 x7_3 x10_3).f1, (rd_T29 x7_3 x10_3).f2, (rd_T29 x7_3 x10_3).f3, (rd_T29 x7_3 x10_3).f4, t376⟩ : S29)) x8_1 t372 (wrap64 (x10_3 + 2)))) = some (r1, r2, r3) := by rw [if_pos rfl] at H; exact H
                            clear H
                            have H := H1
                            clear H1
                            replace H := Option.bind_eq_some_iff.mp H
                            obtain ⟨t376, A350, H⟩ := H
                            replace H : (conclaveref04_Add.l2 k3 (x7_3.set (x10_3 : Int).toNat (⟨true, (rd_T29 x7_3 x10_3).f1, (rd_T29 x7_3 x10_3).f2, (rd_T29 x7_3 x10_3).f3, (rd_T29 x7_3 x10_3).f4, t376⟩ : S29)) x8_1 t372 (wrap64 (x10_3 + 2))) = some (r1, r2, r3) := H
                            have A35 := Aside0.mk A350
                            clear A350
                            obtain ⟨y379, hy379⟩ : ∃ y_ : List (S29), y_ = (x7_3.set (x10_3 : Int).toNat (⟨true, (rd_T29 x7_3 x10_3).f1, (rd_T29 x7_3 x10_3).f2, (rd_T29 x7_3 x10_3).f3, (rd_T29 x7_3 x10_3).f4, t376⟩ : S29)) := ⟨_, rfl⟩
                            replace H : (conclaveref04_Add.l2 k3 y379 x8_1 t372 (wrap64 (x10_3 + 2))) = some (r1, r2, r3) := by first | (rw [hy379]; with_reducible exact H) | (have H2_ := (Option.bind_some _ _).symm.trans H; rw [hy379]; with_reducible exact H2_) | (have H2_ := (Option.bind_some _ _).symm.trans H; with_reducible exact H2_) | with_reducible exact H | (rw [hy379]; exact H) | exact H
                            have Ny379 := Aside0.mk hy379
                            clear hy379
                            have H' := Aside0.mk H
                            clear H
                            have p373 : 0 ≤ (x10_3 : Int) := of_decide_eq_true (by first | (with_reducible assumption) | assumption)
                            have q373 : x10_3 < (x7_3.length : Int) := of_decide_eq_true (by first | (with_reducible assumption) | assumption)
                            obtain ⟨ad373, A373_5, c373_5, e373, hx373_0, hx373_1, hx373_2, hx373_3, hx373_4, hx373_5, hl373_5, hi373_5⟩ := at_T29 (Kd.S_reads' HO_7.out).2.2 x10_3 p373 q373
                            (try rw [← Nbq31.out] at hx373_0)
                            obtain rfl : (⟨go23, 0, none⟩ : Addr) = ad373 := (by injection e373)
                            obtain ⟨ce373, hce373, hMe373, hcc373⟩ := Kd.S_get HO_7.out z29 x10_3 p373 (by first | exact q373 | exact of_decide_eq_true (by first | (with_reducible assumption) | assumption) | (have e_ := (Kd.S_reads' HO_7.out).1; omega))
                            obtain ⟨ve373_5, rfl, ge373_5⟩ := k29_openM hMe373
                            have hv373_5 := hcc373 5 _ rfl
                            rw [add_field _ _ 5 (by omega)] at hv373_5
                            replace hv373_5 := Option.some.inj (hv373_5.symm.trans hx373_5)
                            rw [hv373_5] at ge373_5
                            have HL373_5 := Aside0.mk (show Kd.R (Kd.int .i64) 3 _ _ _ _ ((rd_T29 x7_3 x10_3).f5) from ge373_5)
                            clear hv373_5 ge373_5
                            clear hcc373 hce373
                            (first | simp only [add_plain] at hx373_0 | simp only [add_at] at hx373_0 | simp only [Addr.add, Nat.zero_add] at hx373_0 | skip)
                            (first | simp only [add_plain] at hx373_1 | simp only [add_at] at hx373_1 | simp only [Addr.add, Nat.zero_add] at hx373_1 | skip)
                            (first | simp only [add_plain] at hx373_2 | simp only [add_at] at hx373_2 | simp only [Addr.add, Nat.zero_add] at hx373_2 | skip)
                            (first | simp only [add_plain] at hx373_3 | simp only [add_at] at hx373_3 | simp only [Addr.add, Nat.zero_add] at hx373_3 | skip)
                            (first | simp only [add_plain] at hx373_4 | simp only [add_at] at hx373_4 | simp only [Addr.add, Nat.zero_add] at hx373_4 | skip)
                            (first | simp only [add_plain] at hx373_5 | simp only [add_at] at hx373_5 | simp only [Addr.add, Nat.zero_add] at hx373_5 | skip)
                            have HR373_5 := Aside0.mk hi373_5
                            have HC373_5 := Aside0.mk hl373_5
                            clear hi373_5 hl373_5
                            replace p373 := eq_true p373
                            replace q373 := eq_true q373
                            go_wp2_with (first | (go_at_call 26; (with_reducible refine (conclaveref03_Under.calls k3 ji20 x10_3 t372 true _ (by rw [← hji20]; exact A33.out)).mono ?_); rintro e w' ⟨rfl, ⟨nd, rfl⟩⟩; have p375 : 0 ≤ (x10_3 : Int) := of_decide_eq_true (by first | (with_reducible assumption) | assumption); have q375 : x10_3 < (x7_3.length : Int) := of_decide_eq_true (by first | (with_reducible assumption) | assumption); obtain ⟨ad375, A375_5, c375_5, e375, hx375_0, hx375_1, hx375_2, hx375_3, hx375_4, hx375_5, hl375_5, hi375_5⟩ := at_T29 (Kd.S_reads' HO_7.out).2.2 x10_3 p375 q375; (try rw [← Nbq31.out] at hx375_0); obtain rfl : (⟨go23, 0, none⟩ : Addr) = ad375 := (by injection e375); obtain ⟨ce375, hce375, hMe375, hcc375⟩ := Kd.S_get HO_7.out z29 x10_3 p375 (by first | exact q375 | exact of_decide_eq_true (by first | (with_reducible assumption) | assumption) | (have e_ := (Kd.S_reads' HO_7.out).1; omega)); obtain ⟨ve375_5, rfl, ge375_5⟩ := k29_openM hMe375; have hv375_5 := hcc375 5 _ rfl; rw [add_field _ _ 5 (by omega)] at hv375_5; replace hv375_5 := Option.some.inj (hv375_5.symm.trans hx375_5); rw [hv375_5] at ge375_5; have HL375_5 := Aside0.mk (show Kd.R (Kd.int .i64) 3 _ _ _ _ ((rd_T29 x7_3 x10_3).f5) from ge375_5); clear hv375_5 ge375_5; clear hcc375 hce375; (first | simp only [add_plain] at hx375_0 | simp only [add_at] at hx375_0 | simp only [Addr.add, Nat.zero_add] at hx375_0 | skip); (first | simp only [add_plain] at hx375_1 | simp only [add_at] at hx375_1 | simp only [Addr.add, Nat.zero_add] at hx375_1 | skip); (first | simp only [add_plain] at hx375_2 | simp only [add_at] at hx375_2 | simp only [Addr.add, Nat.zero_add] at hx375_2 | skip); (first | simp only [add_plain] at hx375_3 | simp only [add_at] at hx375_3 | simp only [Addr.add, Nat.zero_add] at hx375_3 | skip); (first | simp only [add_plain] at hx375_4 | simp only [add_at] at hx375_4 | simp only [Addr.add, Nat.zero_add] at hx375_4 | skip); (first | simp only [add_plain] at hx375_5 | simp only [add_at] at hx375_5 | simp only [Addr.add, Nat.zero_add] at hx375_5 | skip); have HR375_5 := Aside0.mk hi375_5; have HC375_5 := Aside0.mk hl375_5; clear hi375_5 hl375_5; replace p375 := eq_true p375; replace q375 := eq_true q375; have ea_ := Option.some.inj (hx373_5.symm.trans hx375_5); injection ea_ with ea_ en_ ec_; subst ea_; subst ec_; clear en_) | ((with_reducible refine gate_callee (f := 55) rfl ?_); refine goesL_ (some 68) rfl rfl Tryd.func55 (by kernel_rfl) rfl #[.slice A373_5 ((rd_T29 x7_3 x10_3).f5).length c373_5, .int .i64 x8_1] rfl (by (try simp only [List.map_toArray, List.map_cons, List.map_nil]); first | done | rfl | (simp only [List.length_drop, List.length_take]; rfl)) ?_; (with_reducible refine (conclaveref04_with.calls k3 _ _ ((rd_T29 x7_3 x10_3).f5) x8_1 t376 _ ?side1 ?side2 A35.out).mono ?_); (case side1 => repeat (first | exact (by repeat (first | (with_reducible exact HR375_5.out) | (with_reducible refine Kd.C_alloc ?_ _) | (with_reducible refine Kd.C_drewN ?_ _) | (with_reducible refine Kd.C_drew ?_) | exact HR375_5.out)) | (with_reducible refine Kd.C_alloc ?_ _) | (with_reducible refine Kd.C_drewN ?_ _) | (with_reducible refine Kd.C_drew ?_))); (case side2 => exact HC375_5.out); rintro e w37 ⟨v377, rfl, ho0, hb⟩; refine ⟨_, rfl, ?_⟩; obtain ⟨Av_, cv_, hv_⟩ := Kd.R_slice ho0; have HV377 := Aside0.mk hv_; clear hv_; have n0_ := Aside0.mk (Kd.S_elder' (by (with_reducible repeat (first | apply Kd.S_alloc | apply Kd.S_drewN | apply Kd.S_drew)); exact HO_7.out) (Kd.R_base ho0) hb); have n1_ := Aside0.mk (Kd.V_elder' (by (with_reducible repeat (first | apply Kd.V_alloc | apply Kd.V_drewN | apply Kd.V_drew)); exact HO_355005.out) (Kd.R_base ho0) hb); have n2_ := Aside0.mk (Kd.R_elder' (by (with_reducible repeat (first | apply Kd.R_alloc | apply Kd.R_drewN | apply Kd.R_drew)); exact HL373_5.out) (Kd.R_base ho0) hb); have n3_ := Aside0.mk (Kd.R_elder' (by (with_reducible repeat (first | apply Kd.R_alloc | apply Kd.R_drewN | apply Kd.R_drew)); exact HL375_5.out) (Kd.R_base ho0) hb); have n4_ := Aside0.mk (Kd.R_lower (Kd.R_new' (Kd.R_new' (Kd.R_newM (M := fun k_ => (w.heap.size ≤ k_)) ho0 (below_size (by repeat (first | (with_reducible first | exact HB.out | apply below_alloc | apply pw_below_drewN | apply below_drew1 | refine below_set ?_ GE354.out) | exact HB.out))) (fun k_ h_ => h_)) (Kd.R_lt (by (with_reducible repeat (first | apply Kd.R_alloc | apply Kd.R_drewN | apply Kd.R_drew)); exact HL373_5.out))) (Kd.R_lt (by (with_reducible repeat (first | apply Kd.R_alloc | apply Kd.R_drewN | apply Kd.R_drew)); exact HL375_5.out))) (below_size (by repeat (first | (with_reducible first | exact HB.out | apply below_alloc | apply pw_below_drewN | apply below_drew1 | refine below_set ?_ GE354.out) | exact HB.out)))); have n5_ := Aside0.mk (blk_below (g := gb354) (o := .cells #[.bool a1_0, .int .i64 a1_1, .int .i64 a1_2, .int .i64 a1_3, .int .i64 a1_4, u355005] 29 (0, 0)) (by (with_reducible repeat (first | refine blk_drewN ?_ _ | refine blk_drew ?_ | refine blk_alloc ?_ _)); exact BK354.out) hb); have n6_ := Aside0.mk (Kd.C_below (by repeat (first | (with_reducible exact HR373_5.out) | (with_reducible refine Kd.C_alloc ?_ _) | (with_reducible refine Kd.C_drewN ?_ _) | (with_reducible refine Kd.C_drew ?_) | exact HR373_5.out)) hb); have n7_ := Aside0.mk (Kd.C_below (by repeat (first | (with_reducible exact HR375_5.out) | (with_reducible refine Kd.C_alloc ?_ _) | (with_reducible refine Kd.C_drewN ?_ _) | (with_reducible refine Kd.C_drew ?_) | exact HR375_5.out)) hb); have n8_ := Aside0.mk (below_step (by repeat (first | (with_reducible first | exact HB.out | apply below_alloc | apply pw_below_drewN | apply below_drew1 | refine below_set ?_ GE354.out) | exact HB.out)) hb); clear HO_7; clear HO_355005; clear HL373_5; clear HL375_5; clear BK354; clear HR373_5; clear HR375_5; clear HB; have HO_7 := n0_; have HO_355005 := n1_; have HL373_5 := n2_; have HL375_5 := n3_; have HO378 := n4_; have BK354 := n5_; have HR373_5 := n6_; have HR375_5 := n7_; have HB := n8_; clear n0_ n1_ n2_ n3_ n4_ n5_ n6_ n7_ n8_; (try clear hb); (try clear hb2); (try clear hk); (try clear hi); (try clear ho0); have p36 : 0 ≤ (x10_3 : Int) := of_decide_eq_true (by first | (with_reducible assumption) | assumption); have q36 : (x10_3 : Int) < ((x7_3.length : Int) : Int) := of_decide_eq_true (by first | (with_reducible assumption) | assumption); obtain ⟨_, ce36, hcl36, hM36, hcc36, hfr36, _, _⟩ := Kd.S_elem HO_7.out z29 (x10_3 : Int) p36 q36; obtain ⟨ve36_5, rfl, ge36_5⟩ := k29_openM hM36; have hx36_0 : w37.cell? ⟨go23, (x10_3 : Int).toNat * 6, none⟩ = some (.bool ((rd_T29 x7_3 x10_3).f0)) := hcc36 0 _ rfl; have hx36_1 : w37.cell? ⟨go23, (x10_3 : Int).toNat * 6 + 1, none⟩ = some (.int .i64 ((rd_T29 x7_3 x10_3).f1)) := hcc36 1 _ rfl; have hx36_2 : w37.cell? ⟨go23, (x10_3 : Int).toNat * 6 + 2, none⟩ = some (.int .i64 ((rd_T29 x7_3 x10_3).f2)) := hcc36 2 _ rfl; have hx36_3 : w37.cell? ⟨go23, (x10_3 : Int).toNat * 6 + 3, none⟩ = some (.int .i64 ((rd_T29 x7_3 x10_3).f3)) := hcc36 3 _ rfl; have hx36_4 : w37.cell? ⟨go23, (x10_3 : Int).toNat * 6 + 4, none⟩ = some (.int .i64 ((rd_T29 x7_3 x10_3).f4)) := hcc36 4 _ rfl; have hx36_5 : w37.cell? ⟨go23, (x10_3 : Int).toNat * 6 + 5, none⟩ = some (ve36_5) := hcc36 5 _ rfl; have hf36_0 : w37.frozen? ⟨go23, (x10_3 : Int).toNat * 6, none⟩ = false := hfr36 0; have hf36_1 : w37.frozen? ⟨go23, (x10_3 : Int).toNat * 6 + 1, none⟩ = false := hfr36 1; have hf36_2 : w37.frozen? ⟨go23, (x10_3 : Int).toNat * 6 + 2, none⟩ = false := hfr36 2; have hf36_3 : w37.frozen? ⟨go23, (x10_3 : Int).toNat * 6 + 3, none⟩ = false := hfr36 3; have hf36_4 : w37.frozen? ⟨go23, (x10_3 : Int).toNat * 6 + 4, none⟩ = false := hfr36 4; have hf36_5 : w37.frozen? ⟨go23, (x10_3 : Int).toNat * 6 + 5, none⟩ = false := hfr36 5; clear hcl36 hcc36 hfr36 hM36; replace p36 := eq_true p36; replace q36 := eq_true q36; have n_ := Aside0.mk (Kd.S_mono (ok' := (fun k_ => (w.heap.size ≤ k_) ∧ some k_ ≠ (v377 : Value).ownBlock ∧ k_ ≠ gb354)) HO_7.out (fun k_ hk => ⟨hk.1.1, ⟨hk.2, hk.1.2⟩⟩)); clear HO_7; have HO_7 := n_; clear n_; have HX38 := Aside0.mk (show Kd.S k29 29 w37 w.heap.size (fun k_ => ((fun k_ => (w.heap.size ≤ k_) ∧ k_ ≠ gb354)) k_ ∧ ¬ ((fun k_ => some k_ = (v377 : Value).ownBlock)) k_) (.slice (some ⟨go23, 0, none⟩) x7_3.length co23) x7_3 from (by (with_reducible repeat (first | apply Kd.S_alloc | apply Kd.S_drewN | apply Kd.S_drew)); exact Kd.S_mono HO_7.out (fun k_ hk => ⟨⟨hk.1, hk.2.2⟩, fun e_ => hk.2.1 e_⟩))); obtain ⟨oki38, ce38, hcl38, hM38, hcc38, hfr38, hoki38, hH38⟩ := Kd.S_elem HX38.out z29 (x10_3 : Int) (of_decide_eq_true (by first | (with_reducible assumption) | assumption)) (by have h_ : (x10_3 : Int) < ((x7_3.length : Int) : Int) := of_decide_eq_true (by first | (with_reducible assumption) | assumption); first | exact h_ | (have e_ := (Kd.S_reads' HO_7.out).1; omega) | simpa using h_); obtain ⟨ve38_5, rfl, ge38_5⟩ := k29_openM hM38; (try rw [show (x7_3.getD x10_3.toNat z29).f0 = true from Nbq31.out.symm] at hH38); have HP38 := Kd.S_seg hH38 (of_decide_eq_true (by first | (with_reducible assumption) | assumption)) (by have h_ : (x10_3 : Int) < ((x7_3.length : Int) : Int) := of_decide_eq_true (by first | (with_reducible assumption) | assumption); first | exact h_ | (have e_ := (Kd.S_reads' HO_7.out).1; omega) | simpa using h_) (seg := [v377]) (j := 5) (show 6 ≤ 6 from by decide) (x' := (⟨true, (rd_T29 x7_3 x10_3).f1, (rd_T29 x7_3 x10_3).f2, (rd_T29 x7_3 x10_3).f3, (rd_T29 x7_3 x10_3).f4, t376⟩ : S29)) (k29_mkM _ _ _ (⟨true, (rd_T29 x7_3 x10_3).f1, (rd_T29 x7_3 x10_3).f2, (rd_T29 x7_3 x10_3).f3, (rd_T29 x7_3 x10_3).f4, t376⟩ : S29) (Kd.R_mono (Kd.R_tight rfl (Kd.R_mono (ok' := fun k_ => ((fun k_ => (w.heap.size ≤ k_) ∧ k_ ≠ gb354)) k_ ∧ k_ ≠ go23) (Kd.R_types (Kd.R_apart' (HO378.out) (Kd.S_typed HO_7.out) (by decide)) BK354.out (by decide)) (fun k_ hk => ⟨⟨hk.1.1.1.1.1, hk.2⟩, fun e_ => (hk.1.2) (by rw [e_]; rfl)⟩))) (fun _ h_ => Or.inr (h_)))) (fun _ hk => hk) (fun k_ hk_ => ((Kd.R_mono (ok' := fun k_ => ((fun k_ => (w.heap.size ≤ k_) ∧ k_ ≠ gb354)) k_ ∧ k_ ≠ go23) (Kd.R_types (Kd.R_apart' (HO378.out) (Kd.S_typed HO_7.out) (by decide)) BK354.out (by decide)) (fun k_ hk => ⟨⟨hk.1.1.1.1.1, hk.2⟩, fun e_ => (hk.1.2) (by rw [e_]; rfl)⟩))).1 k_ hk_.symm); have hx38_5 := hcc38 5 _ rfl; (try simp only [show (k29).sz = 6 from rfl, Nat.mul_one, Nat.add_zero] at hx38_5); have hf38_5 := hfr38 5; (try simp only [show (k29).sz = 6 from rfl, Nat.mul_one, Nat.add_zero] at hf38_5); clear hcl38 hcc38 hfr38 hM38 hoki38 hH38) | ((with_reducible refine gate_store (t := 27) (p := 70) rfl ?_); refine store_event (t := 27) (p := 70) (v := ?vo_w39) (w1 := (w37.setCell ⟨go23, (x10_3 : Int).toNat * 6 + 5, none⟩ (v377))) ?hg ?ho ?hn ?hr ?_; (case ho => rfl); (case hg => rfl); (case hn => rfl); (case hr => first | (go_simp; done) | (go_simp; rfl) | (rw [HV377.out]; go_simp; done) | (rw [HV377.out]; go_simp; rfl)); intro w39 hw; have hg : w37.grownBy w39 (some go23) := (by rw [hw]; exact HP38.2); have hp_ : Kd.S k29 29 w39 w.heap.size (fun k_ => (w.heap.size ≤ k_) ∧ k_ ≠ gb354) (.slice (some ⟨go23, 0, none⟩) x7_3.length co23) y379 := (by rw [hw, Ny379.out]; exact HP38.1); clear HP38; have n0_ := Aside0.mk (hp_); have n1_ := Aside0.mk (Kd.V_afterv (v := (.slice (some ⟨go23, 0, none⟩) x7_3.length co23)) (v1 := (.slice (some ⟨go23, 0, none⟩) x7_3.length co23)) (ok := (fun k_ => (P1_5_ k_ ∨ w.heap.size ≤ k_) ∧ some k_ ≠ (v377 : Value).ownBlock ∧ k_ ≠ gb354)) (by (with_reducible repeat (first | apply Kd.V_alloc | apply Kd.V_drewN | apply Kd.V_drew)); exact Kd.V_mono HO_355005.out (fun _ hk => ⟨⟨hk.1.1, ⟨hk.2, hk.1.2.2⟩⟩, hk.1.2.1⟩)) hg (.inl rfl)); have n2_ := Aside0.mk (blk_grown (g := gb354) (o := .cells #[.bool a1_0, .int .i64 a1_1, .int .i64 a1_2, .int .i64 a1_3, .int .i64 a1_4, u355005] 29 (0, 0)) (by (with_reducible repeat (first | refine blk_drewN ?_ _ | refine blk_drew ?_ | refine blk_alloc ?_ _)); exact BK354.out) hg (Kd.S_away HO_7.out (fun _ hk => hk.2.2))); have n3_ := Aside0.mk (Kd.R_after (v := (.slice (some ⟨go23, 0, none⟩) x7_3.length co23)) (v1 := (.slice (some ⟨go23, 0, none⟩) x7_3.length co23)) (ok := (fun k_ => (w.heap.size ≤ k_) ∧ some k_ ≠ (v377 : Value).ownBlock ∧ k_ ≠ gb354)) (by (with_reducible repeat (first | apply Kd.R_alloc | apply Kd.R_drewN | apply Kd.R_drew)); exact Kd.R_mono HL373_5.out (fun _ hk => ⟨⟨hk.1.1.1, ⟨hk.2, hk.1.1.2⟩⟩, hk.1.2⟩)) hg (.inl rfl)); have n4_ := Aside0.mk (Kd.R_after (v := (.slice (some ⟨go23, 0, none⟩) x7_3.length co23)) (v1 := (.slice (some ⟨go23, 0, none⟩) x7_3.length co23)) (ok := (fun k_ => (w.heap.size ≤ k_) ∧ some k_ ≠ (v377 : Value).ownBlock ∧ k_ ≠ gb354)) (by (with_reducible repeat (first | apply Kd.R_alloc | apply Kd.R_drewN | apply Kd.R_drew)); exact Kd.R_mono HL375_5.out (fun _ hk => ⟨⟨hk.1.1.1, ⟨hk.2, hk.1.1.2⟩⟩, hk.1.2⟩)) hg (.inl rfl)); have n5_ := Aside0.mk ((by rw [hw]; exact below_set (HB.out) GB23.out : Below w.heap.size w w39)); clear HO_7; clear HO_355005; clear BK354; clear HL373_5; clear HL375_5; clear HB; clear HO378; have HO_7 := n0_; have HO_355005 := n1_; have BK354 := n2_; have HL373_5 := n3_; have HL375_5 := n4_; have HB := n5_; clear n0_ n1_ n2_ n3_ n4_ n5_; clear hg hw hp_))
                            (try simp only [← hl7_3])
                            go_roundg k3
                            case measure => have := HK1.out; have := HJ9.out; have := HK3.out; omega
                            case rel => exact ⟨(y379), (wrap64 (x10_3 + 2)), (x355005_3), (u355005), (by first | rfl | (simp; done) | (simp [*]; done)), H', ⟨by have := HK1.out; have := HJ9.out; have := HK3.out; omega⟩, ⟨by (try simp only [hl7_3]); (with_reducible repeat (first | apply Kd.S_alloc | apply Kd.S_drewN | apply Kd.S_drew)); exact HO_7.out⟩, ⟨by (try simp only [hl7_3]); (with_reducible repeat (first | apply Kd.V_alloc | apply Kd.V_drewN | apply Kd.V_drew)); exact Kd.V_mono HO_355005.out (fun _ hk => ⟨hk.1.1, ⟨hk.2, hk.1.2.2⟩⟩)⟩, ⟨by (try simp only [hl7_3]); (with_reducible repeat (first | refine blk_drewN ?_ _ | refine blk_drew ?_ | refine blk_alloc ?_ _)); exact BK354.out⟩, ⟨by repeat (first | (with_reducible first | exact HB.out | apply below_alloc | apply pw_below_drewN | apply below_drew1 | refine below_set ?_ GE354.out) | exact HB.out)⟩⟩
                          · replace c34 := Bool.eq_false_iff.mpr c34
                            subst c34
                            have H1 : (conclaveref04_Add.l2 k3 x7_3 x8_1 t372 (wrap64 (x10_3 + 2))) = some (r1, r2, r3) := by rw [if_neg (show ¬ (false = true) by decide)] at H; exact H
                            clear H
                            have H := H1
                            clear H1
                            have H' := Aside0.mk H
                            clear H
                            have p373 : 0 ≤ (x10_3 : Int) := of_decide_eq_true (by first | (with_reducible assumption) | assumption)
                            have q373 : x10_3 < (x7_3.length : Int) := of_decide_eq_true (by first | (with_reducible assumption) | assumption)
                            obtain ⟨ad373, A373_5, c373_5, e373, hx373_0, hx373_1, hx373_2, hx373_3, hx373_4, hx373_5, hl373_5, hi373_5⟩ := at_T29 (Kd.S_reads' HO_7.out).2.2 x10_3 p373 q373
                            (try rw [← Nbq31.out] at hx373_0)
                            obtain rfl : (⟨go23, 0, none⟩ : Addr) = ad373 := (by injection e373)
                            obtain ⟨ce373, hce373, hMe373, hcc373⟩ := Kd.S_get HO_7.out z29 x10_3 p373 (by first | exact q373 | exact of_decide_eq_true (by first | (with_reducible assumption) | assumption) | (have e_ := (Kd.S_reads' HO_7.out).1; omega))
                            obtain ⟨ve373_5, rfl, ge373_5⟩ := k29_openM hMe373
                            have hv373_5 := hcc373 5 _ rfl
                            rw [add_field _ _ 5 (by omega)] at hv373_5
                            replace hv373_5 := Option.some.inj (hv373_5.symm.trans hx373_5)
                            rw [hv373_5] at ge373_5
                            have HL373_5 := Aside0.mk (show Kd.R (Kd.int .i64) 3 _ _ _ _ ((rd_T29 x7_3 x10_3).f5) from ge373_5)
                            clear hv373_5 ge373_5
                            clear hcc373 hce373
                            (first | simp only [add_plain] at hx373_0 | simp only [add_at] at hx373_0 | simp only [Addr.add, Nat.zero_add] at hx373_0 | skip)
                            (first | simp only [add_plain] at hx373_1 | simp only [add_at] at hx373_1 | simp only [Addr.add, Nat.zero_add] at hx373_1 | skip)
                            (first | simp only [add_plain] at hx373_2 | simp only [add_at] at hx373_2 | simp only [Addr.add, Nat.zero_add] at hx373_2 | skip)
                            (first | simp only [add_plain] at hx373_3 | simp only [add_at] at hx373_3 | simp only [Addr.add, Nat.zero_add] at hx373_3 | skip)
                            (first | simp only [add_plain] at hx373_4 | simp only [add_at] at hx373_4 | simp only [Addr.add, Nat.zero_add] at hx373_4 | skip)
                            (first | simp only [add_plain] at hx373_5 | simp only [add_at] at hx373_5 | simp only [Addr.add, Nat.zero_add] at hx373_5 | skip)
                            have HR373_5 := Aside0.mk hi373_5
                            have HC373_5 := Aside0.mk hl373_5
                            clear hi373_5 hl373_5
                            replace p373 := eq_true p373
                            replace q373 := eq_true q373
                            go_wp2_with (first | (go_at_call 26; (with_reducible refine (conclaveref03_Under.calls k3 ji20 x10_3 t372 false _ (by rw [← hji20]; exact A33.out)).mono ?_); rintro e w' ⟨rfl, ⟨nd, rfl⟩⟩))
                            (try simp only [← hl7_3])
                            go_roundg k3
                            case measure => have := HK1.out; have := HJ9.out; have := HK3.out; omega
                            case rel => exact ⟨(x7_3), (wrap64 (x10_3 + 2)), (x355005_3), (u355005), (by first | rfl | (simp; done) | (simp [*]; done)), H', ⟨by have := HK1.out; have := HJ9.out; have := HK3.out; omega⟩, ⟨by (try simp only [hl7_3]); (with_reducible repeat (first | apply Kd.S_alloc | apply Kd.S_drewN | apply Kd.S_drew)); exact HO_7.out⟩, ⟨by (try simp only [hl7_3]); (with_reducible repeat (first | apply Kd.V_alloc | apply Kd.V_drewN | apply Kd.V_drew)); exact HO_355005.out⟩, ⟨by (try simp only [hl7_3]); (with_reducible repeat (first | refine blk_drewN ?_ _ | refine blk_drew ?_ | refine blk_alloc ?_ _)); exact BK354.out⟩, ⟨by repeat (first | (with_reducible first | exact HB.out | apply below_alloc | apply pw_below_drewN | apply below_drew1 | refine below_set ?_ GE354.out) | exact HB.out)⟩⟩
                        · replace c32 := Bool.eq_false_iff.mpr c32
                          subst c32
                          have H1 : (conclaveref04_Add.l2 k3 x7_3 x8_1 t372 (wrap64 (x10_3 + 2))) = some (r1, r2, r3) := by rw [if_neg (show ¬ (false = true) by decide)] at H; exact H
                          clear H
                          have H := H1
                          clear H1
                          have H' := Aside0.mk H
                          clear H
                          have p373 : 0 ≤ (x10_3 : Int) := of_decide_eq_true (by first | (with_reducible assumption) | assumption)
                          have q373 : x10_3 < (x7_3.length : Int) := of_decide_eq_true (by first | (with_reducible assumption) | assumption)
                          obtain ⟨ad373, A373_5, c373_5, e373, hx373_0, hx373_1, hx373_2, hx373_3, hx373_4, hx373_5, hl373_5, hi373_5⟩ := at_T29 (Kd.S_reads' HO_7.out).2.2 x10_3 p373 q373
                          (try rw [← Nbq31.out] at hx373_0)
                          obtain rfl : (⟨go23, 0, none⟩ : Addr) = ad373 := (by injection e373)
                          obtain ⟨ce373, hce373, hMe373, hcc373⟩ := Kd.S_get HO_7.out z29 x10_3 p373 (by first | exact q373 | exact of_decide_eq_true (by first | (with_reducible assumption) | assumption) | (have e_ := (Kd.S_reads' HO_7.out).1; omega))
                          obtain ⟨ve373_5, rfl, ge373_5⟩ := k29_openM hMe373
                          have hv373_5 := hcc373 5 _ rfl
                          rw [add_field _ _ 5 (by omega)] at hv373_5
                          replace hv373_5 := Option.some.inj (hv373_5.symm.trans hx373_5)
                          rw [hv373_5] at ge373_5
                          have HL373_5 := Aside0.mk (show Kd.R (Kd.int .i64) 3 _ _ _ _ ((rd_T29 x7_3 x10_3).f5) from ge373_5)
                          clear hv373_5 ge373_5
                          clear hcc373 hce373
                          (first | simp only [add_plain] at hx373_0 | simp only [add_at] at hx373_0 | simp only [Addr.add, Nat.zero_add] at hx373_0 | skip)
                          (first | simp only [add_plain] at hx373_1 | simp only [add_at] at hx373_1 | simp only [Addr.add, Nat.zero_add] at hx373_1 | skip)
                          (first | simp only [add_plain] at hx373_2 | simp only [add_at] at hx373_2 | simp only [Addr.add, Nat.zero_add] at hx373_2 | skip)
                          (first | simp only [add_plain] at hx373_3 | simp only [add_at] at hx373_3 | simp only [Addr.add, Nat.zero_add] at hx373_3 | skip)
                          (first | simp only [add_plain] at hx373_4 | simp only [add_at] at hx373_4 | simp only [Addr.add, Nat.zero_add] at hx373_4 | skip)
                          (first | simp only [add_plain] at hx373_5 | simp only [add_at] at hx373_5 | simp only [Addr.add, Nat.zero_add] at hx373_5 | skip)
                          have HR373_5 := Aside0.mk hi373_5
                          have HC373_5 := Aside0.mk hl373_5
                          clear hi373_5 hl373_5
                          replace p373 := eq_true p373
                          replace q373 := eq_true q373
                          go_wp2
                          (try simp only [← hl7_3])
                          go_roundg k3
                          case measure => have := HK1.out; have := HJ9.out; have := HK3.out; omega
                          case rel => exact ⟨(x7_3), (wrap64 (x10_3 + 2)), (x355005_3), (u355005), (by first | rfl | (simp; done) | (simp [*]; done)), H', ⟨by have := HK1.out; have := HJ9.out; have := HK3.out; omega⟩, ⟨by (try simp only [hl7_3]); (with_reducible repeat (first | apply Kd.S_alloc | apply Kd.S_drewN | apply Kd.S_drew)); exact HO_7.out⟩, ⟨by (try simp only [hl7_3]); (with_reducible repeat (first | apply Kd.V_alloc | apply Kd.V_drewN | apply Kd.V_drew)); exact HO_355005.out⟩, ⟨by (try simp only [hl7_3]); (with_reducible repeat (first | refine blk_drewN ?_ _ | refine blk_drew ?_ | refine blk_alloc ?_ _)); exact BK354.out⟩, ⟨by repeat (first | (with_reducible first | exact HB.out | apply below_alloc | apply pw_below_drewN | apply below_drew1 | refine below_set ?_ GE354.out) | exact HB.out)⟩⟩
                      · rw [if_neg c30] at H
                        exact absurd H (by simp)
                    · rw [if_neg c29] at H
                      have c29b0 : decide (x10_3 < (x7_3.length : Int)) = false := decide_eq_false c29
                      clear c29
                      simp only [Option.some.injEq, Prod.mk.injEq] at H
                      obtain ⟨rfl, rfl, rfl⟩ := H
                      go_wp2
                      go_ret3
                      exact ⟨_, by first | rfl | (simp [errW_none, errW_some] <;> rfl) | (simp only [← hji20]; first | rfl | (simp [errW_none, errW_some] <;> rfl)) | (simp [*, errW_none, errW_some] <;> rfl), by (with_reducible repeat (first | apply Kd.S_alloc | apply Kd.S_drewN | apply Kd.S_drew)); exact Kd.S_mono HO_7.out (fun _ hk => hk.1), by repeat (first | (with_reducible first | exact HB.out | apply below_alloc | apply pw_below_drewN | apply below_drew1 | refine below_set ?_ GE354.out) | exact HB.out)⟩
              · rw [if_neg c22] at H
                exact absurd H (by simp)
            · rw [if_neg c21] at H
              exact absurd H (by simp)
end Go.Proofs.YtbblomnhobodkaaDoor.PTw
