/- What this claim reaches of a longer text of this session. -/
import Derived.Test.YteljmaebhjhedaaDoorPCnx0
import Derived.Test.YteljmaebhjhedaaDoorPCnx1
import Derived.Test.YteljmaebhjhedaaDoorPCnx2
import Derived.Test.YteljmaebhjhedaaDoorPCnx3
import Derived.Test.YteljmaebhjhedaaDoorStW
import Derived.Test.YteljmaebhjhedaaDoorRef
import Derived.Test.YteljmaebhjhedaaDoorBase
import Derived.Shelf.Spec.TrailingZeros
import Derived.Lib.ItoaNum
import Derived.Lib.LaidTab
import Derived.Test.YteljmaebhjhedaaDoorShelf
namespace Go.Proofs.YteljmaebhjhedaaDoor.PCn
open Go.RowKit Go.Proofs.YteljmaebhjhedaaDoorW.PrintWords Go.Proofs.YteljmaebhjhedaaDoorW.PrintLast Go.Proofs.YteljmaebhjhedaaDoorW.PrintMore
attribute [local go_sem] max2_int min2_int max_two min_two max_three min_three max_four min_four   -- for this text's walks alone
set_option linter.unusedVariables false
set_option linter.unusedSimpArgs false
def card_Body.f (k : Nat) (s0_0 : TS) (a1_0 : Int) (a1_1 : Int) (a1_2 : Int) (a1_3 : Int) (a1_4 : Int) (a1_5 : Int) : Option (Int × TS) := (digest_Number.f s0_0 a1_0).bind fun bt142 => ((digest_Number.f bt142.2 a1_4).bind fun bt144 => ((term_Store_List.f k bt144.2 (([bt142.1, a1_1, a1_2, a1_3, bt144.1] : List Int))).bind fun bt149 => (some (bt149.1, bt149.2))))
theorem card_Body.mono : ∀ a0 a1 a2 a3 a4 a5 a6 k, LeO (card_Body.f k a0 a1 a2 a3 a4 a5 a6) (card_Body.f (k + 1) a0 a1 a2 a3 a4 a5 a6) := by
  intro a0 a1 a2 a3 a4 a5 a6 k
  unfold card_Body.f
  repeat' first
      | (with_reducible exact term_Store_List.mono _ _ _)
      | (with_reducible exact LeO.refl _)
      | (with_reducible exact LeO.none _)
      | (with_reducible refine LeO.ite ?_ ?_)
      | (with_reducible refine LeO.bind ?_ (fun _ => ?_))
      | exact term_Store_List.mono _ _ _
      | exact LeO.none _
      | refine LeO.ite ?_ ?_
      | refine LeO.bind ?_ (fun _ => ?_)
def card_Body.T1 : Bool × List (List Nat × List Nat) := (true, [([], []), ([], []), ([], []), ([2], [2]), ([1, 3], [1, 3]), ([], []), ([5], [5]), ([], []), ([7], [7]), ([], []), ([9], [9]), ([], []), ([], []), ([12], [12]), ([11, 13, 4], [11, 13]), ([4, 6, 8, 10, 14], [4, 6, 8, 10, 14]), ([0, 15, 14], [0, 15]), ([16, 16, 0, 1, 2, 3, 4, 5, 6, 7, 8, 9, 10, 11, 12, 13, 14, 15, 16], [16])])
def card_Body.B1 : List Nat := [0, 0, 0, 4, 14, 0, 32, 0, 128, 0, 512, 0, 0, 4096, 14366, 32766, 65535, 131071]
theorem card_Body.tab1 : rtab .any (opsOf Tryd.f25 1) = card_Body.T1 := by kernel_rfl
theorem card_Body.bits1 : waitsOk card_Body.T1.2 card_Body.B1 = true := by kernel_rfl
set_option maxHeartbeats 8000000 in
set_option maxRecDepth 100000 in
theorem card_Body.calls (k : Nat) (g : Nat) (s0_0 : TS) (a1_0 : Int) (a1_1 : Int) (a1_2 : Int) (a1_3 : Int) (a1_4 : Int) (a1_5 : Int) (r1 : Int) (r2 : TS) (w0 w : World) (hrG : TabG w0) (hI : IsS60 w0 w g s0_0) (hB : Below w0.heap.size w0 w) (h : card_Body.f k s0_0 a1_0 a1_1 a1_2 a1_3 a1_4 a1_5 = some (r1, r2)) :
    Calls Tryd.prog 25 #[.pointer (some ⟨g, 0, none⟩), .agg #[.int .i64 a1_0, .int .i64 a1_1, .int .i64 a1_2, .int .i64 a1_3, .int .i64 a1_4, .int .i64 a1_5]] w fun e w' => e = .returned (.int .i64 r1) ∧ IsS60 w0 w' g r2 ∧ Below w0.heap.size w0 w' ∧ KeepSt w w' w0 := by
  have HRG := Aside0.mk hrG
  clear hrG
  have hu30 := Tryd.underlying30
  have HI0 := Aside0.mk hI
  have HK := Aside0.mk (KeepSt.refl w w0)
  have HL := Aside0.mk hB.size
  clear hI
  have HW0 := Aside0.mk hB.size
  have HB := Aside0.mk hB
  clear hB
  have H : ((digest_Number.f s0_0 a1_0).bind fun bt142 => ((digest_Number.f bt142.2 a1_4).bind fun bt144 => ((term_Store_List.f k bt144.2 (([bt142.1, a1_1, a1_2, a1_3, bt144.1] : List Int))).bind fun bt149 => (some (bt149.1, bt149.2))))) = some (r1, r2) := h
  clear h
  replace H := Option.bind_eq_some_iff.mp H
  obtain ⟨⟨t142, t143⟩, A30, H⟩ := H
  replace H : ((digest_Number.f t143 a1_4).bind fun bt144 => ((term_Store_List.f k bt144.2 (([t142, a1_1, a1_2, a1_3, bt144.1] : List Int))).bind fun bt149 => (some (bt149.1, bt149.2)))) = some (r1, r2) := H
  have A3 := Aside0.mk A30
  clear A30
  replace H := Option.bind_eq_some_iff.mp H
  obtain ⟨⟨t144, t145⟩, A40, H⟩ := H
  replace H : ((term_Store_List.f k t145 (([t142, a1_1, a1_2, a1_3, t144] : List Int))).bind fun bt149 => (some (bt149.1, bt149.2))) = some (r1, r2) := H
  have A4 := Aside0.mk A40
  clear A40
  obtain ⟨y146, hy146⟩ : ∃ y_ : List Int, y_ = (([t142, a1_1, a1_2, a1_3, t144] : List Int)) := ⟨_, rfl⟩
  replace H : ((term_Store_List.f k t145 y146).bind fun bt149 => (some (bt149.1, bt149.2))) = some (r1, r2) := by first | (rw [hy146]; with_reducible exact H) | (have H2_ := (Option.bind_some _ _).symm.trans H; rw [hy146]; with_reducible exact H2_) | (have H2_ := (Option.bind_some _ _).symm.trans H; with_reducible exact H2_) | with_reducible exact H | (rw [hy146]; exact H) | exact H
  have Ny146 := Aside0.mk hy146
  clear hy146
  replace H := Option.bind_eq_some_iff.mp H
  obtain ⟨⟨t149, t150⟩, A50, H⟩ := H
  replace H : (some (t149, t150)) = some (r1, r2) := H
  have A5 := Aside0.mk A50
  clear A50
  simp only [Option.some.injEq, Prod.mk.injEq] at H
  obtain ⟨rfl, rfl⟩ := H
  go_enter Tryd.func25, Tryd.ntmps25
  try go_wp2_with (first | ((with_reducible refine gate_dst (N := 3) rfl ?_); refine box_event ?hg (N := 3) ?hd (cs := #[.int .i64 a1_0, .int .i64 a1_1, .int .i64 a1_2, .int .i64 a1_3, .int .i64 a1_4, .int .i64 a1_5]) (t := 30) ?hr ?_; (case hd => rfl); (case hg => rfl); (case hr => first | (go_simp; done) | (go_simp; rfl)); intro gb141 hg w6 hbox hb; have n0_ := Aside0.mk (IsS60.below (by repeat (first | (with_reducible first | exact HI0.out | apply IsS60.alloc | apply IsS60.drewN | apply IsS60.drew | apply IsS60.set_0) | exact HI0.out)) hb); have n1_ := Aside0.mk (KeepSt.trans (by repeat (first | (with_reducible first | exact HK.out | apply KeepSt.drewN | apply KeepSt.drew | apply KeepSt.alloc) | exact HK.out)) (KeepSt.of_below hb w0)); have n2_ := Aside0.mk (below_step (by repeat (first | (with_reducible first | exact HB.out | apply below_alloc | apply pw_below_drewN | apply below_drew1 | refine below_set ?_ (IsS60.ge HI0.out)) | exact HB.out)) hb); have n3_ := Aside0.mk (hbox); have n4_ := Aside0.mk ((by rw [hg]; exact (KeepSt.size (w := w) (w0 := w0) (by repeat (first | (with_reducible first | exact HK.out | apply KeepSt.drewN | apply KeepSt.drew | apply KeepSt.alloc) | exact HK.out))) : w.heap.size ≤ gb141)); have n5_ := Aside0.mk ((Nat.le_trans HW0.out (by rw [hg]; exact (KeepSt.size (w := w) (w0 := w0) (by repeat (first | (with_reducible first | exact HK.out | apply KeepSt.drewN | apply KeepSt.drew | apply KeepSt.alloc) | exact HK.out))) : w.heap.size ≤ gb141) : w0.heap.size ≤ gb141)); have n6_ := Aside0.mk ((by rw [hg]; exact Nat.ne_of_lt (IsS60.lt (show IsS60 w0 _ g s0_0 from by repeat (first | (with_reducible first | exact HI0.out | apply IsS60.alloc | apply IsS60.drewN | apply IsS60.drew | apply IsS60.set_0) | exact HI0.out))) : g ≠ gb141)); have n7_ := Aside0.mk ((by rw [hg]; exact Nat.ne_of_gt (IsS60.lt (show IsS60 w0 _ g s0_0 from by repeat (first | (with_reducible first | exact HI0.out | apply IsS60.alloc | apply IsS60.drewN | apply IsS60.drew | apply IsS60.set_0) | exact HI0.out))) : gb141 ≠ g)); clear HI0; clear HK; clear HB; have HI0 := n0_; have HK := n1_; have HB := n2_; have BK141 := n3_; have GW141 := n4_; have GE141 := n5_; have NB0_141 := n6_; have NB141_0 := n7_; clear n0_ n1_ n2_ n3_ n4_ n5_ n6_ n7_; clear hb hbox hg))
  have n0_ := Aside0.mk (blk_drew BK141.out)
  have n1_ := Aside0.mk (IsS60.drew HI0.out)
  have n2_ := Aside0.mk (KeepSt.drew HK.out)
  have n3_ := Aside0.mk (below_drew1 HB.out)
  clear BK141
  clear HI0
  clear HK
  clear HB
  have BK141 := n0_
  have HI0 := n1_
  have HK := n2_
  have HB := n3_
  clear n0_ n1_ n2_ n3_
  refine start_ (n := 18) (S := fun w' => w'.cell? ⟨gb141, 0, none⟩ = some (.int .i64 a1_0) ∧ w'.cell? ⟨gb141, 1, none⟩ = some (.int .i64 a1_1) ∧ w'.cell? ⟨gb141, 2, none⟩ = some (.int .i64 a1_2) ∧ w'.cell? ⟨gb141, 3, none⟩ = some (.int .i64 a1_3) ∧ w'.cell? ⟨gb141, 4, none⟩ = some (.int .i64 a1_4) ∧ w'.cell? ⟨gb141, 5, none⟩ = some (.int .i64 a1_5)) (ds := []) #[false, false, false, false, false, false, false, false, false, false, false, false, false, false, false, false, false, false] (by kernel_rfl) rfl rfl ⟨(blk_cell BK141.out 0).trans rfl, (blk_cell BK141.out 1).trans rfl, (blk_cell BK141.out 2).trans rfl, (blk_cell BK141.out 3).trans rfl, (blk_cell BK141.out 4).trans rfl, (blk_cell BK141.out 5).trans rfl⟩ (fun hHeld => ?_); refine with_tabW card_Body.tab1 card_Body.bits1 (fun HT_ HW_ => ?_)
  generalize w6.drew = w7 at BK141 HI0 HK HB hHeld ⊢
  refine pure_ (i := 0) (N := some 5) (v := ?_) (a' := ?_) #[true, false, false, false, false, false, false, false, false, false, false, false, false, false, false, false, false, false] rfl rfl (any_of HT_.out (by kernel_rfl)) (fun _ _ _ h => h) (Or.inl ⟨by rfl, ?_⟩) ?_ ?_
  rotate_left
  · intro w'
    go_simp
    with_reducible rfl
  rotate_left
  · simp only [Act.put, List.setIfInBounds_toArray, List.set_cons_zero, List.set_cons_succ, i64_w, i32_w]
    rfl
  refine pure_ (i := 1) (N := some 6) (v := ?_) (a' := ?_) #[true, true, false, false, false, false, false, false, false, false, false, false, false, false, false, false, false, false] rfl rfl (any_of HT_.out (by kernel_rfl)) (fun _ _ _ h => h) (Or.inl ⟨by rfl, ?_⟩) ?_ ?_
  rotate_left
  · intro w'
    go_simp
    with_reducible rfl
  rotate_left
  · simp only [Act.put, List.setIfInBounds_toArray, List.set_cons_zero, List.set_cons_succ, i64_w, i32_w]
    rfl
  refine pure_ (i := 2) (N := some 7) (v := ?_) (a' := ?_) #[true, true, true, false, false, false, false, false, false, false, false, false, false, false, false, false, false, false] rfl rfl (any_of HT_.out (by kernel_rfl)) (fun _ _ _ h => h) (Or.inl ⟨by rfl, ?_⟩) ?_ ?_
  rotate_left
  · intro w'
    go_simp
    with_reducible rfl
  rotate_left
  · simp only [Act.put, List.setIfInBounds_toArray, List.set_cons_zero, List.set_cons_succ, i64_w, i32_w]
    rfl
  refine pure_ (i := 5) (N := some 10) (v := ?_) (a' := ?_) #[true, true, true, false, false, true, false, false, false, false, false, false, false, false, false, false, false, false] rfl rfl (any_of HT_.out (by kernel_rfl)) (fun _ _ _ h => h) (Or.inl ⟨by rfl, ?_⟩) ?_ ?_
  rotate_left
  · intro w'
    go_simp
    with_reducible rfl
  rotate_left
  · simp only [Act.put, List.setIfInBounds_toArray, List.set_cons_zero, List.set_cons_succ, i64_w, i32_w]
    rfl
  refine pure_ (i := 7) (N := some 12) (v := ?_) (a' := ?_) #[true, true, true, false, false, true, false, true, false, false, false, false, false, false, false, false, false, false] rfl rfl (any_of HT_.out (by kernel_rfl)) (fun _ _ _ h => h) (Or.inl ⟨by rfl, ?_⟩) ?_ ?_
  rotate_left
  · intro w'
    go_simp
    with_reducible rfl
  rotate_left
  · simp only [Act.put, List.setIfInBounds_toArray, List.set_cons_zero, List.set_cons_succ, i64_w, i32_w]
    rfl
  refine pure_ (i := 9) (N := some 14) (v := ?_) (a' := ?_) #[true, true, true, false, false, true, false, true, false, true, false, false, false, false, false, false, false, false] rfl rfl (any_of HT_.out (by kernel_rfl)) (fun _ _ _ h => h) (Or.inl ⟨by rfl, ?_⟩) ?_ ?_
  rotate_left
  · intro w'
    go_simp
    with_reducible rfl
  rotate_left
  · simp only [Act.put, List.setIfInBounds_toArray, List.set_cons_zero, List.set_cons_succ, i64_w, i32_w]
    rfl
  refine pure_ (i := 11) (N := some 16) (v := ?_) (a' := ?_) #[true, true, true, false, false, true, false, true, false, true, false, true, false, false, false, false, false, false] rfl rfl (any_of HT_.out (by kernel_rfl)) (fun _ _ _ h => h) (Or.inl ⟨by rfl, ?_⟩) ?_ ?_
  rotate_left
  · intro w'
    go_simp
    with_reducible rfl
  rotate_left
  · simp only [Act.put, List.setIfInBounds_toArray, List.set_cons_zero, List.set_cons_succ, i64_w, i32_w]
    rfl
  refine pure_ (i := 12) (N := some 17) (v := ?_) (a' := ?_) #[true, true, true, false, false, true, false, true, false, true, false, true, true, false, false, false, false, false] rfl rfl (any_of HT_.out (by kernel_rfl)) (fun _ _ _ h => h) (Or.inl ⟨by rfl, ?_⟩) ?_ ?_
  rotate_left
  · intro w'
    go_simp
    with_reducible rfl
  rotate_left
  · simp only [Act.put, List.setIfInBounds_toArray, List.set_cons_zero, List.set_cons_succ, i64_w, i32_w]
    rfl
  refine take_ (i := 3) (N := some 8) (v := ?_) (a' := ?_) #[true, true, true, true, false, true, false, true, false, true, false, true, true, false, false, false, false, false] rfl rfl (take_ofW HT_.out HW_.out (by kernel_rfl)) (fun _ _ _ h => h) (Or.inl ⟨by rfl, ?_⟩) hHeld ?_ ?_
  rotate_left
  · rintro w' ⟨s0, s1, s2, s3, s4, s5⟩
    go_simp
    with_reducible rfl
  rotate_left
  · simp only [Act.put, List.setIfInBounds_toArray, List.set_cons_zero, List.set_cons_succ, i64_w, i32_w]
    rfl
  refine take_ (i := 6) (N := some 11) (v := ?_) (a' := ?_) #[true, true, true, true, false, true, true, true, false, true, false, true, true, false, false, false, false, false] rfl rfl (take_ofW HT_.out HW_.out (by kernel_rfl)) (fun _ _ _ h => h) (Or.inl ⟨by rfl, ?_⟩) hHeld ?_ ?_
  rotate_left
  · rintro w' ⟨s0, s1, s2, s3, s4, s5⟩
    go_simp
    with_reducible rfl
  rotate_left
  · simp only [Act.put, List.setIfInBounds_toArray, List.set_cons_zero, List.set_cons_succ, i64_w, i32_w]
    rfl
  refine take_ (i := 8) (N := some 13) (v := ?_) (a' := ?_) #[true, true, true, true, false, true, true, true, true, true, false, true, true, false, false, false, false, false] rfl rfl (take_ofW HT_.out HW_.out (by kernel_rfl)) (fun _ _ _ h => h) (Or.inl ⟨by rfl, ?_⟩) hHeld ?_ ?_
  rotate_left
  · rintro w' ⟨s0, s1, s2, s3, s4, s5⟩
    go_simp
    with_reducible rfl
  rotate_left
  · simp only [Act.put, List.setIfInBounds_toArray, List.set_cons_zero, List.set_cons_succ, i64_w, i32_w]
    rfl
  refine take_ (i := 10) (N := some 15) (v := ?_) (a' := ?_) #[true, true, true, true, false, true, true, true, true, true, true, true, true, false, false, false, false, false] rfl rfl (take_ofW HT_.out HW_.out (by kernel_rfl)) (fun _ _ _ h => h) (Or.inl ⟨by rfl, ?_⟩) hHeld ?_ ?_
  rotate_left
  · rintro w' ⟨s0, s1, s2, s3, s4, s5⟩
    go_simp
    with_reducible rfl
  rotate_left
  · simp only [Act.put, List.setIfInBounds_toArray, List.set_cons_zero, List.set_cons_succ, i64_w, i32_w]
    rfl
  refine take_ (i := 13) (N := some 18) (v := ?_) (a' := ?_) #[true, true, true, true, false, true, true, true, true, true, true, true, true, true, false, false, false, false] rfl rfl (take_ofW HT_.out HW_.out (by kernel_rfl)) (fun _ _ _ h => h) (Or.inl ⟨by rfl, ?_⟩) hHeld ?_ ?_
  rotate_left
  · rintro w' ⟨s0, s1, s2, s3, s4, s5⟩
    go_simp
    with_reducible rfl
  rotate_left
  · simp only [Act.put, List.setIfInBounds_toArray, List.set_cons_zero, List.set_cons_succ, i64_w, i32_w]
    rfl
  refine one_ (i := 4) (N := some 9) #[true, true, true, true, true, true, true, true, true, true, true, true, true, true, false, false, false, false] rfl rfl (one_of HT_.out (by kernel_rfl)) (by decide) (fun K hK => ?_)
  refine goes_ Tryd.func36 (by kernel_rfl) rfl #[.pointer (some ⟨g, 0, none⟩), .int .i64 a1_0] (by rfl) rfl rfl (by (try simp only [List.map_toArray, List.map_cons, List.map_nil]); first | done | rfl | (simp only [List.length_drop, List.length_take]; rfl)) ?_
  with_reducible refine (digest_Number.calls (hrG := ?sideG) g s0_0 a1_0 t142 t143 w0 _ ?side1 ?side2 A3.out).mono ?_
  (case sideG => (first | (with_reducible exact HRG.out) | exact TabG.below HRG.out (by repeat (first | (with_reducible first | exact HB.out | apply below_alloc | apply pw_below_drewN | apply below_drew1 | refine below_set ?_ (IsS60.ge HI0.out) | refine below_set ?_ GE141.out) | (with_reducible exact Below.refl _ _)))))
  (case side1 => repeat (first | (with_reducible first | exact HI0.out | apply IsS60.alloc | apply IsS60.drewN | apply IsS60.drew | apply IsS60.set_0 | (focus (refine IsS60.far ?_ ?_ _; rotate_left; (focus ((repeat (first | (with_reducible exact Nsty.of BK141.out rfl) | apply Nsty.set | apply Nsty.drewN | apply Nsty.drew | apply Nsty.alloc)); done))))) | exact HI0.out))
  (case side2 => repeat (first | (with_reducible first | exact HB.out | apply below_alloc | apply pw_below_drewN | apply below_drew1 | refine below_set ?_ (IsS60.ge HI0.out) | refine below_set ?_ GE141.out) | exact HB.out))
  rintro e w8 ⟨rfl, hi, hb, hk⟩
  refine ⟨_, rfl, ?_⟩
  have n0_ := Aside0.mk (KeepSt.blk hk (g' := gb141) (o := .cells #[.int .i64 a1_0, .int .i64 a1_1, .int .i64 a1_2, .int .i64 a1_3, .int .i64 a1_4, .int .i64 a1_5] 30 (0, 0)) (by (with_reducible repeat (first | refine blk_drewN ?_ _ | refine blk_drew ?_ | refine blk_alloc ?_ _)); exact BK141.out) NB141_0.out rfl)
  have n1_ := Aside0.mk (KeepSt.trans (by repeat (first | (with_reducible first | exact HK.out | apply KeepSt.drewN | apply KeepSt.drew | apply KeepSt.alloc | refine KeepSt.far ?_ GW141.out _) | exact HK.out)) hk)
  have n2_ := Aside0.mk (hb)
  have n3_ := Aside0.mk (hi)
  clear BK141
  clear HK
  clear HB
  clear HI0
  have BK141 := n0_
  have HK := n1_
  have HB := n2_
  have HI0 := n3_
  clear n0_ n1_ n2_ n3_
  (try clear hb)
  (try clear hb2)
  (try clear hk)
  (try clear hi)
  refine hK.out _ _ ⟨(blk_cell BK141.out 0).trans rfl, (blk_cell BK141.out 1).trans rfl, (blk_cell BK141.out 2).trans rfl, (blk_cell BK141.out 3).trans rfl, (blk_cell BK141.out 4).trans rfl, (blk_cell BK141.out 5).trans rfl⟩ (fun hHeld => ?_)
  clear hK K
  refine norm_ (a' := ?_) ?_ ?_
  rotate_left
  · show Act.put _ (some 9) _ = _
    simp only [Act.put, List.setIfInBounds_toArray, List.set_cons_zero, List.set_cons_succ, i64_w, i32_w]
    rfl
  refine one_ (i := 14) (N := some 19) #[true, true, true, true, true, true, true, true, true, true, true, true, true, true, true, false, false, false] rfl rfl (one_of HT_.out (by kernel_rfl)) (by decide) (fun K hK => ?_)
  refine goes_ Tryd.func36 (by kernel_rfl) rfl #[.pointer (some ⟨g, 0, none⟩), .int .i64 a1_4] (by rfl) rfl rfl (by (try simp only [List.map_toArray, List.map_cons, List.map_nil]); first | done | rfl | (simp only [List.length_drop, List.length_take]; rfl)) ?_
  with_reducible refine (digest_Number.calls (hrG := ?sideG) g t143 a1_4 t144 t145 w0 _ ?side1 ?side2 A4.out).mono ?_
  (case sideG => (first | (with_reducible exact HRG.out) | exact TabG.below HRG.out (by repeat (first | (with_reducible first | exact HB.out | apply below_alloc | apply pw_below_drewN | apply below_drew1 | refine below_set ?_ (IsS60.ge HI0.out) | refine below_set ?_ GE141.out) | (with_reducible exact Below.refl _ _)))))
  (case side1 => repeat (first | (with_reducible first | exact HI0.out | apply IsS60.alloc | apply IsS60.drewN | apply IsS60.drew | apply IsS60.set_0 | (focus (refine IsS60.far ?_ ?_ _; rotate_left; (focus ((repeat (first | (with_reducible exact Nsty.of BK141.out rfl) | apply Nsty.set | apply Nsty.drewN | apply Nsty.drew | apply Nsty.alloc)); done))))) | exact HI0.out))
  (case side2 => repeat (first | (with_reducible first | exact HB.out | apply below_alloc | apply pw_below_drewN | apply below_drew1 | refine below_set ?_ (IsS60.ge HI0.out) | refine below_set ?_ GE141.out) | exact HB.out))
  rintro e w9 ⟨rfl, hi, hb, hk⟩
  refine ⟨_, rfl, ?_⟩
  have n0_ := Aside0.mk (KeepSt.blk hk (g' := gb141) (o := .cells #[.int .i64 a1_0, .int .i64 a1_1, .int .i64 a1_2, .int .i64 a1_3, .int .i64 a1_4, .int .i64 a1_5] 30 (0, 0)) (by (with_reducible repeat (first | refine blk_drewN ?_ _ | refine blk_drew ?_ | refine blk_alloc ?_ _)); exact BK141.out) NB141_0.out rfl)
  have n1_ := Aside0.mk (KeepSt.trans (by repeat (first | (with_reducible first | exact HK.out | apply KeepSt.drewN | apply KeepSt.drew | apply KeepSt.alloc | refine KeepSt.far ?_ GW141.out _) | exact HK.out)) hk)
  have n2_ := Aside0.mk (hb)
  have n3_ := Aside0.mk (hi)
  clear BK141
  clear HK
  clear HB
  clear HI0
  have BK141 := n0_
  have HK := n1_
  have HB := n2_
  have HI0 := n3_
  clear n0_ n1_ n2_ n3_
  (try clear hb)
  (try clear hb2)
  (try clear hk)
  (try clear hi)
  refine hK.out _ _ ⟨(blk_cell BK141.out 0).trans rfl, (blk_cell BK141.out 1).trans rfl, (blk_cell BK141.out 2).trans rfl, (blk_cell BK141.out 3).trans rfl, (blk_cell BK141.out 4).trans rfl, (blk_cell BK141.out 5).trans rfl⟩ (fun hHeld => ?_)
  clear hK K
  refine norm_ (a' := ?_) ?_ ?_
  rotate_left
  · show Act.put _ (some 19) _ = _
    simp only [Act.put, List.setIfInBounds_toArray, List.set_cons_zero, List.set_cons_succ, i64_w, i32_w]
    rfl
  refine one_ (i := 15) (N := some 20) #[true, true, true, true, true, true, true, true, true, true, true, true, true, true, true, true, false, false] rfl rfl (one_of HT_.out (by kernel_rfl)) (by decide) (fun K hK => ?_)
  refine Kd.R_lit_step (Kd.int .i64) _ 3 ?hg (N := 20) ?hd (xs := ([t142, a1_1, a1_2, a1_3, t144] : List Int)) (inner := [.int .i64 t142, .int .i64 a1_1, .int .i64 a1_2, .int .i64 a1_3, .int .i64 t144]) (ok := fun _ => True) (okp := fun _ => True) ?hr ?hp (fun _ hk => hk) trivial (Below.refl _ _) (Nat.le_refl _) (by simp) ?_; (case hd => rfl); (case hg => rfl); (case hr => first | (go_simp; done) | (go_simp; rfl)); (case hp => exact (Reps.one (show Kd.M (Kd.int .i64) _ _ _ t142 [.int .i64 t142] from rfl) (Reps.one (show Kd.M (Kd.int .i64) _ _ _ a1_1 [.int .i64 a1_1] from rfl) (Reps.one (show Kd.M (Kd.int .i64) _ _ _ a1_2 [.int .i64 a1_2] from rfl) (Reps.one (show Kd.M (Kd.int .i64) _ _ _ a1_3 [.int .i64 a1_3] from rfl) (Reps.one (show Kd.M (Kd.int .i64) _ _ _ t144 [.int .i64 t144] from rfl) (Reps.none _ _)))))))
  intro v147 w10 ho11 hb hg_ hnew_
  clear hg_ hnew_
  (first | rw [← Ny146.out] at ho11 | (simp only [Int.reduceToNat] at ho11; rw [← Ny146.out] at ho11))
  have n0_ := Aside0.mk (Kd.R_lower ho11 (KeepSt.size (w := w) (w0 := w0) (by repeat (first | (with_reducible first | exact HK.out | apply KeepSt.drewN | apply KeepSt.drew | apply KeepSt.alloc | refine KeepSt.far ?_ GW141.out _) | exact HK.out))))
  have n1_ := Aside0.mk (IsS60.below (by repeat (first | (with_reducible first | exact HI0.out | apply IsS60.alloc | apply IsS60.drewN | apply IsS60.drew | apply IsS60.set_0 | (focus (refine IsS60.far ?_ ?_ _; rotate_left; (focus ((repeat (first | (with_reducible exact Nsty.of BK141.out rfl) | apply Nsty.set | apply Nsty.drewN | apply Nsty.drew | apply Nsty.alloc)); done))))) | exact HI0.out)) hb)
  have n2_ := Aside0.mk (blk_below (g := gb141) (o := .cells #[.int .i64 a1_0, .int .i64 a1_1, .int .i64 a1_2, .int .i64 a1_3, .int .i64 a1_4, .int .i64 a1_5] 30 (0, 0)) (by (with_reducible repeat (first | refine blk_drewN ?_ _ | refine blk_drew ?_ | refine blk_alloc ?_ _)); exact BK141.out) hb)
  have n3_ := Aside0.mk (KeepSt.trans (by repeat (first | (with_reducible first | exact HK.out | apply KeepSt.drewN | apply KeepSt.drew | apply KeepSt.alloc | refine KeepSt.far ?_ GW141.out _) | exact HK.out)) (KeepSt.of_below hb w0))
  have n4_ := Aside0.mk (below_step (by repeat (first | (with_reducible first | exact HB.out | apply below_alloc | apply pw_below_drewN | apply below_drew1 | refine below_set ?_ (IsS60.ge HI0.out) | refine below_set ?_ GE141.out) | exact HB.out)) hb)
  clear HI0
  clear BK141
  clear HK
  clear HB
  have HO148 := n0_
  have HI0 := n1_
  have BK141 := n2_
  have HK := n3_
  have HB := n4_
  clear n0_ n1_ n2_ n3_ n4_
  clear hb ho11
  obtain ⟨Ao12, co12, eo12⟩ := Kd.R_slice HO148.out
  (first | subst eo12 | (injection eo12 with f1_ f2_ f3_; have f4_ := f1_.symm; have f5_ := f3_.symm; clear f1_ f2_ f3_; subst f4_; subst f5_))
  refine hK.out _ _ ⟨(blk_cell BK141.out 0).trans rfl, (blk_cell BK141.out 1).trans rfl, (blk_cell BK141.out 2).trans rfl, (blk_cell BK141.out 3).trans rfl, (blk_cell BK141.out 4).trans rfl, (blk_cell BK141.out 5).trans rfl⟩ (fun hHeld => ?_)
  clear hK K
  refine norm_ (a' := ?_) ?_ ?_
  rotate_left
  · show Act.put _ (some 20) _ = _
    simp only [Act.put, List.setIfInBounds_toArray, List.set_cons_zero, List.set_cons_succ, i64_w, i32_w]
    rfl
  refine one_ (i := 16) (N := some 21) #[true, true, true, true, true, true, true, true, true, true, true, true, true, true, true, true, true, false] rfl rfl (one_of HT_.out (by kernel_rfl)) (by decide) (fun K hK => ?_)
  refine goes_ Tryd.func33 (by kernel_rfl) rfl #[.pointer (some ⟨g, 0, none⟩), .slice Ao12 y146.length co12] (by rfl) rfl rfl (by (try simp only [List.map_toArray, List.map_cons, List.map_nil]); first | done | rfl | (simp only [List.length_drop, List.length_take]; rfl)) ?_
  with_reducible refine (term_Store_List.calls k g t145 _ _ y146 t149 t150 w0 _ ?side1 ?side2 ?side3 ?side4 ?side5 A5.out).mono ?_
  (case side1 => repeat (first | (with_reducible first | exact HI0.out | apply IsS60.alloc | apply IsS60.drewN | apply IsS60.drew | apply IsS60.set_0 | (focus (refine IsS60.far ?_ ?_ _; rotate_left; (focus ((repeat (first | (with_reducible exact Nsty.of BK141.out rfl) | apply Nsty.set | apply Nsty.drewN | apply Nsty.drew | apply Nsty.alloc)); done))))) | exact HI0.out))
  (case side2 => repeat (first | (with_reducible first | exact HB.out | apply below_alloc | apply pw_below_drewN | apply below_drew1 | refine below_set ?_ (IsS60.ge HI0.out) | refine below_set ?_ GE141.out) | exact HB.out))
  (case side3 => repeat (first | exact (Kd.R_reads' HO148.out).2.2 | (with_reducible refine Kd.C_alloc ?_ _) | (with_reducible refine Kd.C_drewN ?_ _) | (with_reducible refine Kd.C_drew ?_)))
  (case side4 => exact (Kd.R_reads' HO148.out).2.1)
  (case side5 => exact Kd.far_R (by (with_reducible repeat (first | apply Kd.R_alloc | apply Kd.R_drewN | apply Kd.R_drew)); exact HO148.out) (by decide))
  rintro e w13 ⟨rfl, hi, hb, hk⟩
  refine ⟨_, rfl, ?_⟩
  have n0_ := Aside0.mk (KeepSt.blk hk (g' := gb141) (o := .cells #[.int .i64 a1_0, .int .i64 a1_1, .int .i64 a1_2, .int .i64 a1_3, .int .i64 a1_4, .int .i64 a1_5] 30 (0, 0)) (by (with_reducible repeat (first | refine blk_drewN ?_ _ | refine blk_drew ?_ | refine blk_alloc ?_ _)); exact BK141.out) NB141_0.out rfl)
  have n1_ := Aside0.mk (Kd.R_mono (Kd.R_keepSt (IsS60.apart (show IsS60 w0 _ g t145 from by repeat (first | (with_reducible first | exact HI0.out | apply IsS60.alloc | apply IsS60.drewN | apply IsS60.drew | apply IsS60.set_0 | (focus (refine IsS60.far ?_ ?_ _; rotate_left; (focus ((repeat (first | (with_reducible exact Nsty.of BK141.out rfl) | apply Nsty.set | apply Nsty.drewN | apply Nsty.drew | apply Nsty.alloc)); done))))) | exact HI0.out)) (by (with_reducible repeat (first | apply Kd.R_alloc | apply Kd.R_drewN | apply Kd.R_drew)); exact HO148.out) (by decide)) hk (fun _ h => h.2)) (fun _ h => h.1))
  have n2_ := Aside0.mk (KeepSt.trans (by repeat (first | (with_reducible first | exact HK.out | apply KeepSt.drewN | apply KeepSt.drew | apply KeepSt.alloc | refine KeepSt.far ?_ GW141.out _) | exact HK.out)) hk)
  have n3_ := Aside0.mk (hb)
  have n4_ := Aside0.mk (hi)
  clear BK141
  clear HO148
  clear HK
  clear HB
  clear HI0
  have BK141 := n0_
  have HO148 := n1_
  have HK := n2_
  have HB := n3_
  have HI0 := n4_
  clear n0_ n1_ n2_ n3_ n4_
  (try clear hb)
  (try clear hb2)
  (try clear hk)
  (try clear hi)
  refine hK.out _ _ ⟨(blk_cell BK141.out 0).trans rfl, (blk_cell BK141.out 1).trans rfl, (blk_cell BK141.out 2).trans rfl, (blk_cell BK141.out 3).trans rfl, (blk_cell BK141.out 4).trans rfl, (blk_cell BK141.out 5).trans rfl⟩ (fun hHeld => ?_)
  clear hK K
  refine norm_ (a' := ?_) ?_ ?_
  rotate_left
  · show Act.put _ (some 21) _ = _
    simp only [Act.put, List.setIfInBounds_toArray, List.set_cons_zero, List.set_cons_succ, i64_w, i32_w]
    rfl
  refine pure_ (i := 17) (N := some 4) (v := ?_) (a' := ?_) #[true, true, true, true, true, true, true, true, true, true, true, true, true, true, true, true, true, true] rfl rfl (any_of HT_.out (by kernel_rfl)) (fun _ _ _ h => h) (Or.inl ⟨by rfl, ?_⟩) ?_ ?_
  rotate_left
  · intro w'
    go_simp
    with_reducible rfl
  rotate_left
  · simp only [Act.put, List.setIfInBounds_toArray, List.set_cons_zero, List.set_cons_succ, i64_w, i32_w]
    rfl
  refine done_ (done_of HT_.out (by kernel_rfl)) ?_
  try go_wp2
  go_ret
  exact ⟨by first | rfl | (simp [errW_none, errW_some] <;> rfl) | (simp [*, errW_none, errW_some] <;> rfl), by repeat (first | (with_reducible first | exact HI0.out | apply IsS60.alloc | apply IsS60.drewN | apply IsS60.drew | apply IsS60.set_0 | (focus (refine IsS60.far ?_ ?_ _; rotate_left; (focus ((repeat (first | (with_reducible exact Nsty.of BK141.out rfl) | apply Nsty.set | apply Nsty.drewN | apply Nsty.drew | apply Nsty.alloc)); done))))) | exact HI0.out), by repeat (first | (with_reducible first | exact HB.out | apply below_alloc | apply pw_below_drewN | apply below_drew1 | refine below_set ?_ (IsS60.ge HI0.out) | refine below_set ?_ GE141.out) | exact HB.out), by repeat (first | (with_reducible first | exact HK.out | apply KeepSt.drewN | apply KeepSt.drew | apply KeepSt.alloc | refine KeepSt.far ?_ GW141.out _) | exact HK.out)⟩
def card_Make.f (k : Nat) (s0_0 : TS) (a1 : Int) (a2 : Int) (a3 : Int) (a4 : Int) (a5 : Int) : Option (Int × Int × Int × Int × Int × Int × TS) := (term_Store_Pub.f s0_0 a3).bind fun bt152 => ((term_Store_Pub.f bt152.2 a4).bind fun bt154 => ((term_Store_Pub.f bt154.2 a2).bind fun bt156 => ((card_Body.f k bt156.2 a1 bt152.1 bt154.1 bt156.1 a5 0).bind fun bt159 => ((term_Store_Hash.f bt159.2 (⟨#[99, 97, 114, 100]⟩ : ByteArray) bt159.1).bind fun bt161 => ((term_Store_Sign.f bt161.2 a2 bt161.1).bind fun bt163 => (some (a1, bt152.1, bt154.1, bt156.1, a5, bt163.1, bt163.2)))))))
theorem card_Make.mono : ∀ a0 a1 a2 a3 a4 a5 k, LeO (card_Make.f k a0 a1 a2 a3 a4 a5) (card_Make.f (k + 1) a0 a1 a2 a3 a4 a5) := by
  intro a0 a1 a2 a3 a4 a5 k
  unfold card_Make.f
  repeat' first
      | (with_reducible exact card_Body.mono _ _ _ _ _ _ _ _)
      | (with_reducible exact LeO.refl _)
      | (with_reducible exact LeO.none _)
      | (with_reducible refine LeO.ite ?_ ?_)
      | (with_reducible refine LeO.bind ?_ (fun _ => ?_))
      | exact card_Body.mono _ _ _ _ _ _ _ _
      | exact LeO.none _
      | refine LeO.ite ?_ ?_
      | refine LeO.bind ?_ (fun _ => ?_)
set_option maxHeartbeats 8000000 in
set_option maxRecDepth 100000 in
theorem card_Make.calls (k : Nat) (g : Nat) (s0_0 : TS) (a1 : Int) (a2 : Int) (a3 : Int) (a4 : Int) (a5 : Int) (r1 : Int) (r2 : Int) (r3 : Int) (r4 : Int) (r5 : Int) (r6 : Int) (r7 : TS) (w0 w : World) (hrG : TabG w0) (hI : IsS60 w0 w g s0_0) (hB : Below w0.heap.size w0 w) (h : card_Make.f k s0_0 a1 a2 a3 a4 a5 = some (r1, r2, r3, r4, r5, r6, r7)) :
    Calls Tryd.prog 10 #[.pointer (some ⟨g, 0, none⟩), .int .i64 a1, .int .i64 a2, .int .i64 a3, .int .i64 a4, .int .i64 a5] w fun e w' => e = .returned (.agg #[.int .i64 r1, .int .i64 r2, .int .i64 r3, .int .i64 r4, .int .i64 r5, .int .i64 r6]) ∧ IsS60 w0 w' g r7 ∧ Below w0.heap.size w0 w' ∧ KeepSt w w' w0 := by
  have HRG := Aside0.mk hrG
  clear hrG
  have hu30 := Tryd.underlying30
  have HI0 := Aside0.mk hI
  have HK := Aside0.mk (KeepSt.refl w w0)
  have HL := Aside0.mk hB.size
  clear hI
  have HW0 := Aside0.mk hB.size
  have HB := Aside0.mk hB
  clear hB
  have H : ((term_Store_Pub.f s0_0 a3).bind fun bt152 => ((term_Store_Pub.f bt152.2 a4).bind fun bt154 => ((term_Store_Pub.f bt154.2 a2).bind fun bt156 => ((card_Body.f k bt156.2 a1 bt152.1 bt154.1 bt156.1 a5 0).bind fun bt159 => ((term_Store_Hash.f bt159.2 (⟨#[99, 97, 114, 100]⟩ : ByteArray) bt159.1).bind fun bt161 => ((term_Store_Sign.f bt161.2 a2 bt161.1).bind fun bt163 => (some (a1, bt152.1, bt154.1, bt156.1, a5, bt163.1, bt163.2)))))))) = some (r1, r2, r3, r4, r5, r6, r7) := h
  clear h
  replace H := Option.bind_eq_some_iff.mp H
  obtain ⟨⟨t152, t153⟩, A70, H⟩ := H
  replace H : ((term_Store_Pub.f t153 a4).bind fun bt154 => ((term_Store_Pub.f bt154.2 a2).bind fun bt156 => ((card_Body.f k bt156.2 a1 t152 bt154.1 bt156.1 a5 0).bind fun bt159 => ((term_Store_Hash.f bt159.2 (⟨#[99, 97, 114, 100]⟩ : ByteArray) bt159.1).bind fun bt161 => ((term_Store_Sign.f bt161.2 a2 bt161.1).bind fun bt163 => (some (a1, t152, bt154.1, bt156.1, a5, bt163.1, bt163.2))))))) = some (r1, r2, r3, r4, r5, r6, r7) := H
  have A7 := Aside0.mk A70
  clear A70
  replace H := Option.bind_eq_some_iff.mp H
  obtain ⟨⟨t154, t155⟩, A80, H⟩ := H
  replace H : ((term_Store_Pub.f t155 a2).bind fun bt156 => ((card_Body.f k bt156.2 a1 t152 t154 bt156.1 a5 0).bind fun bt159 => ((term_Store_Hash.f bt159.2 (⟨#[99, 97, 114, 100]⟩ : ByteArray) bt159.1).bind fun bt161 => ((term_Store_Sign.f bt161.2 a2 bt161.1).bind fun bt163 => (some (a1, t152, t154, bt156.1, a5, bt163.1, bt163.2)))))) = some (r1, r2, r3, r4, r5, r6, r7) := H
  have A8 := Aside0.mk A80
  clear A80
  replace H := Option.bind_eq_some_iff.mp H
  obtain ⟨⟨t156, t157⟩, A90, H⟩ := H
  replace H : ((card_Body.f k t157 a1 t152 t154 t156 a5 0).bind fun bt159 => ((term_Store_Hash.f bt159.2 (⟨#[99, 97, 114, 100]⟩ : ByteArray) bt159.1).bind fun bt161 => ((term_Store_Sign.f bt161.2 a2 bt161.1).bind fun bt163 => (some (a1, t152, t154, t156, a5, bt163.1, bt163.2))))) = some (r1, r2, r3, r4, r5, r6, r7) := H
  have A9 := Aside0.mk A90
  clear A90
  replace H := Option.bind_eq_some_iff.mp H
  obtain ⟨⟨t159, t160⟩, A100, H⟩ := H
  replace H : ((term_Store_Hash.f t160 (⟨#[99, 97, 114, 100]⟩ : ByteArray) t159).bind fun bt161 => ((term_Store_Sign.f bt161.2 a2 bt161.1).bind fun bt163 => (some (a1, t152, t154, t156, a5, bt163.1, bt163.2)))) = some (r1, r2, r3, r4, r5, r6, r7) := H
  have A10 := Aside0.mk A100
  clear A100
  replace H := Option.bind_eq_some_iff.mp H
  obtain ⟨⟨t161, t162⟩, A110, H⟩ := H
  replace H : ((term_Store_Sign.f t162 a2 t161).bind fun bt163 => (some (a1, t152, t154, t156, a5, bt163.1, bt163.2))) = some (r1, r2, r3, r4, r5, r6, r7) := H
  have A11 := Aside0.mk A110
  clear A110
  replace H := Option.bind_eq_some_iff.mp H
  obtain ⟨⟨t163, t164⟩, A120, H⟩ := H
  replace H : (some (a1, t152, t154, t156, a5, t163, t164)) = some (r1, r2, r3, r4, r5, r6, r7) := H
  have A12 := Aside0.mk A120
  clear A120
  simp only [Option.some.injEq, Prod.mk.injEq] at H
  obtain ⟨rfl, rfl, rfl, rfl, rfl, rfl, rfl⟩ := H
  go_enter Tryd.func10, Tryd.ntmps10
  go_wp2_with (first | ((with_reducible refine gate_dst (N := 12) rfl ?_); refine box_event ?hg (N := 12) ?hd (cs := #[.int .i64 0, .int .i64 0, .int .i64 0, .int .i64 0, .int .i64 0, .int .i64 0]) (t := 30) ?hr ?_; (case hd => rfl); (case hg => rfl); (case hr => first | (go_simp; done) | (go_simp; rfl)); intro gb151 hg w13 hbox hb; have n0_ := Aside0.mk (IsS60.below (by repeat (first | (with_reducible first | exact HI0.out | apply IsS60.alloc | apply IsS60.drewN | apply IsS60.drew | apply IsS60.set_0) | exact HI0.out)) hb); have n1_ := Aside0.mk (KeepSt.trans (by repeat (first | (with_reducible first | exact HK.out | apply KeepSt.drewN | apply KeepSt.drew | apply KeepSt.alloc) | exact HK.out)) (KeepSt.of_below hb w0)); have n2_ := Aside0.mk (below_step (by repeat (first | (with_reducible first | exact HB.out | apply below_alloc | apply pw_below_drewN | apply below_drew1 | refine below_set ?_ (IsS60.ge HI0.out)) | exact HB.out)) hb); have n3_ := Aside0.mk (hbox); have n4_ := Aside0.mk ((by rw [hg]; exact (KeepSt.size (w := w) (w0 := w0) (by repeat (first | (with_reducible first | exact HK.out | apply KeepSt.drewN | apply KeepSt.drew | apply KeepSt.alloc) | exact HK.out))) : w.heap.size ≤ gb151)); have n5_ := Aside0.mk ((Nat.le_trans HW0.out (by rw [hg]; exact (KeepSt.size (w := w) (w0 := w0) (by repeat (first | (with_reducible first | exact HK.out | apply KeepSt.drewN | apply KeepSt.drew | apply KeepSt.alloc) | exact HK.out))) : w.heap.size ≤ gb151) : w0.heap.size ≤ gb151)); have n6_ := Aside0.mk ((by rw [hg]; exact Nat.ne_of_lt (IsS60.lt (show IsS60 w0 _ g s0_0 from by repeat (first | (with_reducible first | exact HI0.out | apply IsS60.alloc | apply IsS60.drewN | apply IsS60.drew | apply IsS60.set_0) | exact HI0.out))) : g ≠ gb151)); have n7_ := Aside0.mk ((by rw [hg]; exact Nat.ne_of_gt (IsS60.lt (show IsS60 w0 _ g s0_0 from by repeat (first | (with_reducible first | exact HI0.out | apply IsS60.alloc | apply IsS60.drewN | apply IsS60.drew | apply IsS60.set_0) | exact HI0.out))) : gb151 ≠ g)); clear HI0; clear HK; clear HB; have HI0 := n0_; have HK := n1_; have HB := n2_; have BK151 := n3_; have GW151 := n4_; have GE151 := n5_; have NB0_151 := n6_; have NB151_0 := n7_; clear n0_ n1_ n2_ n3_ n4_ n5_ n6_ n7_; clear hb hbox hg) | ((with_reducible refine gate_callee (f := 9) rfl ?_); refine goesL_ (some 17) rfl rfl Tryd.func9 (by kernel_rfl) rfl #[.pointer (some ⟨g, 0, none⟩), .int .i64 a3] rfl (by (try simp only [List.map_toArray, List.map_cons, List.map_nil]); first | done | rfl | (simp only [List.length_drop, List.length_take]; rfl)) ?_; (with_reducible refine (term_Store_Pub.calls g s0_0 a3 t152 t153 w0 _ ?side1 ?side2 A7.out).mono ?_); (case side1 => repeat (first | (with_reducible first | exact HI0.out | apply IsS60.alloc | apply IsS60.drewN | apply IsS60.drew | apply IsS60.set_0 | (focus (refine IsS60.far ?_ ?_ _; rotate_left; (focus ((repeat (first | (with_reducible exact Nsty.of BK151.out rfl) | apply Nsty.set | apply Nsty.drewN | apply Nsty.drew | apply Nsty.alloc)); done))))) | exact HI0.out)); (case side2 => repeat (first | (with_reducible first | exact HB.out | apply below_alloc | apply pw_below_drewN | apply below_drew1 | refine below_set ?_ (IsS60.ge HI0.out) | refine below_set ?_ GE151.out) | exact HB.out)); rintro e w14 ⟨rfl, hi, hb, hk⟩; refine ⟨_, rfl, ?_⟩; have n0_ := Aside0.mk (KeepSt.blk hk (g' := gb151) (o := .cells #[.int .i64 0, .int .i64 0, .int .i64 0, .int .i64 0, .int .i64 0, .int .i64 0] 30 (0, 0)) (by (with_reducible repeat (first | refine blk_drewN ?_ _ | refine blk_drew ?_ | refine blk_alloc ?_ _)); exact BK151.out) NB151_0.out rfl); have n1_ := Aside0.mk (KeepSt.trans (by repeat (first | (with_reducible first | exact HK.out | apply KeepSt.drewN | apply KeepSt.drew | apply KeepSt.alloc | refine KeepSt.far ?_ GW151.out _) | exact HK.out)) hk); have n2_ := Aside0.mk (hb); have n3_ := Aside0.mk (hi); clear BK151; clear HK; clear HB; clear HI0; have BK151 := n0_; have HK := n1_; have HB := n2_; have HI0 := n3_; clear n0_ n1_ n2_ n3_; (try clear hb); (try clear hb2); (try clear hk); (try clear hi)) | ((with_reducible refine gate_callee (f := 9) rfl ?_); refine goesL_ (some 20) rfl rfl Tryd.func9 (by kernel_rfl) rfl #[.pointer (some ⟨g, 0, none⟩), .int .i64 a4] rfl (by (try simp only [List.map_toArray, List.map_cons, List.map_nil]); first | done | rfl | (simp only [List.length_drop, List.length_take]; rfl)) ?_; (with_reducible refine (term_Store_Pub.calls g t153 a4 t154 t155 w0 _ ?side1 ?side2 A8.out).mono ?_); (case side1 => repeat (first | (with_reducible first | exact HI0.out | apply IsS60.alloc | apply IsS60.drewN | apply IsS60.drew | apply IsS60.set_0 | (focus (refine IsS60.far ?_ ?_ _; rotate_left; (focus ((repeat (first | (with_reducible exact Nsty.of BK151.out rfl) | apply Nsty.set | apply Nsty.drewN | apply Nsty.drew | apply Nsty.alloc)); done))))) | exact HI0.out)); (case side2 => repeat (first | (with_reducible first | exact HB.out | apply below_alloc | apply pw_below_drewN | apply below_drew1 | refine below_set ?_ (IsS60.ge HI0.out) | refine below_set ?_ GE151.out) | exact HB.out)); rintro e w15 ⟨rfl, hi, hb, hk⟩; refine ⟨_, rfl, ?_⟩; have n0_ := Aside0.mk (KeepSt.blk hk (g' := gb151) (o := .cells #[.int .i64 0, .int .i64 0, .int .i64 0, .int .i64 0, .int .i64 0, .int .i64 0] 30 (0, 0)) (by (with_reducible repeat (first | refine blk_drewN ?_ _ | refine blk_drew ?_ | refine blk_alloc ?_ _)); exact BK151.out) NB151_0.out rfl); have n1_ := Aside0.mk (KeepSt.trans (by repeat (first | (with_reducible first | exact HK.out | apply KeepSt.drewN | apply KeepSt.drew | apply KeepSt.alloc | refine KeepSt.far ?_ GW151.out _) | exact HK.out)) hk); have n2_ := Aside0.mk (hb); have n3_ := Aside0.mk (hi); clear BK151; clear HK; clear HB; clear HI0; have BK151 := n0_; have HK := n1_; have HB := n2_; have HI0 := n3_; clear n0_ n1_ n2_ n3_; (try clear hb); (try clear hb2); (try clear hk); (try clear hi)) | ((with_reducible refine gate_callee (f := 9) rfl ?_); refine goesL_ (some 23) rfl rfl Tryd.func9 (by kernel_rfl) rfl #[.pointer (some ⟨g, 0, none⟩), .int .i64 a2] rfl (by (try simp only [List.map_toArray, List.map_cons, List.map_nil]); first | done | rfl | (simp only [List.length_drop, List.length_take]; rfl)) ?_; (with_reducible refine (term_Store_Pub.calls g t155 a2 t156 t157 w0 _ ?side1 ?side2 A9.out).mono ?_); (case side1 => repeat (first | (with_reducible first | exact HI0.out | apply IsS60.alloc | apply IsS60.drewN | apply IsS60.drew | apply IsS60.set_0 | (focus (refine IsS60.far ?_ ?_ _; rotate_left; (focus ((repeat (first | (with_reducible exact Nsty.of BK151.out rfl) | apply Nsty.set | apply Nsty.drewN | apply Nsty.drew | apply Nsty.alloc)); done))))) | exact HI0.out)); (case side2 => repeat (first | (with_reducible first | exact HB.out | apply below_alloc | apply pw_below_drewN | apply below_drew1 | refine below_set ?_ (IsS60.ge HI0.out) | refine below_set ?_ GE151.out) | exact HB.out)); rintro e w16 ⟨rfl, hi, hb, hk⟩; refine ⟨_, rfl, ?_⟩; have n0_ := Aside0.mk (KeepSt.blk hk (g' := gb151) (o := .cells #[.int .i64 0, .int .i64 0, .int .i64 0, .int .i64 0, .int .i64 0, .int .i64 0] 30 (0, 0)) (by (with_reducible repeat (first | refine blk_drewN ?_ _ | refine blk_drew ?_ | refine blk_alloc ?_ _)); exact BK151.out) NB151_0.out rfl); have n1_ := Aside0.mk (KeepSt.trans (by repeat (first | (with_reducible first | exact HK.out | apply KeepSt.drewN | apply KeepSt.drew | apply KeepSt.alloc | refine KeepSt.far ?_ GW151.out _) | exact HK.out)) hk); have n2_ := Aside0.mk (hb); have n3_ := Aside0.mk (hi); clear BK151; clear HK; clear HB; clear HI0; have BK151 := n0_; have HK := n1_; have HB := n2_; have HI0 := n3_; clear n0_ n1_ n2_ n3_; (try clear hb); (try clear hb2); (try clear hk); (try clear hi)) | ((with_reducible refine gate_dst (N := 13) rfl ?_); refine box_event ?hg (N := 13) ?hd (cs := #[.int .i64 0, .int .i64 0, .int .i64 0, .int .i64 0, .int .i64 0, .int .i64 0]) (t := 30) ?hr ?_; (case hd => rfl); (case hg => rfl); (case hr => first | (go_simp; done) | (go_simp; rfl)); intro gb158 hg w17 hbox hb; have n0_ := Aside0.mk (IsS60.below (by repeat (first | (with_reducible first | exact HI0.out | apply IsS60.alloc | apply IsS60.drewN | apply IsS60.drew | apply IsS60.set_0 | (focus (refine IsS60.far ?_ ?_ _; rotate_left; (focus ((repeat (first | (with_reducible exact Nsty.of BK151.out rfl) | apply Nsty.set | apply Nsty.drewN | apply Nsty.drew | apply Nsty.alloc)); done))))) | exact HI0.out)) hb); have n1_ := Aside0.mk (blk_below (g := gb151) (o := .cells #[.int .i64 0, .int .i64 0, .int .i64 0, .int .i64 0, .int .i64 0, .int .i64 0] 30 (0, 0)) (by (with_reducible repeat (first | refine blk_drewN ?_ _ | refine blk_drew ?_ | refine blk_alloc ?_ _)); exact BK151.out) hb); have n2_ := Aside0.mk (KeepSt.trans (by repeat (first | (with_reducible first | exact HK.out | apply KeepSt.drewN | apply KeepSt.drew | apply KeepSt.alloc | refine KeepSt.far ?_ GW151.out _) | exact HK.out)) (KeepSt.of_below hb w0)); have n3_ := Aside0.mk (below_step (by repeat (first | (with_reducible first | exact HB.out | apply below_alloc | apply pw_below_drewN | apply below_drew1 | refine below_set ?_ (IsS60.ge HI0.out) | refine below_set ?_ GE151.out) | exact HB.out)) hb); have n4_ := Aside0.mk (hbox); have n5_ := Aside0.mk ((by rw [hg]; exact (KeepSt.size (w := w) (w0 := w0) (by repeat (first | (with_reducible first | exact HK.out | apply KeepSt.drewN | apply KeepSt.drew | apply KeepSt.alloc | refine KeepSt.far ?_ GW151.out _) | exact HK.out))) : w.heap.size ≤ gb158)); have n6_ := Aside0.mk ((Nat.le_trans HW0.out (by rw [hg]; exact (KeepSt.size (w := w) (w0 := w0) (by repeat (first | (with_reducible first | exact HK.out | apply KeepSt.drewN | apply KeepSt.drew | apply KeepSt.alloc | refine KeepSt.far ?_ GW151.out _) | exact HK.out))) : w.heap.size ≤ gb158) : w0.heap.size ≤ gb158)); have n7_ := Aside0.mk ((by rw [hg]; exact Nat.ne_of_lt (blk_lt (g := gb151) (o := .cells #[.int .i64 0, .int .i64 0, .int .i64 0, .int .i64 0, .int .i64 0, .int .i64 0] 30 (0, 0)) (by (with_reducible repeat (first | refine blk_drewN ?_ _ | refine blk_drew ?_ | refine blk_alloc ?_ _)); exact BK151.out)) : gb151 ≠ gb158)); have n8_ := Aside0.mk ((by rw [hg]; exact Nat.ne_of_gt (blk_lt (g := gb151) (o := .cells #[.int .i64 0, .int .i64 0, .int .i64 0, .int .i64 0, .int .i64 0, .int .i64 0] 30 (0, 0)) (by (with_reducible repeat (first | refine blk_drewN ?_ _ | refine blk_drew ?_ | refine blk_alloc ?_ _)); exact BK151.out)) : gb158 ≠ gb151)); have n9_ := Aside0.mk ((by rw [hg]; exact Nat.ne_of_lt (IsS60.lt (show IsS60 w0 _ g t157 from by repeat (first | (with_reducible first | exact HI0.out | apply IsS60.alloc | apply IsS60.drewN | apply IsS60.drew | apply IsS60.set_0 | (focus (refine IsS60.far ?_ ?_ _; rotate_left; (focus ((repeat (first | (with_reducible exact Nsty.of BK151.out rfl) | apply Nsty.set | apply Nsty.drewN | apply Nsty.drew | apply Nsty.alloc)); done))))) | exact HI0.out))) : g ≠ gb158)); have n10_ := Aside0.mk ((by rw [hg]; exact Nat.ne_of_gt (IsS60.lt (show IsS60 w0 _ g t157 from by repeat (first | (with_reducible first | exact HI0.out | apply IsS60.alloc | apply IsS60.drewN | apply IsS60.drew | apply IsS60.set_0 | (focus (refine IsS60.far ?_ ?_ _; rotate_left; (focus ((repeat (first | (with_reducible exact Nsty.of BK151.out rfl) | apply Nsty.set | apply Nsty.drewN | apply Nsty.drew | apply Nsty.alloc)); done))))) | exact HI0.out))) : gb158 ≠ g)); clear HI0; clear BK151; clear HK; clear HB; have HI0 := n0_; have BK151 := n1_; have HK := n2_; have HB := n3_; have BK158 := n4_; have GW158 := n5_; have GE158 := n6_; have NB151_158 := n7_; have NB158_151 := n8_; have NB0_158 := n9_; have NB158_0 := n10_; clear n0_ n1_ n2_ n3_ n4_ n5_ n6_ n7_ n8_ n9_ n10_; clear hb hbox hg; have hnb18 := NB158_151.out; have hnc18 := NB151_158.out; have hnb19 := NB158_0.out; have hnc19 := NB0_158.out; have hcz20_0 : w17.cell? ⟨gb158, 0, none⟩ = some (.int .i64 0) := (blk_cell BK158.out 0).trans rfl; have hcz20_1 : w17.cell? ⟨gb158, 1, none⟩ = some (.int .i64 0) := (blk_cell BK158.out 1).trans rfl; have hcz20_2 : w17.cell? ⟨gb158, 2, none⟩ = some (.int .i64 0) := (blk_cell BK158.out 2).trans rfl; have hcz20_3 : w17.cell? ⟨gb158, 3, none⟩ = some (.int .i64 0) := (blk_cell BK158.out 3).trans rfl; have hcz20_4 : w17.cell? ⟨gb158, 4, none⟩ = some (.int .i64 0) := (blk_cell BK158.out 4).trans rfl; have hcz20_5 : w17.cell? ⟨gb158, 5, none⟩ = some (.int .i64 0) := (blk_cell BK158.out 5).trans rfl; have hfz20_0 := blk_frozen BK158.out 0; have hfz20_1 := blk_frozen BK158.out 1; have hfz20_2 := blk_frozen BK158.out 2; have hfz20_3 := blk_frozen BK158.out 3; have hfz20_4 := blk_frozen BK158.out 4; have hfz20_5 := blk_frozen BK158.out 5) | ((with_reducible refine gate_callee (f := 25) rfl ?_); refine goesL_ (some 31) rfl rfl Tryd.func25 (by kernel_rfl) rfl #[.pointer (some ⟨g, 0, none⟩), .agg #[.int .i64 a1, .int .i64 t152, .int .i64 t154, .int .i64 t156, .int .i64 a5, .int .i64 0]] rfl (by (try simp only [List.map_toArray, List.map_cons, List.map_nil]); first | done | rfl | (simp only [List.length_drop, List.length_take]; rfl)) ?_; (with_reducible refine (card_Body.calls (hrG := ?sideG) k g t157 a1 t152 t154 t156 a5 0 t159 t160 w0 _ ?side1 ?side2 A10.out).mono ?_); (case sideG => (first | (with_reducible exact HRG.out) | exact TabG.below HRG.out (by repeat (first | (with_reducible first | exact HB.out | apply below_alloc | apply pw_below_drewN | apply below_drew1 | refine below_set ?_ (IsS60.ge HI0.out) | refine below_set ?_ GE151.out | refine below_set ?_ GE158.out) | (with_reducible exact Below.refl _ _))))); (case side1 => repeat (first | (with_reducible first | exact HI0.out | apply IsS60.alloc | apply IsS60.drewN | apply IsS60.drew | apply IsS60.set_0 | (focus (refine IsS60.far ?_ ?_ _; rotate_left; (focus ((repeat (first | (with_reducible exact Nsty.of BK151.out rfl) | apply Nsty.set | apply Nsty.drewN | apply Nsty.drew | apply Nsty.alloc)); done)))) | (focus (refine IsS60.far ?_ ?_ _; rotate_left; (focus ((repeat (first | (with_reducible exact Nsty.of BK158.out rfl) | apply Nsty.set | apply Nsty.drewN | apply Nsty.drew | apply Nsty.alloc)); done))))) | exact HI0.out)); (case side2 => repeat (first | (with_reducible first | exact HB.out | apply below_alloc | apply pw_below_drewN | apply below_drew1 | refine below_set ?_ (IsS60.ge HI0.out) | refine below_set ?_ GE151.out | refine below_set ?_ GE158.out) | exact HB.out)); rintro e w21 ⟨rfl, hi, hb, hk⟩; refine ⟨_, rfl, ?_⟩; have n0_ := Aside0.mk (KeepSt.blk hk (g' := gb151) (o := .cells #[.int .i64 0, .int .i64 0, .int .i64 0, .int .i64 0, .int .i64 0, .int .i64 0] 30 (0, 0)) (by (with_reducible repeat (first | refine blk_drewN ?_ _ | refine blk_drew ?_ | refine blk_alloc ?_ _)); refine blk_far ?_ NB151_158.out _; (with_reducible repeat (first | refine blk_drewN ?_ _ | refine blk_drew ?_ | refine blk_alloc ?_ _)); refine blk_far ?_ NB151_158.out _; (with_reducible repeat (first | refine blk_drewN ?_ _ | refine blk_drew ?_ | refine blk_alloc ?_ _)); refine blk_far ?_ NB151_158.out _; (with_reducible repeat (first | refine blk_drewN ?_ _ | refine blk_drew ?_ | refine blk_alloc ?_ _)); refine blk_far ?_ NB151_158.out _; (with_reducible repeat (first | refine blk_drewN ?_ _ | refine blk_drew ?_ | refine blk_alloc ?_ _)); refine blk_far ?_ NB151_158.out _; (with_reducible repeat (first | refine blk_drewN ?_ _ | refine blk_drew ?_ | refine blk_alloc ?_ _)); refine blk_far ?_ NB151_158.out _; (with_reducible repeat (first | refine blk_drewN ?_ _ | refine blk_drew ?_ | refine blk_alloc ?_ _)); exact BK151.out) NB151_0.out rfl); have n1_ := Aside0.mk (KeepSt.blk hk (g' := gb158) (o := .cells #[.int .i64 a1, .int .i64 t152, .int .i64 t154, .int .i64 t156, .int .i64 a5, .int .i64 0] 30 (0, 0)) (by (with_reducible repeat (first | refine blk_drewN ?_ _ | refine blk_drew ?_ | refine blk_alloc ?_ _)); refine blk_put (cs := #[.int .i64 a1, .int .i64 t152, .int .i64 t154, .int .i64 t156, .int .i64 a5, .int .i64 0]) ?_ 5 _ rfl; (with_reducible repeat (first | refine blk_drewN ?_ _ | refine blk_drew ?_ | refine blk_alloc ?_ _)); refine blk_put (cs := #[.int .i64 a1, .int .i64 t152, .int .i64 t154, .int .i64 t156, .int .i64 0, .int .i64 0]) ?_ 4 _ rfl; (with_reducible repeat (first | refine blk_drewN ?_ _ | refine blk_drew ?_ | refine blk_alloc ?_ _)); refine blk_put (cs := #[.int .i64 a1, .int .i64 t152, .int .i64 t154, .int .i64 0, .int .i64 0, .int .i64 0]) ?_ 3 _ rfl; (with_reducible repeat (first | refine blk_drewN ?_ _ | refine blk_drew ?_ | refine blk_alloc ?_ _)); refine blk_put (cs := #[.int .i64 a1, .int .i64 t152, .int .i64 0, .int .i64 0, .int .i64 0, .int .i64 0]) ?_ 2 _ rfl; (with_reducible repeat (first | refine blk_drewN ?_ _ | refine blk_drew ?_ | refine blk_alloc ?_ _)); refine blk_put (cs := #[.int .i64 a1, .int .i64 0, .int .i64 0, .int .i64 0, .int .i64 0, .int .i64 0]) ?_ 1 _ rfl; (with_reducible repeat (first | refine blk_drewN ?_ _ | refine blk_drew ?_ | refine blk_alloc ?_ _)); refine blk_put (cs := #[.int .i64 0, .int .i64 0, .int .i64 0, .int .i64 0, .int .i64 0, .int .i64 0]) ?_ 0 _ rfl; (with_reducible repeat (first | refine blk_drewN ?_ _ | refine blk_drew ?_ | refine blk_alloc ?_ _)); exact BK158.out) NB158_0.out rfl); have n2_ := Aside0.mk (KeepSt.trans (by repeat (first | (with_reducible first | exact HK.out | apply KeepSt.drewN | apply KeepSt.drew | apply KeepSt.alloc | refine KeepSt.far ?_ GW151.out _ | refine KeepSt.far ?_ GW158.out _) | exact HK.out)) hk); have n3_ := Aside0.mk (hb); have n4_ := Aside0.mk (hi); clear BK151; clear BK158; clear HK; clear HB; clear HI0; have BK151 := n0_; have BK158 := n1_; have HK := n2_; have HB := n3_; have HI0 := n4_; clear n0_ n1_ n2_ n3_ n4_; (try clear hb); (try clear hb2); (try clear hk); (try clear hi)) | ((with_reducible refine gate_callee (f := 24) rfl ?_); refine goesL_ (some 32) rfl rfl Tryd.func24 (by kernel_rfl) rfl #[.pointer (some ⟨g, 0, none⟩), .string (⟨#[99, 97, 114, 100]⟩ : ByteArray), .int .i64 t159] rfl (by (try simp only [List.map_toArray, List.map_cons, List.map_nil]); first | done | rfl | (simp only [List.length_drop, List.length_take]; rfl)) ?_; (with_reducible refine (term_Store_Hash.calls g t160 (⟨#[99, 97, 114, 100]⟩ : ByteArray) t159 t161 t162 w0 _ ?side1 ?side2 A11.out).mono ?_); (case side1 => repeat (first | (with_reducible first | exact HI0.out | apply IsS60.alloc | apply IsS60.drewN | apply IsS60.drew | apply IsS60.set_0 | (focus (refine IsS60.far ?_ ?_ _; rotate_left; (focus ((repeat (first | (with_reducible exact Nsty.of BK151.out rfl) | apply Nsty.set | apply Nsty.drewN | apply Nsty.drew | apply Nsty.alloc)); done)))) | (focus (refine IsS60.far ?_ ?_ _; rotate_left; (focus ((repeat (first | (with_reducible exact Nsty.of BK158.out rfl) | apply Nsty.set | apply Nsty.drewN | apply Nsty.drew | apply Nsty.alloc)); done))))) | exact HI0.out)); (case side2 => repeat (first | (with_reducible first | exact HB.out | apply below_alloc | apply pw_below_drewN | apply below_drew1 | refine below_set ?_ (IsS60.ge HI0.out) | refine below_set ?_ GE151.out | refine below_set ?_ GE158.out) | exact HB.out)); rintro e w22 ⟨rfl, hi, hb, hk⟩; refine ⟨_, rfl, ?_⟩; have n0_ := Aside0.mk (KeepSt.blk hk (g' := gb151) (o := .cells #[.int .i64 0, .int .i64 0, .int .i64 0, .int .i64 0, .int .i64 0, .int .i64 0] 30 (0, 0)) (by (with_reducible repeat (first | refine blk_drewN ?_ _ | refine blk_drew ?_ | refine blk_alloc ?_ _)); exact BK151.out) NB151_0.out rfl); have n1_ := Aside0.mk (KeepSt.blk hk (g' := gb158) (o := .cells #[.int .i64 a1, .int .i64 t152, .int .i64 t154, .int .i64 t156, .int .i64 a5, .int .i64 0] 30 (0, 0)) (by (with_reducible repeat (first | refine blk_drewN ?_ _ | refine blk_drew ?_ | refine blk_alloc ?_ _)); exact BK158.out) NB158_0.out rfl); have n2_ := Aside0.mk (KeepSt.trans (by repeat (first | (with_reducible first | exact HK.out | apply KeepSt.drewN | apply KeepSt.drew | apply KeepSt.alloc | refine KeepSt.far ?_ GW151.out _ | refine KeepSt.far ?_ GW158.out _) | exact HK.out)) hk); have n3_ := Aside0.mk (hb); have n4_ := Aside0.mk (hi); clear BK151; clear BK158; clear HK; clear HB; clear HI0; have BK151 := n0_; have BK158 := n1_; have HK := n2_; have HB := n3_; have HI0 := n4_; clear n0_ n1_ n2_ n3_ n4_; (try clear hb); (try clear hb2); (try clear hk); (try clear hi)) | ((with_reducible refine gate_callee (f := 23) rfl ?_); refine goesL_ (some 33) rfl rfl Tryd.func23 (by kernel_rfl) rfl #[.pointer (some ⟨g, 0, none⟩), .int .i64 a2, .int .i64 t161] rfl (by (try simp only [List.map_toArray, List.map_cons, List.map_nil]); first | done | rfl | (simp only [List.length_drop, List.length_take]; rfl)) ?_; (with_reducible refine (term_Store_Sign.calls g t162 a2 t161 t163 t164 w0 _ ?side1 ?side2 A12.out).mono ?_); (case side1 => repeat (first | (with_reducible first | exact HI0.out | apply IsS60.alloc | apply IsS60.drewN | apply IsS60.drew | apply IsS60.set_0 | (focus (refine IsS60.far ?_ ?_ _; rotate_left; (focus ((repeat (first | (with_reducible exact Nsty.of BK151.out rfl) | apply Nsty.set | apply Nsty.drewN | apply Nsty.drew | apply Nsty.alloc)); done)))) | (focus (refine IsS60.far ?_ ?_ _; rotate_left; (focus ((repeat (first | (with_reducible exact Nsty.of BK158.out rfl) | apply Nsty.set | apply Nsty.drewN | apply Nsty.drew | apply Nsty.alloc)); done))))) | exact HI0.out)); (case side2 => repeat (first | (with_reducible first | exact HB.out | apply below_alloc | apply pw_below_drewN | apply below_drew1 | refine below_set ?_ (IsS60.ge HI0.out) | refine below_set ?_ GE151.out | refine below_set ?_ GE158.out) | exact HB.out)); rintro e w23 ⟨rfl, hi, hb, hk⟩; refine ⟨_, rfl, ?_⟩; have n0_ := Aside0.mk (KeepSt.blk hk (g' := gb151) (o := .cells #[.int .i64 0, .int .i64 0, .int .i64 0, .int .i64 0, .int .i64 0, .int .i64 0] 30 (0, 0)) (by (with_reducible repeat (first | refine blk_drewN ?_ _ | refine blk_drew ?_ | refine blk_alloc ?_ _)); exact BK151.out) NB151_0.out rfl); have n1_ := Aside0.mk (KeepSt.blk hk (g' := gb158) (o := .cells #[.int .i64 a1, .int .i64 t152, .int .i64 t154, .int .i64 t156, .int .i64 a5, .int .i64 0] 30 (0, 0)) (by (with_reducible repeat (first | refine blk_drewN ?_ _ | refine blk_drew ?_ | refine blk_alloc ?_ _)); exact BK158.out) NB158_0.out rfl); have n2_ := Aside0.mk (KeepSt.trans (by repeat (first | (with_reducible first | exact HK.out | apply KeepSt.drewN | apply KeepSt.drew | apply KeepSt.alloc | refine KeepSt.far ?_ GW151.out _ | refine KeepSt.far ?_ GW158.out _) | exact HK.out)) hk); have n3_ := Aside0.mk (hb); have n4_ := Aside0.mk (hi); clear BK151; clear BK158; clear HK; clear HB; clear HI0; have BK151 := n0_; have BK158 := n1_; have HK := n2_; have HB := n3_; have HI0 := n4_; clear n0_ n1_ n2_ n3_ n4_; (try clear hb); (try clear hb2); (try clear hk); (try clear hi); have hcz24_0 : w23.cell? ⟨gb158, 0, none⟩ = some (.int .i64 a1) := (blk_cell BK158.out 0).trans rfl; have hcz24_1 : w23.cell? ⟨gb158, 1, none⟩ = some (.int .i64 t152) := (blk_cell BK158.out 1).trans rfl; have hcz24_2 : w23.cell? ⟨gb158, 2, none⟩ = some (.int .i64 t154) := (blk_cell BK158.out 2).trans rfl; have hcz24_3 : w23.cell? ⟨gb158, 3, none⟩ = some (.int .i64 t156) := (blk_cell BK158.out 3).trans rfl; have hcz24_4 : w23.cell? ⟨gb158, 4, none⟩ = some (.int .i64 a5) := (blk_cell BK158.out 4).trans rfl; have hcz24_5 : w23.cell? ⟨gb158, 5, none⟩ = some (.int .i64 0) := (blk_cell BK158.out 5).trans rfl; have hfz24_0 := blk_frozen BK158.out 0; have hfz24_1 := blk_frozen BK158.out 1; have hfz24_2 := blk_frozen BK158.out 2; have hfz24_3 := blk_frozen BK158.out 3; have hfz24_4 := blk_frozen BK158.out 4; have hfz24_5 := blk_frozen BK158.out 5; have hnb25 := NB151_0.out; have hnc25 := NB0_151.out; have hcz26_0 : w23.cell? ⟨gb151, 0, none⟩ = some (.int .i64 0) := (blk_cell BK151.out 0).trans rfl; have hcz26_1 : w23.cell? ⟨gb151, 1, none⟩ = some (.int .i64 0) := (blk_cell BK151.out 1).trans rfl; have hcz26_2 : w23.cell? ⟨gb151, 2, none⟩ = some (.int .i64 0) := (blk_cell BK151.out 2).trans rfl; have hcz26_3 : w23.cell? ⟨gb151, 3, none⟩ = some (.int .i64 0) := (blk_cell BK151.out 3).trans rfl; have hcz26_4 : w23.cell? ⟨gb151, 4, none⟩ = some (.int .i64 0) := (blk_cell BK151.out 4).trans rfl; have hcz26_5 : w23.cell? ⟨gb151, 5, none⟩ = some (.int .i64 0) := (blk_cell BK151.out 5).trans rfl; have hfz26_0 := blk_frozen BK151.out 0; have hfz26_1 := blk_frozen BK151.out 1; have hfz26_2 := blk_frozen BK151.out 2; have hfz26_3 := blk_frozen BK151.out 3; have hfz26_4 := blk_frozen BK151.out 4; have hfz26_5 := blk_frozen BK151.out 5))
  refine bodyPost_ret (results_cell_row rfl _ _ gb151 30 #[.int .i64 a1, .int .i64 t152, .int .i64 t154, .int .i64 t156, .int .i64 a5, .int .i64 t163] (0, 0) _ rfl (by (with_reducible repeat (first | refine blk_drewN ?_ _ | refine blk_drew ?_ | refine blk_alloc ?_ _)); refine blk_put (cs := #[.int .i64 a1, .int .i64 t152, .int .i64 t154, .int .i64 t156, .int .i64 a5, .int .i64 0]) ?_ 5 _ rfl; (with_reducible repeat (first | refine blk_drewN ?_ _ | refine blk_drew ?_ | refine blk_alloc ?_ _)); refine blk_put (cs := #[.int .i64 a1, .int .i64 t152, .int .i64 t154, .int .i64 t156, .int .i64 0, .int .i64 0]) ?_ 4 _ rfl; (with_reducible repeat (first | refine blk_drewN ?_ _ | refine blk_drew ?_ | refine blk_alloc ?_ _)); refine blk_put (cs := #[.int .i64 a1, .int .i64 t152, .int .i64 t154, .int .i64 0, .int .i64 0, .int .i64 0]) ?_ 3 _ rfl; (with_reducible repeat (first | refine blk_drewN ?_ _ | refine blk_drew ?_ | refine blk_alloc ?_ _)); refine blk_put (cs := #[.int .i64 a1, .int .i64 t152, .int .i64 0, .int .i64 0, .int .i64 0, .int .i64 0]) ?_ 2 _ rfl; (with_reducible repeat (first | refine blk_drewN ?_ _ | refine blk_drew ?_ | refine blk_alloc ?_ _)); refine blk_put (cs := #[.int .i64 a1, .int .i64 0, .int .i64 0, .int .i64 0, .int .i64 0, .int .i64 0]) ?_ 1 _ rfl; (with_reducible repeat (first | refine blk_drewN ?_ _ | refine blk_drew ?_ | refine blk_alloc ?_ _)); refine blk_put (cs := #[.int .i64 0, .int .i64 0, .int .i64 0, .int .i64 0, .int .i64 0, .int .i64 0]) ?_ 0 _ rfl; (with_reducible repeat (first | refine blk_drewN ?_ _ | refine blk_drew ?_ | refine blk_alloc ?_ _)); refine blk_far ?_ NB151_158.out _; (with_reducible repeat (first | refine blk_drewN ?_ _ | refine blk_drew ?_ | refine blk_alloc ?_ _)); exact BK151.out) Tryd.underlying30 rfl (by kernel_rfl)) rfl ?_
  exact ⟨by first | rfl | (simp [errW_none, errW_some] <;> rfl) | (simp [*, errW_none, errW_some] <;> rfl), by repeat (first | (with_reducible first | exact HI0.out | apply IsS60.alloc | apply IsS60.drewN | apply IsS60.drew | apply IsS60.set_0 | (focus (refine IsS60.far ?_ ?_ _; rotate_left; (focus ((repeat (first | (with_reducible exact Nsty.of BK151.out rfl) | apply Nsty.set | apply Nsty.drewN | apply Nsty.drew | apply Nsty.alloc)); done)))) | (focus (refine IsS60.far ?_ ?_ _; rotate_left; (focus ((repeat (first | (with_reducible exact Nsty.of BK158.out rfl) | apply Nsty.set | apply Nsty.drewN | apply Nsty.drew | apply Nsty.alloc)); done))))) | exact HI0.out), by repeat (first | (with_reducible first | exact HB.out | apply below_alloc | apply pw_below_drewN | apply below_drew1 | refine below_set ?_ (IsS60.ge HI0.out) | refine below_set ?_ GE151.out | refine below_set ?_ GE158.out) | exact HB.out), by repeat (first | (with_reducible first | exact HK.out | apply KeepSt.drewN | apply KeepSt.drew | apply KeepSt.alloc | refine KeepSt.far ?_ GW151.out _ | refine KeepSt.far ?_ GW158.out _) | exact HK.out)⟩
theorem st_look {w0 w : World} {g : Nat} {s : TS} {f : Nat} {args : Array Value} {r : Value} (hI : IsS60 w0 w g s) (hB : Below w0.heap.size w0 w)
    (hc : ∀ q : St, q.p = g → q.nodes = s.nodes → q.drawn = s.drawn → StoreAt w q → Calls Tryd.prog f args w fun e w' => e = .returned r ∧ Chg none_ w w') :
    Calls Tryd.prog f args w fun e w' => e = .returned r ∧ IsS60 w0 w' g s ∧ Below w0.heap.size w0 w' ∧ KeepSt w w' w0 := by
  obtain ⟨q, h1, h2, h3, h4, h5⟩ := StoreAt.of hI
  refine (hc q h1 h2 h3 h4).mono ?_
  rintro e w' ⟨he, hn⟩
  have hb : Below w.heap.size w w' := hn.below (Nat.le_refl _) (fun _ _ h => h)
  exact ⟨he, hI.below hb, hB.trans (hb.mono hB.size), .of_below hb w0⟩
def publicB (s : TS) (t : Int) : Bool := knownB s.nodes.length t && decide ((getN s.nodes t).kind = 6)
def card_public.f (s0_0 : TS) (a1 : Int) : Option (Bool × TS) := some (publicB s0_0 a1, s0_0)
set_option maxHeartbeats 1000000 in
theorem public_calls {s : St} {w : World} (h : StoreAt w s) (t : Int) :
    Calls Tryd.prog 26 #[s.ptr, .int .i64 t] w fun e w' => e = .returned (.bool (knownB s.nodes.length t && decide ((getN s.nodes t).kind = 6))) ∧ Chg none_ w w' := by
  have hcall := get_calls h t
  generalize getN s.nodes t = n at *
  generalize knownB s.nodes.length t = k at *
  obtain ⟨k0, l, a, b⟩ := n
  have HC := Lib.hid hcall
  clear hcall h
  go_enter Tryd.func26, Tryd.ntmps26
  go_wp2_with fail
  refine (HC.out).mono ?_
  rintro e w1 ⟨rfl, hc1⟩
  go_wp2
  all_goals go_ret
  all_goals go_light
  all_goals exact ⟨by simp [*] <;> (rw [Bool.eq_iff_iff]; simp), hc1.alloc _⟩
theorem card_public.calls (g : Nat) (s0_0 : TS) (a1 : Int) (r1 : Bool) (r2 : TS) (w0 w : World) (hI : IsS60 w0 w g s0_0) (hB : Below w0.heap.size w0 w) (h : card_public.f s0_0 a1 = some (r1, r2)) :
    Calls Tryd.prog 26 #[.pointer (some ⟨g, 0, none⟩), .int .i64 a1] w fun e w' => e = .returned (.bool r1) ∧ IsS60 w0 w' g r2 ∧ Below w0.heap.size w0 w' ∧ KeepSt w w' w0 := by
  cases h
  refine st_look hI hB fun q h1 h2 h3 h4 => ?_
  have := public_calls h4 a1
  rw [St.ptr, h1, h2] at this
  exact this
def term_Store_Verify.f (s0_0 : TS) (a1 : Int) (a2 : Int) (a3 : Int) : Option (Bool × TS) := some (verifyOf (knownB s0_0.nodes.length a3) (knownB s0_0.nodes.length a1) (getN s0_0.nodes a3) (getN s0_0.nodes a1) a2, s0_0)
theorem term_Store_Verify.calls (g : Nat) (s0_0 : TS) (a1 : Int) (a2 : Int) (a3 : Int) (r1 : Bool) (r2 : TS) (w0 w : World) (hI : IsS60 w0 w g s0_0) (hB : Below w0.heap.size w0 w) (h : term_Store_Verify.f s0_0 a1 a2 a3 = some (r1, r2)) :
    Calls Tryd.prog 27 #[.pointer (some ⟨g, 0, none⟩), .int .i64 a1, .int .i64 a2, .int .i64 a3] w fun e w' => e = .returned (.bool r1) ∧ IsS60 w0 w' g r2 ∧ Below w0.heap.size w0 w' ∧ KeepSt w w' w0 := by
  cases h
  refine st_look hI hB fun q h1 h2 h3 h4 => ?_
  have := verify_calls h4 a1 a2 a3
  rw [St.ptr, h1, h2] at this
  exact this
end Go.Proofs.YteljmaebhjhedaaDoor.PCn
