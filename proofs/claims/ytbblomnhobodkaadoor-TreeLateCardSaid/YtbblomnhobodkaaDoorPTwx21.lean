/- What this claim reaches of a longer text of this session. -/
import Derived.Test.YtbblomnhobodkaaDoorPTwx0
import Derived.Test.YtbblomnhobodkaaDoorPTwx1
import Derived.Test.YtbblomnhobodkaaDoorPTwx13
import Derived.Test.YtbblomnhobodkaaDoorPTwx14
import Derived.Test.YtbblomnhobodkaaDoorPTwx17
import Derived.Test.YtbblomnhobodkaaDoorPTwx18
import Derived.Test.YtbblomnhobodkaaDoorPTwx19
import Derived.Test.YtbblomnhobodkaaDoorPTwx20
import Derived.Test.YtbblomnhobodkaaDoorBase
import Derived.Shelf.Spec.TrailingZeros
import Derived.Lib.ItoaNum
import Derived.Lib.LaidTab
import Derived.Test.YtbblomnhobodkaaDoorRangeCell
import Derived.Laws.Bits64
import Derived.Lib.Hide
import Derived.RangeFuncBox
import Derived.Maps.AppendAt
import Derived.Lib.SliceRun
import Derived.Test.YtbblomnhobodkaaDoorShelf
import Derived.Shelf.Spec.SlicesInsert
import Derived.Shelf.Spec.SlicesInsertGrow
import Derived.Test.YtbblomnhobodkaaDoorMix
import Derived.Test.YtbblomnhobodkaaDoorWFoot
import Derived.Deep.DeepCutAuto
namespace Go.Proofs.YtbblomnhobodkaaDoor.PTw
open Go.RowKit Go.Proofs.YtbblomnhobodkaaDoorW.PrintWords Go.Proofs.YtbblomnhobodkaaDoorW.PrintLast Go.Proofs.YtbblomnhobodkaaDoorW.PrintMore
attribute [local go_sem] max2_int min2_int max_two min_two max_three min_three max_four min_four   -- for this text's walks alone
set_option linter.unusedVariables false
set_option linter.unusedSimpArgs false
set_option maxHeartbeats 8000000 in
set_option maxRecDepth 100000 in
theorem conclavelaw04_grown.calls (k : Nat) (a0_0 : Bool) (a0_1 : Int) (a0_2 : Int) (a0_3 : Int) (a0_4 : Int) (A0_5 : Option Addr) (c0_5 : Nat) (l0_5 : List Int) (P1_ : Nat → Prop) (A1 : Option Addr) (c1 : Nat) (l1 : List (S32)) (r : List (S29)) (w : World) (hr0_5 : Kd.C (Kd.int .i64) w A0_5 l0_5.length l0_5) (hc0_5 : l0_5.length ≤ c0_5) (hs1 : Kd.V k32 32 w w.heap.size (fun k_ => P1_ k_) (.slice A1 l1.length c1) l1) (h : conclavelaw04_grown.f k a0_0 a0_1 a0_2 a0_3 a0_4 l0_5 l1 = some r) :
    Calls Tryd.prog 18 #[.agg #[.bool a0_0, .int .i64 a0_1, .int .i64 a0_2, .int .i64 a0_3, .int .i64 a0_4, .slice A0_5 l0_5.length c0_5], .slice A1 l1.length c1] w fun e w' => ∃ v0_ : Value, e = .returned (v0_) ∧ Kd.N k29 29 w' w.heap.size (fun k_ => (P1_ k_ ∨ w.heap.size ≤ k_)) v0_ r ∧ Below w.heap.size w w' := by
  have hu29 := Tryd.underlying29
  have hu32 := Tryd.underlying32
  have HR0_5 := Aside0.mk hr0_5
  have HC0_5 := Aside0.mk hc0_5
  clear hr0_5 hc0_5
  have HO1 := Aside0.mk (show Kd.V k32 32 w w.heap.size (fun k_ => (P1_ k_ ∨ w.heap.size ≤ k_)) (.slice A1 l1.length c1) l1 from Kd.V_mono hs1 (fun k_ hk => .inl hk))
  have HB := Aside0.mk (Below.refl w.heap.size w)
  have H : ((conclaveref04_Leaf.f a0_0 a0_1 a0_2 a0_3 a0_4 l0_5).bind fun bt512 => (conclavelaw04_grown.l0 k (([(⟨bt512.1, bt512.2.1, bt512.2.2.1, bt512.2.2.2.1, bt512.2.2.2.2.1, bt512.2.2.2.2.2⟩ : S29)] : List (S29))) l1 (l1.length : Int) 0)) = some r := h
  clear h
  replace H := Option.bind_eq_some_iff.mp H
  obtain ⟨⟨t512, t513, t514, t515, t516, t517⟩, A30, H⟩ := H
  replace H : (conclavelaw04_grown.l0 k (([(⟨t512, t513, t514, t515, t516, t517⟩ : S29)] : List (S29))) l1 (l1.length : Int) 0) = some r := H
  have A3 := Aside0.mk A30
  clear A30
  obtain ⟨y520, hy520⟩ : ∃ y_ : List (S29), y_ = (([(⟨t512, t513, t514, t515, t516, t517⟩ : S29)] : List (S29))) := ⟨_, rfl⟩
  replace H : (conclavelaw04_grown.l0 k y520 l1 (l1.length : Int) 0) = some r := by first | (rw [hy520]; with_reducible exact H) | (have H2_ := (Option.bind_some _ _).symm.trans H; rw [hy520]; with_reducible exact H2_) | (have H2_ := (Option.bind_some _ _).symm.trans H; with_reducible exact H2_) | with_reducible exact H | (rw [hy520]; exact H) | exact H
  have Ny520 := Aside0.mk hy520
  clear hy520
  have H' := Aside0.mk H
  clear H
  go_enter Tryd.func18, Tryd.ntmps18
  go_wp2_with (first | ((with_reducible refine gate_dst (N := 2) rfl ?_); refine box_event ?hg (N := 2) ?hd (cs := #[.bool a0_0, .int .i64 a0_1, .int .i64 a0_2, .int .i64 a0_3, .int .i64 a0_4, .slice A0_5 l0_5.length c0_5]) (t := 29) ?hr ?_; (case hd => rfl); (case hg => rfl); (case hr => first | (go_simp; done) | (go_simp; rfl)); intro gb511 hg w4 hbox hb; have n0_ := Aside0.mk (Kd.V_below (Kd.V_elderB (by (with_reducible repeat (first | apply Kd.V_alloc | apply Kd.V_drewN | apply Kd.V_drew)); exact HO1.out) gb511 (Nat.le_of_eq hg.symm)) hb); have n1_ := Aside0.mk (below_step (by repeat (first | (with_reducible first | exact HB.out | apply below_alloc | apply pw_below_drewN | apply below_drew1) | exact HB.out)) hb); have n2_ := Aside0.mk (hbox); have n3_ := Aside0.mk ((by rw [hg]; exact (below_size (by repeat (first | (with_reducible first | exact HB.out | apply below_alloc | apply pw_below_drewN | apply below_drew1) | exact HB.out))) : w.heap.size ≤ gb511)); have n4_ := Aside0.mk ((by rw [hg]; exact (below_size (by repeat (first | (with_reducible first | exact HB.out | apply below_alloc | apply pw_below_drewN | apply below_drew1) | exact HB.out))) : w.heap.size ≤ gb511)); clear HO1; clear HB; have HO1 := n0_; have HB := n1_; have BK511 := n2_; have GW511 := n3_; have GE511 := n4_; clear n0_ n1_ n2_ n3_ n4_; clear hb hbox hg; have hcz5_0 : w4.cell? ⟨gb511, 0, none⟩ = some (.bool a0_0) := (blk_cell BK511.out 0).trans rfl; have hcz5_1 : w4.cell? ⟨gb511, 1, none⟩ = some (.int .i64 a0_1) := (blk_cell BK511.out 1).trans rfl; have hcz5_2 : w4.cell? ⟨gb511, 2, none⟩ = some (.int .i64 a0_2) := (blk_cell BK511.out 2).trans rfl; have hcz5_3 : w4.cell? ⟨gb511, 3, none⟩ = some (.int .i64 a0_3) := (blk_cell BK511.out 3).trans rfl; have hcz5_4 : w4.cell? ⟨gb511, 4, none⟩ = some (.int .i64 a0_4) := (blk_cell BK511.out 4).trans rfl; have hcz5_5 : w4.cell? ⟨gb511, 5, none⟩ = some (.slice A0_5 l0_5.length c0_5) := (blk_cell BK511.out 5).trans rfl; have hfz5_0 := blk_frozen BK511.out 0; have hfz5_1 := blk_frozen BK511.out 1; have hfz5_2 := blk_frozen BK511.out 2; have hfz5_3 := blk_frozen BK511.out 3; have hfz5_4 := blk_frozen BK511.out 4; have hfz5_5 := blk_frozen BK511.out 5) | ((with_reducible refine gate_callee (f := 35) rfl ?_); refine goesL_ (some 11) rfl rfl Tryd.func35 (by kernel_rfl) rfl #[.agg #[.bool a0_0, .int .i64 a0_1, .int .i64 a0_2, .int .i64 a0_3, .int .i64 a0_4, .slice A0_5 l0_5.length c0_5]] rfl (by (try simp only [List.map_toArray, List.map_cons, List.map_nil]); first | done | rfl | (simp only [List.length_drop, List.length_take]; rfl)) ?_; (with_reducible refine (conclaveref04_Leaf.calls a0_0 a0_1 a0_2 a0_3 a0_4 _ _ l0_5 t512 t513 t514 t515 t516 t517 _ ?side1 ?side2 A3.out).mono ?_); (case side1 => repeat (first | exact (Kd.C_below HR0_5.out HB.out) | (with_reducible refine Kd.C_alloc ?_ _) | (with_reducible refine Kd.C_drewN ?_ _) | (with_reducible refine Kd.C_drew ?_))); (case side2 => exact HC0_5.out); rintro e w6 ⟨v518, rfl, ho0, hb⟩; refine ⟨_, rfl, ?_⟩; obtain ⟨Av_, cv_, hv_⟩ := Kd.R_slice ho0; have HV518 := Aside0.mk hv_; clear hv_; have n0_ := Aside0.mk (Kd.V_elder' (by (with_reducible repeat (first | apply Kd.V_alloc | apply Kd.V_drewN | apply Kd.V_drew)); exact HO1.out) (Kd.R_base ho0) hb); have n1_ := Aside0.mk (Kd.R_lower (Kd.R_newM (M := fun k_ => (w.heap.size ≤ k_)) ho0 (below_size (by repeat (first | (with_reducible first | exact HB.out | apply below_alloc | apply pw_below_drewN | apply below_drew1 | refine below_set ?_ GE511.out) | exact HB.out))) (fun k_ h_ => h_)) (below_size (by repeat (first | (with_reducible first | exact HB.out | apply below_alloc | apply pw_below_drewN | apply below_drew1 | refine below_set ?_ GE511.out) | exact HB.out)))); have n2_ := Aside0.mk (blk_below (g := gb511) (o := .cells #[.bool a0_0, .int .i64 a0_1, .int .i64 a0_2, .int .i64 a0_3, .int .i64 a0_4, .slice A0_5 l0_5.length c0_5] 29 (0, 0)) (by (with_reducible repeat (first | refine blk_drewN ?_ _ | refine blk_drew ?_ | refine blk_alloc ?_ _)); exact BK511.out) hb); have n3_ := Aside0.mk (below_step (by repeat (first | (with_reducible first | exact HB.out | apply below_alloc | apply pw_below_drewN | apply below_drew1 | refine below_set ?_ GE511.out) | exact HB.out)) hb); clear HO1; clear BK511; clear HB; have HO1 := n0_; have HO519 := n1_; have BK511 := n2_; have HB := n3_; clear n0_ n1_ n2_ n3_; (try clear hb); (try clear hb2); (try clear hk); (try clear hi); (try clear ho0); obtain ⟨Ao7, co7, eo7⟩ := Kd.R_slice HO519.out; subst eo7) | ((with_reducible refine gate_dst (N := 12) rfl ?_); refine Kd.N_lit k29 _ 29 ?hg (N' := 12) ?hd (xs := ([(⟨t512, t513, t514, t515, t516, t517⟩ : S29)] : List (S29))) (inner := [.bool t512, .int .i64 t513, .int .i64 t514, .int .i64 t515, .int .i64 t516, .slice Ao7 t517.length co7]) (ok := (fun k_ => (P1_ k_ ∨ w.heap.size ≤ k_) ∧ k_ ≠ gb511)) (okp := (fun k_ => (P1_ k_ ∨ w.heap.size ≤ k_) ∧ k_ ≠ gb511)) ?hr ?hp (fun _ hk => hk) ((show ∀ k_, w6.heap.size ≤ k_ → (fun k_ => (P1_ k_ ∨ w.heap.size ≤ k_) ∧ k_ ≠ gb511) k_ from fun k_ hk => ⟨(.inr (Nat.le_trans (below_size (by repeat (first | (with_reducible first | exact HB.out | apply below_alloc | apply pw_below_drewN | apply below_drew1 | refine below_set ?_ GE511.out) | exact HB.out))) hk)), Kd.freshB (g := gb511) (o := .cells #[.bool a0_0, .int .i64 a0_1, .int .i64 a0_2, .int .i64 a0_3, .int .i64 a0_4, .slice A0_5 l0_5.length c0_5] 29 (0, 0)) (by (with_reducible repeat (first | refine blk_drewN ?_ _ | refine blk_drew ?_ | refine blk_alloc ?_ _)); exact BK511.out) k_ hk⟩) _ (Nat.le_refl _)) (Below.refl _ _) (Nat.le_refl _) (by simp) ?_; (case hd => rfl); (case hg => rfl); (case hr => first | (go_simp; done) | (go_simp; rfl)); (case hp => exact (Reps.c6 (show Kd.FK k29 _ _ (⟨t512, t513, t514, t515, t516, t517⟩ : S29) [.bool t512, .int .i64 t513, .int .i64 t514, .int .i64 t515, .int .i64 t516, .slice Ao7 t517.length co7] from (k29_mkF _ _ (⟨t512, t513, t514, t515, t516, t517⟩ : S29) (Kd.R_reads' (Kd.R_mono (ok' := (fun k_ => (P1_ k_ ∨ w.heap.size ≤ k_) ∧ k_ ≠ gb511)) (Kd.R_types (HO519.out) BK511.out (by decide)) (fun k_ hk => ⟨(.inr (hk.1.1)), hk.2⟩))).2.1 (Kd.R_F (Kd.R_mono (ok' := (fun k_ => (P1_ k_ ∨ w.heap.size ≤ k_) ∧ k_ ≠ gb511)) (Kd.R_types (HO519.out) BK511.out (by decide)) (fun k_ hk => ⟨(.inr (hk.1.1)), hk.2⟩))))) (Reps.none _ _))); intro v521 w8 ho9 hb hg_ hnew_; clear hg_ hnew_; (first | rw [← Ny520.out] at ho9 | (simp only [Int.reduceToNat] at ho9; rw [← Ny520.out] at ho9)); have n0_ := Aside0.mk (Kd.V_elder' (by (with_reducible repeat (first | apply Kd.V_alloc | apply Kd.V_drewN | apply Kd.V_drew)); exact HO1.out) (Kd.N_base ho9) hb); have n1_ := Aside0.mk (Kd.N_lower ho9 (below_size (by repeat (first | (with_reducible first | exact HB.out | apply below_alloc | apply pw_below_drewN | apply below_drew1 | refine below_set ?_ GE511.out) | exact HB.out)))); have n2_ := Aside0.mk (blk_below (g := gb511) (o := .cells #[.bool a0_0, .int .i64 a0_1, .int .i64 a0_2, .int .i64 a0_3, .int .i64 a0_4, .slice A0_5 l0_5.length c0_5] 29 (0, 0)) (by (with_reducible repeat (first | refine blk_drewN ?_ _ | refine blk_drew ?_ | refine blk_alloc ?_ _)); exact BK511.out) hb); have n3_ := Aside0.mk (below_step (by repeat (first | (with_reducible first | exact HB.out | apply below_alloc | apply pw_below_drewN | apply below_drew1 | refine below_set ?_ GE511.out) | exact HB.out)) hb); clear HO1; clear BK511; clear HB; clear HO519; have HO1 := n0_; have HO522 := n1_; have BK511 := n2_; have HB := n3_; clear n0_ n1_ n2_ n3_; clear hb ho9))
  go_loopg [5, 15] k (fun kq v5 v15 w' => ∃ (x5_1 : List (S29)) (x15_1 : Int), v15 = .int .i64 x15_1 ∧ Aside0 (conclavelaw04_grown.l0 kq x5_1 l1 (l1.length : Int) x15_1 = some r) ∧ Aside0 (kq ≤ k) ∧ Aside0 (Kd.N k29 29 w' w.heap.size (fun k_ => (P1_ k_ ∨ w.heap.size ≤ k_)) v5 x5_1) ∧ Aside0 (Kd.C k32 w' A1 l1.length l1) ∧ Aside0 (Below w.heap.size w w'))
  case atStart => exact ⟨y520, 0, rfl, H', ⟨Nat.le_refl _⟩, ⟨by (with_reducible repeat (first | apply Kd.N_alloc | apply Kd.N_drewN | apply Kd.N_drew)); exact Kd.N_mono HO522.out (fun _ h_ => h_.1)⟩, ⟨by (with_reducible repeat (first | refine Kd.C_alloc ?_ _ | refine Kd.C_drewN ?_ _ | refine Kd.C_drew ?_)); exact (Kd.V_reads' HO1.out).2.2⟩, ⟨by repeat (first | (with_reducible first | exact HB.out | apply below_alloc | apply pw_below_drewN | apply below_drew1))⟩⟩
  case round =>
   clear H' HO1 HO522 BK511 HB
   obtain ⟨x5, x15, rfl, HA, HK1, HN, HCS, HB⟩ := hrel
   cases gk with
   | zero => exact absurd HA.out (by simp [conclavelaw04_grown.l0])
   | succ k1 =>
    have H := HA.out
    clear HA
    simp only [conclavelaw04_grown.l0] at H
    obtain ⟨A5, c5, rfl⟩ := Kd.N_slice HN.out
    have HX5 := Aside0.mk (Kd.N_reads' HN.out).2.2
    have HL5 := Aside0.mk (Kd.N_reads' HN.out).2.1
    by_cases c1 : x15 < (l1.length : Int)
    case neg =>
      rw [if_neg c1] at H
      have c1b : decide (x15 < (l1.length : Int)) = false := decide_eq_false c1
      obtain rfl := Option.some.inj H
      clear c1 H
      go_wp2
      go_ret
      exact ⟨_, rfl, by (with_reducible repeat (first | apply Kd.N_alloc | apply Kd.N_drewN | apply Kd.N_drew)); exact HN.out, by repeat (first | (with_reducible first | exact HB.out | apply below_alloc | apply pw_below_drewN | apply below_drew1))⟩
    rw [if_pos c1] at H
    by_cases c2 : 0 ≤ x15
    case neg => rw [if_neg c2] at H; cases H
    rw [if_pos c2, if_pos c1] at H
    have H' := Aside0.mk H
    clear H
    have c1b : decide (x15 < (l1.length : Int)) = true := decide_eq_true c1
    obtain ⟨ad, A7, c7, e0, hx0, hx1, hx2, hx3, hx4, hx5, hx6, hx7, hx8, hl7, hi7⟩ := at_T32 HCS.out x15 c2 c1
    cases e0
    have p1 := eq_true c1
    have p2 := eq_true c2
    have HL7 := Aside0.mk hl7
    have HI7 := Aside0.mk hi7
    clear hl7 hi7 c1 c2
    generalize hq : rd_T32 l1 x15 = q at *
    clear hq
    go_upto_region 5 with (first
      | ((with_reducible refine gate_dst (N := 7) rfl ?_); refine box_event ?hg (N := 7) ?hd (cs := #[.int .i64 0, .int .i64 0, .bool false, .int .i64 0, .int .i64 0, .int .i64 0, .int .i64 0, .slice none 0 0, .int .i64 0]) (t := 32) ?hr ?_; (case hd => rfl); (case hg => rfl); (case hr => first | (go_simp; done) | (go_simp; rfl)); intro g hg w2 hbox hb; have BK := Aside0.mk hbox; have HB2 := Aside0.mk (show Below wr.heap.size wr w2 from hb); have GE := Aside0.mk (show wr.heap.size ≤ g from Nat.le_of_eq hg.symm); clear hb hbox hg; have hcz0 : w2.cell? ⟨g, 0, none⟩ = some (.int .i64 0) := (blk_cell BK.out 0).trans rfl; have hcz1 : w2.cell? ⟨g, 1, none⟩ = some (.int .i64 0) := (blk_cell BK.out 1).trans rfl; have hcz2 : w2.cell? ⟨g, 2, none⟩ = some (.bool false) := (blk_cell BK.out 2).trans rfl; have hcz3 : w2.cell? ⟨g, 3, none⟩ = some (.int .i64 0) := (blk_cell BK.out 3).trans rfl; have hcz4 : w2.cell? ⟨g, 4, none⟩ = some (.int .i64 0) := (blk_cell BK.out 4).trans rfl; have hcz5 : w2.cell? ⟨g, 5, none⟩ = some (.int .i64 0) := (blk_cell BK.out 5).trans rfl; have hcz6 : w2.cell? ⟨g, 6, none⟩ = some (.int .i64 0) := (blk_cell BK.out 6).trans rfl; have hcz7 : w2.cell? ⟨g, 7, none⟩ = some (.slice none 0 0) := (blk_cell BK.out 7).trans rfl; have hcz8 : w2.cell? ⟨g, 8, none⟩ = some (.int .i64 0) := (blk_cell BK.out 8).trans rfl; have hfz0 := blk_frozen BK.out 0; have hfz1 := blk_frozen BK.out 1; have hfz2 := blk_frozen BK.out 2; have hfz3 := blk_frozen BK.out 3; have hfz4 := blk_frozen BK.out 4; have hfz5 := blk_frozen BK.out 5; have hfz6 := blk_frozen BK.out 6; have hfz7 := blk_frozen BK.out 7; have hfz8 := blk_frozen BK.out 8)
      | ((with_reducible refine gate_store (t := 32) (p := 7) rfl ?_); refine store_event (t := 32) (p := 7) (v := ?vo_w23) (w1 := (((((((((w2.setCell ⟨g, 0, none⟩ (.int .i64 q.f0)).setCell ⟨g, 1, none⟩ (.int .i64 q.f1)).setCell ⟨g, 2, none⟩ (.bool q.f2.f0)).setCell ⟨g, 3, none⟩ (.int .i64 q.f2.f1)).setCell ⟨g, 4, none⟩ (.int .i64 q.f2.f2)).setCell ⟨g, 5, none⟩ (.int .i64 q.f2.f3)).setCell ⟨g, 6, none⟩ (.int .i64 q.f2.f4)).setCell ⟨g, 7, none⟩ (.slice A7 q.f2.f5.length c7)).setCell ⟨g, 8, none⟩ (.int .i64 q.f3))) ?hg ?ho ?hn ?hr ?_; (case ho => rfl); (case hg => rfl); (case hn => rfl); (case hr => first | (go_simp; done) | (go_simp; rfl)); intro w3 hw; have BK3 := Aside0.mk (grown_box hw BK.out); have HB3 := Aside0.mk (grown_below hw HB2.out GE.out); clear hw hcz0 hcz1 hcz2 hcz3 hcz4 hcz5 hcz6 hcz7 hcz8 hfz0 hfz1 hfz2 hfz3 hfz4 hfz5 hfz6 hfz7 hfz8 BK HB2))
    clear hx0 hx1 hx2 hx3 hx4 hx5 hx6 hx7 hx8 hs1 HR0_5 HC0_5 A3 Ny520 HV518 GW511 GE511
    clear hcz5_0 hcz5_1 hcz5_2 hcz5_3 hcz5_4 hcz5_5 hfz5_0 hfz5_1 hfz5_2 hfz5_3 hfz5_4 hfz5_5 p1 p2
    have HX3 := Aside0.mk (Kd.C_below HX5.out HB3.out)
    have HI3 := Aside0.mk (Kd.C_below HI7.out HB3.out)
    have HS3 := Aside0.mk (Kd.C_below HCS.out HB3.out)
    have HX6 := HX5
    have HI6 := HI7
    clear HX5 HI7
    have H := H'.out
    clear H'
    by_cases c3 : x15 ≥ 300
    case pos =>
      rw [if_pos c3] at H
      obtain rfl := Option.some.inj H
      have c3b : decide (300 ≤ x15) = true := decide_eq_true c3
      clear c3 H
      go_wp2
      go_ret
      exact ⟨_, rfl, by (with_reducible repeat (first | apply Kd.N_alloc | apply Kd.N_drewN | apply Kd.N_drew)); exact Kd.N_below HN.out HB3.out, by repeat (first | (with_reducible first | exact (below_step HB.out HB3.out) | apply below_alloc | apply pw_below_drewN | apply below_drew1))⟩
    rw [if_neg c3] at H
    have c3b : decide (300 ≤ x15) = false := decide_eq_false c3
    have HH := Aside0.mk H
    clear c3 H
    have hy0 : w3.cell? ⟨g, 0, none⟩ = some (.int .i64 q.f0) := (blk_cell BK3.out 0).trans rfl
    have hy1 : w3.cell? ⟨g, 1, none⟩ = some (.int .i64 q.f1) := (blk_cell BK3.out 1).trans rfl
    have hy2 : w3.cell? ⟨g, 2, none⟩ = some (.bool q.f2.f0) := (blk_cell BK3.out 2).trans rfl
    have hy3 : w3.cell? ⟨g, 3, none⟩ = some (.int .i64 q.f2.f1) := (blk_cell BK3.out 3).trans rfl
    have hy4 : w3.cell? ⟨g, 4, none⟩ = some (.int .i64 q.f2.f2) := (blk_cell BK3.out 4).trans rfl
    have hy5 : w3.cell? ⟨g, 5, none⟩ = some (.int .i64 q.f2.f3) := (blk_cell BK3.out 5).trans rfl
    have hy6 : w3.cell? ⟨g, 6, none⟩ = some (.int .i64 q.f2.f4) := (blk_cell BK3.out 6).trans rfl
    have hy7 : w3.cell? ⟨g, 7, none⟩ = some (.slice A7 q.f2.f5.length c7) := (blk_cell BK3.out 7).trans rfl
    have hy8 : w3.cell? ⟨g, 8, none⟩ = some (.int .i64 q.f3) := (blk_cell BK3.out 8).trans rfl
    have hfy8 := blk_frozen BK3.out 8
    go_upto_block 2 with fail
    go_cut [8] (fun v8 wx => ∃ x8 : List S29, Aside0 (Kd.N k29 29 wx wr.heap.size (fun k_ => wr.heap.size ≤ k_) v8 x8) ∧ Aside0 (Below wr.heap.size wr wx) ∧ Aside0 ((if (x8.length : Int) > 0 then conclavelaw04_grown.l0 k1 x8 l1 (l1.length : Int) (wrap64 (x15 + 1)) else conclavelaw04_grown.l0 k1 x5 l1 (l1.length : Int) (wrap64 (x15 + 1))) = some r))
    case first => as_aux_lemma =>
      have H := HH.out
      clear HH
      by_cases q1 : q.f0 = 1
      case pos =>
        rw [if_pos q1] at H
        obtain ⟨⟨t, t2, t3⟩, A90, H⟩ := Option.bind_eq_some_iff.mp H
        have A9 := Aside0.mk A90
        have HH := Aside0.mk H
        have q1b : (q.f0 == 1) = true := beq_iff_eq.mpr q1
        clear A90 H q1
        go_wp2_with (go_at_call 20; (with_reducible refine (conclaveref04_Add.calls k1 A5 c5 x5 q.f2.f0 q.f2.f1 q.f2.f2 q.f2.f3 q.f2.f4 (fun _ => True) A7 c7 q.f2.f5 t t2 t3 _ (by repeat (first | (with_reducible exact HX3.out) | (with_reducible refine Kd.C_alloc ?_ _) | (with_reducible refine Kd.C_drewN ?_ _) | (with_reducible refine Kd.C_drew ?_))) HL5.out (V_int HL7.out (by repeat (first | (with_reducible exact HI3.out) | (with_reducible refine Kd.C_alloc ?_ _) | (with_reducible refine Kd.C_drewN ?_ _) | (with_reducible refine Kd.C_drew ?_)))) A9.out).mono ?_); rintro e w4 ⟨v8, rfl, hS, hb⟩; have HS4 := Aside0.mk hS; have HB4 := Aside0.mk (below_step (by repeat (first | (with_reducible first | exact HB3.out | apply below_alloc | apply pw_below_drewN | apply below_drew1))) hb); have HZ := Aside0.mk (below_size (by repeat (first | (with_reducible first | exact HB3.out | apply below_alloc | apply pw_below_drewN | apply below_drew1)))); clear hS hb)
        go_meet
        exact ⟨t, ⟨Kd.N_mono (Kd.N_lower (Kd.S_N HS4.out) HZ.out) (fun k_ hk => Nat.le_trans HZ.out hk)⟩, HB4, HH⟩
      rw [if_neg q1] at H
      have q1b : (q.f0 == 1) = false := beq_eq_false_iff_ne.mpr q1
      clear q1
      by_cases q2 : q.f0 = 2
      case pos =>
        rw [if_pos q2] at H
        obtain ⟨⟨t, t2⟩, A90, H⟩ := Option.bind_eq_some_iff.mp H
        have A9 := Aside0.mk A90
        have HH := Aside0.mk H
        have q2b : (q.f0 == 2) = true := beq_iff_eq.mpr q2
        clear A90 H q2
        go_wp2_with (go_at_call 47; (with_reducible refine (conclaveref04_Update.calls k1 A5 c5 x5 q.f1 q.f2.f0 q.f2.f1 q.f2.f2 q.f2.f3 q.f2.f4 A7 c7 q.f2.f5 t t2 _ (by repeat (first | (with_reducible exact HX3.out) | (with_reducible refine Kd.C_alloc ?_ _) | (with_reducible refine Kd.C_drewN ?_ _) | (with_reducible refine Kd.C_drew ?_))) HL5.out (by repeat (first | (with_reducible exact HI3.out) | (with_reducible refine Kd.C_alloc ?_ _) | (with_reducible refine Kd.C_drewN ?_ _) | (with_reducible refine Kd.C_drew ?_))) HL7.out A9.out).mono ?_); rintro e w4 ⟨v8, rfl, hS, hb⟩; have HS4 := Aside0.mk hS; have HB4 := Aside0.mk (below_step (by repeat (first | (with_reducible first | exact HB3.out | apply below_alloc | apply pw_below_drewN | apply below_drew1))) hb); have HZ := Aside0.mk (below_size (by repeat (first | (with_reducible first | exact HB3.out | apply below_alloc | apply pw_below_drewN | apply below_drew1)))); clear hS hb)
        go_meet
        exact ⟨t, ⟨Kd.N_mono (Kd.N_lower (Kd.S_N (Kd.S_bound HS4.out)) HZ.out) (fun k_ hk => Nat.le_trans HZ.out hk.2.1)⟩, HB4, HH⟩
      rw [if_neg q2] at H
      have q2b : (q.f0 == 2) = false := beq_eq_false_iff_ne.mpr q2
      clear q2
      by_cases q3 : q.f0 = 3
      case pos =>
        rw [if_pos q3] at H
        obtain ⟨⟨t, t2⟩, A90, H⟩ := Option.bind_eq_some_iff.mp H
        have A9 := Aside0.mk A90
        have HH := Aside0.mk H
        have q3b : (q.f0 == 3) = true := beq_iff_eq.mpr q3
        clear A90 H q3
        go_wp2_with (go_at_call 48; (with_reducible refine (conclaveref04_Remove.calls k1 A5 c5 x5 q.f1 t t2 _ (by repeat (first | (with_reducible exact HX3.out) | (with_reducible refine Kd.C_alloc ?_ _) | (with_reducible refine Kd.C_drewN ?_ _) | (with_reducible refine Kd.C_drew ?_))) HL5.out A9.out).mono ?_); rintro e w4 ⟨v8, rfl, hS, hb⟩; have HS4 := Aside0.mk hS; have HB4 := Aside0.mk (below_step (by repeat (first | (with_reducible first | exact HB3.out | apply below_alloc | apply pw_below_drewN | apply below_drew1))) hb); have HZ := Aside0.mk (below_size (by repeat (first | (with_reducible first | exact HB3.out | apply below_alloc | apply pw_below_drewN | apply below_drew1)))); clear hS hb)
        go_meet
        exact ⟨t, ⟨Kd.N_mono (Kd.N_lower (Kd.S_N (Kd.S_bound HS4.out)) HZ.out) (fun k_ hk => Nat.le_trans HZ.out hk.2.1)⟩, HB4, HH⟩
      rw [if_neg q3] at H
      have q3b : (q.f0 == 3) = false := beq_eq_false_iff_ne.mpr q3
      clear q3
      by_cases q4 : q.f0 = 4
      case neg =>
        rw [if_neg q4] at H
        have q4b : (q.f0 == 4) = false := beq_eq_false_iff_ne.mpr q4
        have HH := Aside0.mk H
        clear H q4
        go_wp2
        go_meet
        exact ⟨[], ⟨Kd.N_nil _ _ _ _ _⟩, ⟨(by repeat (first | (with_reducible first | exact HB3.out | apply below_alloc | apply pw_below_drewN | apply below_drew1)))⟩, HH⟩
      rw [if_pos q4] at H
      obtain ⟨ks, A80, H⟩ := Option.bind_eq_some_iff.mp H
      obtain ⟨⟨t, t2⟩, A90, H⟩ := Option.bind_eq_some_iff.mp H
      have A8 := Aside0.mk A80
      have A9 := Aside0.mk A90
      have HH := Aside0.mk H
      have q4b : (q.f0 == 4) = true := beq_iff_eq.mpr q4
      clear A80 A90 H q4
      go_upto_region 16 with ((with_reducible refine gate_store (t := 3) (p := 56) rfl ?_); refine store_event (t := 3) (p := 56) (v := ?vo_w24) (w1 := (w3.setCell ⟨g, 8, none⟩ (.int .i64 0))) ?hg ?ho ?hn ?hr ?_; (case ho => rfl); (case hg => rfl); (case hn => rfl); (case hr => first | (go_simp; done) | (go_simp; rfl)); intro w5 hw; have BK5 := Aside0.mk (show w5.heap[g]? = some (.cells #[.int .i64 q.f0, .int .i64 q.f1, .bool q.f2.f0, .int .i64 q.f2.f1, .int .i64 q.f2.f2, .int .i64 q.f2.f3, .int .i64 q.f2.f4, .slice A7 q.f2.f5.length c7, .int .i64 0] 32 (0, 0)) from by rw [hw]; exact blk_put BK3.out 8 _ rfl); have HB5 := Aside0.mk (show Below wr.heap.size wr w5 from by rw [hw]; exact below_set HB3.out GE.out); clear hw)
      clear hy0 hy1 hy2 hy3 hy4 hy5 hy6 hy7 hy8 hfy8 HX3 HI3 HS3 BK3 HB3
      have HX3 := Aside0.mk (Kd.C_below HX6.out HB5.out)
      have HI3 := Aside0.mk (Kd.C_below HI6.out HB5.out)
      have HB3 := HB5
      have hz0 : w5.cell? ⟨g, 0, none⟩ = some (.int .i64 q.f0) := (blk_cell BK5.out 0).trans rfl
      have hz1 : w5.cell? ⟨g, 1, none⟩ = some (.int .i64 q.f1) := (blk_cell BK5.out 1).trans rfl
      have hz2 : w5.cell? ⟨g, 2, none⟩ = some (.bool q.f2.f0) := (blk_cell BK5.out 2).trans rfl
      have hz3 : w5.cell? ⟨g, 3, none⟩ = some (.int .i64 q.f2.f1) := (blk_cell BK5.out 3).trans rfl
      have hz4 : w5.cell? ⟨g, 4, none⟩ = some (.int .i64 q.f2.f2) := (blk_cell BK5.out 4).trans rfl
      have hz5 : w5.cell? ⟨g, 5, none⟩ = some (.int .i64 q.f2.f3) := (blk_cell BK5.out 5).trans rfl
      have hz6 : w5.cell? ⟨g, 6, none⟩ = some (.int .i64 q.f2.f4) := (blk_cell BK5.out 6).trans rfl
      have hz7 : w5.cell? ⟨g, 7, none⟩ = some (.slice A7 q.f2.f5.length c7) := (blk_cell BK5.out 7).trans rfl
      have hz8 : w5.cell? ⟨g, 8, none⟩ = some (.int .i64 0) := (blk_cell BK5.out 8).trans rfl
      go_upto_region 17 with (go_at_call 39; (with_reducible refine (conclavelaw04_keys.calls k1 A5 c5 x5 q.f0 q.f1 q.f2.f0 q.f2.f1 q.f2.f2 q.f2.f3 q.f2.f4 A7 c7 q.f2.f5 0 ks _ (by repeat (first | (with_reducible exact HX3.out) | (with_reducible refine Kd.C_alloc ?_ _) | (with_reducible refine Kd.C_drewN ?_ _) | (with_reducible refine Kd.C_drew ?_))) HL5.out (by repeat (first | (with_reducible exact HI3.out) | (with_reducible refine Kd.C_alloc ?_ _) | (with_reducible refine Kd.C_drewN ?_ _) | (with_reducible refine Kd.C_drew ?_))) HL7.out A8.out).mono ?_); rintro e w6 ⟨v9, rfl, hR, hb⟩; have HR6 := Aside0.mk hR; have BK6 := Aside0.mk (blk_below BK5.out hb); have HB6 := Aside0.mk (below_step (by repeat (first | (with_reducible first | exact HB3.out | apply below_alloc | apply pw_below_drewN | apply below_drew1))) hb); clear hR hb)
      clear hz0 hz1 hz2 hz3 hz4 hz5 hz6 hz7 hz8 HX3 HI3 HB3 HB5 BK5
      have HX3 := Aside0.mk (Kd.C_below HX6.out HB6.out)
      have HI3 := Aside0.mk (Kd.C_below HI6.out HB6.out)
      have HB3 := HB6
      obtain ⟨Ak, ck, rfl⟩ := Kd.R_slice HR6.out
      have HK6 := Aside0.mk (Kd.R_reads' HR6.out).2.2
      have HKL := Aside0.mk (Kd.R_reads' HR6.out).2.1
      have hu0 : w6.cell? ⟨g, 0, none⟩ = some (.int .i64 q.f0) := (blk_cell BK6.out 0).trans rfl
      have hu1 : w6.cell? ⟨g, 1, none⟩ = some (.int .i64 q.f1) := (blk_cell BK6.out 1).trans rfl
      have hu2 : w6.cell? ⟨g, 2, none⟩ = some (.bool q.f2.f0) := (blk_cell BK6.out 2).trans rfl
      have hu3 : w6.cell? ⟨g, 3, none⟩ = some (.int .i64 q.f2.f1) := (blk_cell BK6.out 3).trans rfl
      have hu4 : w6.cell? ⟨g, 4, none⟩ = some (.int .i64 q.f2.f2) := (blk_cell BK6.out 4).trans rfl
      have hu5 : w6.cell? ⟨g, 5, none⟩ = some (.int .i64 q.f2.f3) := (blk_cell BK6.out 5).trans rfl
      have hu6 : w6.cell? ⟨g, 6, none⟩ = some (.int .i64 q.f2.f4) := (blk_cell BK6.out 6).trans rfl
      have hu7 : w6.cell? ⟨g, 7, none⟩ = some (.slice A7 q.f2.f5.length c7) := (blk_cell BK6.out 7).trans rfl
      have hu8 : w6.cell? ⟨g, 8, none⟩ = some (.int .i64 0) := (blk_cell BK6.out 8).trans rfl
      go_wp2_with (go_at_call 49; (with_reducible refine (conclaveref04_Merge.calls k1 A5 c5 x5 q.f1 q.f2.f0 q.f2.f1 q.f2.f2 q.f2.f3 q.f2.f4 (fun _ => True) A7 c7 q.f2.f5 Ak ck ks Ak ck ks t t2 _ (by repeat (first | (with_reducible exact HX3.out) | (with_reducible refine Kd.C_alloc ?_ _) | (with_reducible refine Kd.C_drewN ?_ _) | (with_reducible refine Kd.C_drew ?_))) HL5.out (V_int HL7.out (by repeat (first | (with_reducible exact HI3.out) | (with_reducible refine Kd.C_alloc ?_ _) | (with_reducible refine Kd.C_drewN ?_ _) | (with_reducible refine Kd.C_drew ?_)))) (by repeat (first | (with_reducible exact HK6.out) | (with_reducible refine Kd.C_alloc ?_ _) | (with_reducible refine Kd.C_drewN ?_ _) | (with_reducible refine Kd.C_drew ?_))) HKL.out (by repeat (first | (with_reducible exact HK6.out) | (with_reducible refine Kd.C_alloc ?_ _) | (with_reducible refine Kd.C_drewN ?_ _) | (with_reducible refine Kd.C_drew ?_))) HKL.out A9.out).mono ?_); rintro e w4 ⟨v8, rfl, hS, hb⟩; have HS4 := Aside0.mk hS; have HB4 := Aside0.mk (below_step (by repeat (first | (with_reducible first | exact HB3.out | apply below_alloc | apply pw_below_drewN | apply below_drew1))) hb); have HZ := Aside0.mk (below_size (by repeat (first | (with_reducible first | exact HB3.out | apply below_alloc | apply pw_below_drewN | apply below_drew1)))); clear hS hb)
      go_meet
      exact ⟨t, ⟨Kd.N_mono (Kd.N_lower (Kd.S_N HS4.out) HZ.out) (fun k_ hk => Nat.le_trans HZ.out hk)⟩, HB4, HH⟩
    case rest =>
    obtain ⟨x8, HN8, HB8, HH⟩ := hcut
    clear hy0 hy1 hy2 hy3 hy4 hy5 hy6 hy7 hy8 hfy8 HX3 HI3 HS3 BK3 HB3
    have H := HH.out
    clear HH
    obtain ⟨A8, c8, rfl⟩ := Kd.N_slice HN8.out
    by_cases c9 : (x8.length : Int) > 0
    · rw [if_pos c9] at H
      have HH := Aside0.mk H
      have c9b : decide (0 < (x8.length : Int)) = true := decide_eq_true c9
      have c9n : decide (0 < x8.length) = true := decide_eq_true (by omega)
      clear c9 H
      go_wp2
      go_roundg k1
      case measure => have := HK1.out; omega
      case rel => exact ⟨x8, wrap64 (x15 + 1), (by first | rfl | (simp; done) | (simp [*]; done)), HH, ⟨by have := HK1.out; omega⟩, ⟨by (with_reducible repeat (first | apply Kd.N_alloc | apply Kd.N_drewN | apply Kd.N_drew)); exact Kd.N_mono (Kd.N_lower HN8.out (below_size HB.out)) (fun k_ hk => .inr (Nat.le_trans (below_size HB.out) hk))⟩, ⟨by (with_reducible repeat (first | refine Kd.C_alloc ?_ _ | refine Kd.C_drewN ?_ _ | refine Kd.C_drew ?_)); exact Kd.C_below HCS.out HB8.out⟩, ⟨by repeat (first | (with_reducible first | exact (below_step HB.out HB8.out) | apply below_alloc | apply pw_below_drewN | apply below_drew1))⟩⟩
    · rw [if_neg c9] at H
      have HH := Aside0.mk H
      have c9b : decide (0 < (x8.length : Int)) = false := decide_eq_false c9
      have c9n : decide (0 < x8.length) = false := decide_eq_false (by omega)
      clear c9 H
      go_wp2
      go_roundg k1
      case measure => have := HK1.out; omega
      case rel => exact ⟨x5, wrap64 (x15 + 1), (by first | rfl | (simp; done) | (simp [*]; done)), HH, ⟨by have := HK1.out; omega⟩, ⟨by (with_reducible repeat (first | apply Kd.N_alloc | apply Kd.N_drewN | apply Kd.N_drew)); exact Kd.N_below HN.out HB8.out⟩, ⟨by (with_reducible repeat (first | refine Kd.C_alloc ?_ _ | refine Kd.C_drewN ?_ _ | refine Kd.C_drew ?_)); exact Kd.C_below HCS.out HB8.out⟩, ⟨by repeat (first | (with_reducible first | exact (below_step HB.out HB8.out) | apply below_alloc | apply pw_below_drewN | apply below_drew1))⟩⟩
end Go.Proofs.YtbblomnhobodkaaDoor.PTw
