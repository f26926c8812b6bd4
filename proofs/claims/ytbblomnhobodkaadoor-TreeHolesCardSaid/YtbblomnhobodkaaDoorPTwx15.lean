/- What this claim reaches of a longer text of this session. -/
import Derived.Test.YtbblomnhobodkaaDoorPTwx0
import Derived.Test.YtbblomnhobodkaaDoorPTwx1
import Derived.Test.YtbblomnhobodkaaDoorPTwx3
import Derived.Test.YtbblomnhobodkaaDoorPTwx4
import Derived.Test.YtbblomnhobodkaaDoorPTwx13
import Derived.Test.YtbblomnhobodkaaDoorBase
import Derived.Shelf.Spec.TrailingZeros
import Derived.Lib.ItoaNum
import Derived.Lib.LaidTab
import Derived.Test.YtbblomnhobodkaaDoorRangeCell
import Derived.Laws.Bits64
import Derived.Lib.Hide
import Derived.RangeFuncBox
import Derived.Maps.AppendAt
import Derived.Lib.SliceRun
import Derived.Test.YtbblomnhobodkaaDoorShelf
import Derived.Shelf.Spec.SlicesInsert
import Derived.Shelf.Spec.SlicesInsertGrow
namespace Go.Proofs.YtbblomnhobodkaaDoor.PTw
open Go.RowKit Go.Proofs.YtbblomnhobodkaaDoorW.PrintWords Go.Proofs.YtbblomnhobodkaaDoorW.PrintLast Go.Proofs.YtbblomnhobodkaaDoorW.PrintMore
attribute [local go_sem] max2_int min2_int max_two min_two max_three min_three max_four min_four   -- for this text's walks alone
set_option linter.unusedVariables false
set_option linter.unusedSimpArgs false
def tree_clean.l0 : Nat → List Int → Int → Int → List (S29) → Option ((List (S29)))
  | 0, _, _, _, _ => none
  | k + 1, x16, x17, x18, x29 => if x18 < x17 then (if 0 ≤ x18 then (if x18 < (x16.length : Int) then (if 0 ≤ (rd x16 x18) then (if (rd x16 x18) < (x29.length : Int) then (tree_clean.l0 k x16 x17 (wrap64 (x18 + 1)) (x29.set ((rd x16 x18) : Int).toNat (⟨false, 0, 0, 0, 0, ([] : List Int)⟩ : S29))) else (none)) else (none)) else (none)) else (none)) else (some x29)
def tree_clean.f (k : Nat) (l0 : List (S29)) (a1 : Int) : Option ((List (S29))) := (tree_Leaves.f l0).bind fun t598 => ((heap_Path.f (wrap64 (2 * a1)) t598).bind fun bt599 => (tree_clean.l0 k bt599.1 (bt599.1.length : Int) 0 l0))
theorem tree_clean.mono_l : ∀ k, (∀ y0 y1 y2 y3, LeO (tree_clean.l0 k y0 y1 y2 y3) (tree_clean.l0 (k + 1) y0 y1 y2 y3))
  | 0 => fun _ _ _ _ r h => by simp [tree_clean.l0] at h
  | k + 1 => by
    have ih0 := tree_clean.mono_l k
    · intro y0 y1 y2 y3
      unfold tree_clean.l0
      repeat' first
      | (with_reducible exact ih0 _ _ _ _)
      | (with_reducible exact LeO.refl _)
      | (with_reducible exact LeO.none _)
      | (with_reducible refine LeO.ite ?_ ?_)
      | (with_reducible refine LeO.bind ?_ (fun _ => ?_))
      | exact ih0 _ _ _ _
      | exact LeO.none _
      | refine LeO.ite ?_ ?_
      | refine LeO.bind ?_ (fun _ => ?_)
theorem tree_clean.mono : ∀ a0 a1 k, LeO (tree_clean.f k a0 a1) (tree_clean.f (k + 1) a0 a1) := by
  intro a0 a1 k
  have ih0 := tree_clean.mono_l k
  unfold tree_clean.f
  repeat' first
      | (with_reducible exact ih0 _ _ _ _)
      | (with_reducible exact LeO.refl _)
      | (with_reducible exact LeO.none _)
      | (with_reducible refine LeO.ite ?_ ?_)
      | (with_reducible refine LeO.bind ?_ (fun _ => ?_))
      | exact ih0 _ _ _ _
      | exact LeO.none _
      | refine LeO.ite ?_ ?_
      | refine LeO.bind ?_ (fun _ => ?_)
set_option maxHeartbeats 8000000 in
set_option maxRecDepth 100000 in
theorem tree_clean.calls (k : Nat) (A0 : Option Addr) (c0 : Nat) (l0 : List (S29)) (a1 : Int) (r : List (S29)) (ok : Nat → Prop) (w0 w : World) (hrG : TabG w) (hs : Kd.S k29 29 w w0.heap.size ok (.slice A0 l0.length c0) l0) (hB : Below w0.heap.size w0 w) (h : tree_clean.f k l0 a1 = some r) :
    Calls Tryd.prog 61 #[.slice A0 l0.length c0, .int .i64 a1] w fun e w' => e = .returned (.tuple #[]) ∧ Kd.S k29 29 w' w0.heap.size ok (.slice A0 l0.length c0) r ∧ Below w0.heap.size w0 w' ∧ Kept w w' ok := by
  have huV := Tryd.underlying29
  have HT := Aside0.mk hrG
  have HO597 := Aside0.mk hs
  have HB := Aside0.mk hB
  have HKE := Aside0.mk (Kept.refl w ok)
  have H := h
  clear h hs hB hrG
  unfold tree_clean.f at H
  obtain ⟨t598, A40, H⟩ := Option.bind_eq_some_iff.mp H
  have A4 := Aside0.mk A40
  clear A40
  obtain ⟨⟨t599, t600⟩, A50, H⟩ := Option.bind_eq_some_iff.mp H
  replace H : (tree_clean.l0 k t599 (t599.length : Int) 0 l0) = some r := H
  have A5 := Aside0.mk A50
  clear A50
  have H' := Aside0.mk H
  clear H
  go_enter Tryd.func61, Tryd.ntmps61
  go_wp2_with (first | ((with_reducible refine gate_callee (f := 29) rfl ?_); refine goesL_ (some 12) rfl rfl Tryd.func29 (by kernel_rfl) rfl #[.slice A0 l0.length c0] rfl (by (try simp only [List.map_toArray, List.map_cons, List.map_nil]); first | done | rfl) ?_; (with_reducible refine (tree_Leaves.calls _ _ l0 t598 _ ?side1 ?side2 A4.out).mono ?_); (case side1 => repeat (first | exact (Kd.S_reads' HO597.out).2.2 | (with_reducible refine Kd.C_alloc ?_ _) | (with_reducible refine Kd.C_drewN ?_ _) | (with_reducible refine Kd.C_drew ?_))); (case side2 => exact (Kd.S_reads' HO597.out).2.1); rintro e w' ⟨rfl, ⟨nd, rfl⟩⟩; refine ⟨_, rfl, ?_⟩) | ((with_reducible refine gate_callee (f := 52) rfl ?_); refine goesL_ (some 13) rfl rfl Tryd.func52 (by kernel_rfl) rfl #[.int .i64 (wrap64 (2 * a1)), .int .i64 t598] rfl (by (try simp only [List.map_toArray, List.map_cons, List.map_nil]); first | done | rfl) ?_; (with_reducible refine (heap_Path.calls (hrG := ?sideG) (wrap64 (2 * a1)) t598 t599 t600 _ A5.out).mono ?_); (case sideG => first | exact HT.out | exact HT.out.drewN _ | exact (HT.out.drewN _).drewN _); rintro e w7 ⟨v601, rfl, ho0, hb⟩; refine ⟨_, rfl, ?_⟩; have n0_ := Aside0.mk (Kd.S_elder' (by (with_reducible repeat (first | apply Kd.S_alloc | apply Kd.S_drewN | apply Kd.S_drew)); exact HO597.out) (Kd.R_base ho0) hb); have n1_ := Aside0.mk (show Kd.R (Kd.int .i64) 3 w7 w.heap.size (fun _ => True) v601 t599 from ho0); have n2_ := Aside0.mk (below_step (by repeat (first | (with_reducible first | exact HB.out | apply below_alloc | apply pw_below_drewN | apply below_drew1) | exact HB.out)) hb); have n3_ := Aside0.mk (show Kept w w7 ok from (Kept.drewN HKE.out _).below hb); clear HO597; clear HB; clear HKE; have HO597 := n0_; have HO602 := n1_; have HB := n2_; have HKE := n3_; clear n0_ n1_ n2_ n3_; (try clear hb); (try clear ho0); obtain ⟨Ao8, co8, eo8⟩ := Kd.R_slice HO602.out; subst eo8))
  go_loopg [18] k (fun kq v18 w' => ∃ (x18_1 : Int) (x29_1 : List (S29)), v18 = .int .i64 x18_1 ∧ Aside0 (tree_clean.l0 kq t599 (t599.length : Int) x18_1 x29_1 = some r) ∧ Aside0 (kq ≤ k) ∧ Aside0 (Kd.R (Kd.int .i64) 3 w' w.heap.size (fun _ => True) (.slice Ao8 t599.length co8) t599) ∧ Aside0 (Kd.S k29 29 w' w0.heap.size (fun k_ => ok k_ ∧ some k_ ≠ ((.slice Ao8 t599.length co8) : Value).ownBlock) (.slice A0 l0.length c0) x29_1) ∧ Aside0 (Below w0.heap.size w0 w') ∧ Aside0 (Kept w w' ok))
  case atStart => exact ⟨(0), (l0), (by first | rfl | (simp; done) | (simp [*]; done)), H', ⟨Nat.le_refl _⟩, ⟨by (with_reducible repeat (first | apply Kd.R_alloc | apply Kd.R_drewN | apply Kd.R_drew)); exact HO602.out⟩, ⟨by (with_reducible repeat (first | apply Kd.S_alloc | apply Kd.S_drewN | apply Kd.S_drew)); exact HO597.out⟩, ⟨by repeat (first | (with_reducible first | exact HB.out | apply below_alloc | apply pw_below_drewN | apply below_drew1) | exact HB.out)⟩, ⟨HKE.out⟩⟩
  case round =>
    clear H'
    try clear c2
    try clear p2
    try clear c5
    try clear c6
    try clear p6
    obtain ⟨x18_1, x29_1, rfl, HA, HK1, HO_16, HO_29, HB, HKE⟩ := hrel
    have hl29 := Aside0.mk (Kd.S_reads' HO_29.out).1
    cases gk with
    | zero => exact absurd HA.out (by simp [tree_clean.l0])
    | succ k1 =>
      have H := HA.out
      clear HA
      simp only [tree_clean.l0] at H
      by_cases c9 : x18_1 < (t599.length : Int)
      · rw [if_pos c9] at H
        have c9b0 : decide (x18_1 < (t599.length : Int)) = true := decide_eq_true c9
        clear c9
        by_cases c10 : 0 ≤ x18_1
        · rw [if_pos c10] at H
          have c10b0 : decide (0 ≤ x18_1) = true := decide_eq_true c10
          clear c10
          by_cases c11 : x18_1 < (t599.length : Int)
          · rw [if_pos c11] at H
            have c11b0 : decide (x18_1 < (t599.length : Int)) = true := decide_eq_true c11
            clear c11
            by_cases c12 : 0 ≤ (rd t599 x18_1)
            · rw [if_pos c12] at H
              have c12b0 : decide (0 ≤ (rd t599 x18_1)) = true := decide_eq_true c12
              clear c12
              by_cases c13 : (rd t599 x18_1) < (x29_1.length : Int)
              · rw [if_pos c13] at H
                have c13b0 : decide ((rd t599 x18_1) < (x29_1.length : Int)) = true := decide_eq_true c13
                have c13b1 : decide ((rd t599 x18_1) < (l0.length : Int)) = true := decide_eq_true (by have := hl29.out; omega)
                clear c13
                obtain ⟨y604, hy604⟩ : ∃ y_ : List (S29), y_ = (x29_1.set ((rd t599 x18_1) : Int).toNat (⟨false, 0, 0, 0, 0, ([] : List Int)⟩ : S29)) := ⟨_, rfl⟩
                replace H : (tree_clean.l0 k1 t599 (t599.length : Int) (wrap64 (x18_1 + 1)) y604) = some r := by first | (rw [hy604]; with_reducible exact H) | (have H2_ := (Option.bind_some _ _).symm.trans H; rw [hy604]; with_reducible exact H2_) | (have H2_ := (Option.bind_some _ _).symm.trans H; with_reducible exact H2_) | with_reducible exact H | (rw [hy604]; exact H) | exact H
                have Ny604 := Aside0.mk hy604
                clear hy604
                have H' := Aside0.mk H
                clear H
                have p603 : 0 ≤ (x18_1 : Int) := of_decide_eq_true (by first | (with_reducible assumption) | assumption)
                have q603 : x18_1 < (t599.length : Int) := of_decide_eq_true (by first | (with_reducible assumption) | assumption)
                obtain ⟨ad603, e603, hx603_0⟩ := Kd.at_int (Kd.R_reads' HO_16.out).2.2 x18_1 p603 q603
                cases e603
                replace p603 := eq_true p603
                replace q603 := eq_true q603
                have p14 : 0 ≤ ((rd t599 x18_1) : Int) := of_decide_eq_true (by first | (with_reducible assumption) | assumption)
                have q14 : ((rd t599 x18_1) : Int) < ((l0.length : Int) : Int) := of_decide_eq_true (by first | (with_reducible assumption) | assumption)
                obtain ⟨go14, co14, eo14, gb14, gl14, cl14, HG14⟩ := Kd.S_form HO_29.out (by have := hl29.out; omega)
                (first | cases eo14 | (injection eo14 with ea_ en_ ec_; (first | subst ea_ | (injection ea_ with ea_; subst ea_)); subst ec_; clear en_))
                have GB14 := Aside0.mk gb14
                have GG14 := Aside0.mk HG14
                clear gb14 gl14 HG14
                obtain ⟨_, ce14, hcl14, hM14, hcc14, hfr14, _, _⟩ := Kd.S_elem HO_29.out z29 ((rd t599 x18_1) : Int) p14 q14
                obtain ⟨ve14_5, rfl, ge14_5⟩ := k29_openM hM14
                have hx14_0 : wr.cell? ⟨go14, ((rd t599 x18_1) : Int).toNat * 6, none⟩ = some (.bool ((rd_T29 x29_1 (rd t599 x18_1)).f0)) := hcc14 0 _ rfl
                have hx14_1 : wr.cell? ⟨go14, ((rd t599 x18_1) : Int).toNat * 6 + 1, none⟩ = some (.int .i64 ((rd_T29 x29_1 (rd t599 x18_1)).f1)) := hcc14 1 _ rfl
                have hx14_2 : wr.cell? ⟨go14, ((rd t599 x18_1) : Int).toNat * 6 + 2, none⟩ = some (.int .i64 ((rd_T29 x29_1 (rd t599 x18_1)).f2)) := hcc14 2 _ rfl
                have hx14_3 : wr.cell? ⟨go14, ((rd t599 x18_1) : Int).toNat * 6 + 3, none⟩ = some (.int .i64 ((rd_T29 x29_1 (rd t599 x18_1)).f3)) := hcc14 3 _ rfl
                have hx14_4 : wr.cell? ⟨go14, ((rd t599 x18_1) : Int).toNat * 6 + 4, none⟩ = some (.int .i64 ((rd_T29 x29_1 (rd t599 x18_1)).f4)) := hcc14 4 _ rfl
                have hx14_5 : wr.cell? ⟨go14, ((rd t599 x18_1) : Int).toNat * 6 + 5, none⟩ = some (ve14_5) := hcc14 5 _ rfl
                have hf14_0 : wr.frozen? ⟨go14, ((rd t599 x18_1) : Int).toNat * 6, none⟩ = false := hfr14 0
                have hf14_1 : wr.frozen? ⟨go14, ((rd t599 x18_1) : Int).toNat * 6 + 1, none⟩ = false := hfr14 1
                have hf14_2 : wr.frozen? ⟨go14, ((rd t599 x18_1) : Int).toNat * 6 + 2, none⟩ = false := hfr14 2
                have hf14_3 : wr.frozen? ⟨go14, ((rd t599 x18_1) : Int).toNat * 6 + 3, none⟩ = false := hfr14 3
                have hf14_4 : wr.frozen? ⟨go14, ((rd t599 x18_1) : Int).toNat * 6 + 4, none⟩ = false := hfr14 4
                have hf14_5 : wr.frozen? ⟨go14, ((rd t599 x18_1) : Int).toNat * 6 + 5, none⟩ = false := hfr14 5
                clear hcl14 hcc14 hfr14 hM14
                replace p14 := eq_true p14
                replace q14 := eq_true q14
                have HX15 := Aside0.mk (show Kd.S k29 29 wr w0.heap.size (fun k_ => ((fun k_ => ok k_ ∧ some k_ ≠ (.slice (some ad603) t599.length co8 : Value).ownBlock)) k_ ∧ ¬ ((fun _ => False)) k_) (.slice (some ⟨go14, 0, none⟩) l0.length c0) x29_1 from (by (with_reducible repeat (first | apply Kd.S_alloc | apply Kd.S_drewN | apply Kd.S_drew)); exact Kd.S_mono HO_29.out (fun k_ hk => ⟨hk, fun e_ => e_⟩)))
                obtain ⟨oki15, ce15, hcl15, hM15, hcc15, hfr15, hoki15, hH15⟩ := Kd.S_elem HX15.out z29 ((rd t599 x18_1) : Int) (of_decide_eq_true (by first | (with_reducible assumption) | assumption)) (by have h_ : ((rd t599 x18_1) : Int) < ((l0.length : Int) : Int) := of_decide_eq_true (by first | (with_reducible assumption) | assumption); first | exact h_ | (have e_ := (Kd.S_reads' HO_29.out).1; omega) | simpa using h_)
                obtain ⟨ve15_5, rfl, ge15_5⟩ := k29_openM hM15
                have HP15 := Kd.S_seg hH15 (of_decide_eq_true (by first | (with_reducible assumption) | assumption)) (by have h_ : ((rd t599 x18_1) : Int) < ((l0.length : Int) : Int) := of_decide_eq_true (by first | (with_reducible assumption) | assumption); first | exact h_ | (have e_ := (Kd.S_reads' HO_29.out).1; omega) | simpa using h_) (seg := [.bool false, .int .i64 0, .int .i64 0, .int .i64 0, .int .i64 0, .slice none 0 0]) (j := 0) (show 6 ≤ 6 from by decide) (x' := (⟨false, 0, 0, 0, 0, ([] : List Int)⟩ : S29)) (k29_mkM _ _ _ (⟨false, 0, 0, 0, 0, ([] : List Int)⟩ : S29) (Kd.R_nil _ _ _ _ _)) (fun _ hk => hk) (fun k_ hk_ => hk_.elim)
                have hx15_0 := hcc15 0 _ rfl
                (try simp only [show (k29).sz = 6 from rfl, Nat.mul_one, Nat.add_zero] at hx15_0)
                have hf15_0 := hfr15 0
                (try simp only [show (k29).sz = 6 from rfl, Nat.mul_one, Nat.add_zero] at hf15_0)
                have hx15_1 := hcc15 1 _ rfl
                (try simp only [show (k29).sz = 6 from rfl, Nat.mul_one, Nat.add_zero] at hx15_1)
                have hf15_1 := hfr15 1
                (try simp only [show (k29).sz = 6 from rfl, Nat.mul_one, Nat.add_zero] at hf15_1)
                have hx15_2 := hcc15 2 _ rfl
                (try simp only [show (k29).sz = 6 from rfl, Nat.mul_one, Nat.add_zero] at hx15_2)
                have hf15_2 := hfr15 2
                (try simp only [show (k29).sz = 6 from rfl, Nat.mul_one, Nat.add_zero] at hf15_2)
                have hx15_3 := hcc15 3 _ rfl
                (try simp only [show (k29).sz = 6 from rfl, Nat.mul_one, Nat.add_zero] at hx15_3)
                have hf15_3 := hfr15 3
                (try simp only [show (k29).sz = 6 from rfl, Nat.mul_one, Nat.add_zero] at hf15_3)
                have hx15_4 := hcc15 4 _ rfl
                (try simp only [show (k29).sz = 6 from rfl, Nat.mul_one, Nat.add_zero] at hx15_4)
                have hf15_4 := hfr15 4
                (try simp only [show (k29).sz = 6 from rfl, Nat.mul_one, Nat.add_zero] at hf15_4)
                have hx15_5 := hcc15 5 _ rfl
                (try simp only [show (k29).sz = 6 from rfl, Nat.mul_one, Nat.add_zero] at hx15_5)
                have hf15_5 := hfr15 5
                (try simp only [show (k29).sz = 6 from rfl, Nat.mul_one, Nat.add_zero] at hf15_5)
                clear hcl15 hcc15 hfr15 hM15 hoki15 hH15
                go_wp2_with (first | ((with_reducible refine gate_store (t := 29) (p := 25) rfl ?_); refine store_event (t := 29) (p := 25) (v := ?vo_w16) (w1 := ((((((wr.setCell ⟨go14, ((rd t599 x18_1) : Int).toNat * 6, none⟩ (.bool false)).setCell ⟨go14, ((rd t599 x18_1) : Int).toNat * 6 + 1, none⟩ (.int .i64 0)).setCell ⟨go14, ((rd t599 x18_1) : Int).toNat * 6 + 2, none⟩ (.int .i64 0)).setCell ⟨go14, ((rd t599 x18_1) : Int).toNat * 6 + 3, none⟩ (.int .i64 0)).setCell ⟨go14, ((rd t599 x18_1) : Int).toNat * 6 + 4, none⟩ (.int .i64 0)).setCell ⟨go14, ((rd t599 x18_1) : Int).toNat * 6 + 5, none⟩ (.slice none 0 0))) ?hg ?ho ?hn ?hr ?_; (case ho => rfl); (case hg => rfl); (case hn => rfl); (case hr => first | (go_simp; done) | (go_simp; rfl)); intro w16 hw; have hg : wr.grownBy w16 (some go14) := (by rw [hw]; exact HP15.2); have hp_ : Kd.S k29 29 w16 w0.heap.size (fun k_ => ok k_ ∧ some k_ ≠ (.slice (some ad603) t599.length co8 : Value).ownBlock) (.slice (some ⟨go14, 0, none⟩) l0.length c0) y604 := (by rw [hw, Ny604.out]; exact HP15.1); clear HP15; have n0_ := Aside0.mk (Kd.R_over' (v := (.slice (some ⟨go14, 0, none⟩) l0.length c0)) (by (with_reducible repeat (first | apply Kd.R_alloc | apply Kd.R_drewN | apply Kd.R_drew)); exact HO_16.out) (Kd.S_typed HO_29.out) (by decide) hg); have n1_ := Aside0.mk (hp_); have n2_ := Aside0.mk ((by rw [hw]; exact below_set (below_set (below_set (below_set (below_set (below_set (HB.out) GB14.out) GB14.out) GB14.out) GB14.out) GB14.out) GB14.out : Below w0.heap.size w0 w16)); have n3_ := Aside0.mk (Kept.of_grown hg HKE.out (fun k_ e_ => by cases e_; exact .inl ((Kd.S_R HO_29.out).1 _ rfl).1)); clear HO_16; clear HO_29; clear HB; clear HKE; have HO_16 := n0_; have HO_29 := n1_; have HB := n2_; have HKE := n3_; clear n0_ n1_ n2_ n3_; clear hg hw hp_))
                go_roundg k1
                case measure => have := HK1.out; omega
                case rel => exact ⟨(wrap64 (x18_1 + 1)), (y604), (by first | rfl | (simp; done) | (simp [*]; done)), H', ⟨by have := HK1.out; omega⟩, ⟨by (with_reducible repeat (first | apply Kd.R_alloc | apply Kd.R_drewN | apply Kd.R_drew)); exact HO_16.out⟩, ⟨by (with_reducible repeat (first | apply Kd.S_alloc | apply Kd.S_drewN | apply Kd.S_drew)); exact HO_29.out⟩, ⟨by repeat (first | (with_reducible first | exact HB.out | apply below_alloc | apply pw_below_drewN | apply below_drew1) | exact HB.out)⟩, ⟨HKE.out⟩⟩
              · rw [if_neg c13] at H
                exact absurd H (by simp)
            · rw [if_neg c12] at H
              exact absurd H (by simp)
          · rw [if_neg c11] at H
            exact absurd H (by simp)
        · rw [if_neg c10] at H
          exact absurd H (by simp)
      · rw [if_neg c9] at H
        have c9b0 : decide (x18_1 < (t599.length : Int)) = false := decide_eq_false c9
        clear c9
        obtain rfl := Option.some.inj H
        go_wp2
        go_end0
        exact ⟨rfl, Kd.S_mono HO_29.out (fun _ hk => hk.1), HB.out, HKE.out⟩
theorem C_cut {α : Type} {d : Kd α} {w : World} {A : Option Addr} {n : Nat} {xs : List α} (h : d.C w A n xs) (m : Nat) (hm : m ≤ n) : d.C w A m (xs.take m) := by
  refine ⟨by rw [List.length_take, h.1]; omega, by have := h.2.1; omega, fun hp => ?_⟩
  obtain ⟨ad, e, hc⟩ := h.2.2 (by omega)
  refine ⟨ad, e, fun j p hj => hc j p ?_⟩
  rw [List.getElem?_take] at hj
  split at hj
  · exact hj
  · cases hj
theorem V_cut {α : Type} {d : Kd α} {e : Nat} {W : World} {b : Nat} {ok : Nat → Prop} {A : Option Addr} {n c : Nat} {xs : List α} (h : Kd.V d e W b ok (.slice A n c) xs) (m : Nat) (hm : m ≤ xs.length) : Kd.V d e W b ok (.slice A m m) (xs.take m) := by
  obtain ⟨A', c0, hv, hl, hF⟩ := h
  injection hv with e1 e2 e3
  subst e1
  have hlt : (xs.take m).length = m := by rw [List.length_take]; omega
  refine ⟨A, m, by rw [hlt], by rw [hlt]; exact Nat.le_refl _, ?_⟩
  rw [hlt]
  exact Kd.F_imp hF (fun W' h' => C_cut h' m hm)
theorem V_now {α : Type} {d : Kd α} {e : Nat} {W : World} {b : Nat} {ok : Nat → Prop} {A : Option Addr} {n c : Nat} {xs : List α} (h : Kd.V d e W b ok (.slice A n c) xs) : n = xs.length ∧ n ≤ c ∧ d.C W A xs.length xs := by
  obtain ⟨A', c0, hv, hl, hF⟩ := h
  injection hv with e1 e2 e3
  subst e1 e3
  exact ⟨e2, by rw [e2]; exact hl, Kd.F_now hF⟩
theorem clip_calls (A : Option Addr) (n c : Nat) (hnc : n ≤ c) (w : World) : Calls Tryd.prog 62 #[.slice A n c] w fun e w' => e = .returned (.slice A n n) ∧ w' = w := by
  have h1 : decide ((n : Int) ≤ (c : Int)) = true := by simp; omega
  go_enter Tryd.func62, Tryd.ntmps62
  go_wp2
  go_ret
  exact ⟨rfl, rfl⟩
def tree_Remove.l0 : Nat → List (S29) → Option ((List (S29)) × Int)
  | 0, _ => none
  | k + 1, x => (tree_tight.f k x).bind fun b => if b = true then some (x, 0) else tree_Remove.l0 k (x.take (x.length / 2))
def tree_Remove.f (k : Nat) (l0 : List (S29)) (a1 : Int) : Option ((List (S29)) × Int) := (tree_full.f l0 a1).bind fun t => if t = true then ((tree_Members.f k l0).bind fun ms => if ms.length = 1 then some (([] : List (S29)), 40) else ((tree_copied.f k l0).bind fun t2 => if 0 ≤ (wrap64 (2 * a1)) then (if (wrap64 (2 * a1)) < (t2.length : Int) then ((tree_clean.f k (t2.set ((wrap64 (2 * a1)) : Int).toNat (⟨false, 0, 0, 0, 0, ([] : List Int)⟩ : S29)) a1).bind fun t3 => tree_Remove.l0 k t3) else none) else none)) else some (([] : List (S29)), 40)
theorem tree_Remove.mono_l : ∀ k, (∀ y0, LeO (tree_Remove.l0 k y0) (tree_Remove.l0 (k + 1) y0))
  | 0 => fun _ r h => by simp [tree_Remove.l0] at h
  | k + 1 => by
    have ih0 := tree_Remove.mono_l k
    intro y0
    unfold tree_Remove.l0
    refine LeO.bind (tree_tight.mono _ _) (fun _ => ?_)
    exact LeO.ite (LeO.refl _) (ih0 _)
theorem tree_Remove.mono : ∀ a0 a1 k, LeO (tree_Remove.f k a0 a1) (tree_Remove.f (k + 1) a0 a1) := by
  intro a0 a1 k
  have ih0 := tree_Remove.mono_l k
  unfold tree_Remove.f
  refine LeO.bind (LeO.refl _) (fun _ => LeO.ite (LeO.bind (tree_Members.mono _ _) (fun _ => LeO.ite (LeO.refl _) (LeO.bind (tree_copied.mono _ _) (fun _ => LeO.ite (LeO.ite (LeO.bind (tree_clean.mono _ _ _) (fun _ => ih0 _)) (LeO.none _)) (LeO.none _))))) (LeO.refl _))
set_option maxHeartbeats 8000000 in
set_option maxRecDepth 100000 in
theorem tree_Remove.calls (k : Nat) (P0_ : Nat → Prop) (A0 : Option Addr) (c0 : Nat) (l0 : List (S29)) (a1 : Int) (r1 : List (S29)) (r2 : Int) (w : World) (hrG : TabG w) (hs0 : Kd.V k29 29 w w.heap.size (fun k_ => P0_ k_) (.slice A0 l0.length c0) l0) (h : tree_Remove.f k l0 a1 = some (r1, r2)) :
    Calls Tryd.prog 32 #[.slice A0 l0.length c0, .int .i64 a1] w fun e w' => ∃ v0_ : Value, e = .returned (.tuple #[v0_, .int .i64 r2]) ∧ Kd.V k29 29 w' w.heap.size (fun k_ => (P0_ k_ ∨ w.heap.size ≤ k_)) v0_ r1 ∧ Below w.heap.size w w' := by
  have huV := Tryd.underlying29
  have HT := Aside0.mk hrG
  obtain ⟨_, hlc, hC⟩ := V_now hs0
  have HC := Aside0.mk hC
  have HL := Aside0.mk hlc
  clear hrG hs0 hC hlc
  unfold tree_Remove.f at h
  obtain ⟨t, A40, H⟩ := Option.bind_eq_some_iff.mp h
  have A4 := Aside0.mk A40
  clear A40 h
  cases t
  · rw [if_neg (by decide)] at H
    simp only [Option.some.injEq, Prod.mk.injEq] at H
    obtain ⟨rfl, rfl⟩ := H
    go_enter Tryd.func32, Tryd.ntmps32
    go_wp2_with (go_at_call 60; (with_reducible refine (tree_full.calls _ _ l0 a1 false _ HC.out HL.out A4.out).mono ?_); rintro e w1 ⟨rfl, ⟨nd, rfl⟩⟩)
    go_ret2
    exact ⟨_, rfl, Kd.V_nil _ _ _ _ _, pw_below_drewN (Below.refl _ _) _⟩
  · rw [if_pos rfl] at H
    obtain ⟨ms, A50, H⟩ := Option.bind_eq_some_iff.mp H
    have A5 := Aside0.mk A50
    clear A50
    go_enter Tryd.func32, Tryd.ntmps32
    by_cases hm : ms.length = 1
    · rw [if_pos hm] at H
      simp only [Option.some.injEq, Prod.mk.injEq] at H
      obtain ⟨rfl, rfl⟩ := H
      go_wp2_with (first
        | (go_at_call 60; (with_reducible refine (tree_full.calls _ _ l0 a1 true _ HC.out HL.out A4.out).mono ?_); rintro e w1 ⟨rfl, ⟨nd, rfl⟩⟩)
        | (go_at_call 24; (with_reducible refine (tree_Members.calls _ _ _ l0 ms _ (Kd.C_drewN HC.out nd) HL.out A5.out).mono ?_); rintro e w2 ⟨v2, rfl, hR, hb⟩; obtain ⟨A2, c2, rfl⟩ := Kd.R_slice hR; rw [hm]; have HB2 := Aside0.mk (below_step (pw_below_drewN (Below.refl w.heap.size w) nd) hb); clear hR hb))
      go_ret2
      exact ⟨_, rfl, Kd.V_nil _ _ _ _ _, HB2.out⟩
    · rw [if_neg hm] at H
      have hmb : ((ms.length : Int) == 1) = false := by simp; omega
      obtain ⟨t2, A60, H⟩ := Option.bind_eq_some_iff.mp H
      have A6 := Aside0.mk A60
      clear A60
      have ex : ∃ ji, wrap64 (2 * a1) = ji := ⟨_, rfl⟩
      obtain ⟨ji, hji⟩ := ex
      rw [hji] at H
      have hjiw : (IntKind.i64.wrap (2 * a1)) = ji := (i64_w _).trans hji
      by_cases h0 : 0 ≤ ji
      case neg => rw [if_neg h0] at H; cases H
      rw [if_pos h0] at H
      by_cases h1 : ji < (t2.length : Int)
      case neg => rw [if_neg h1] at H; cases H
      rw [if_pos h1] at H
      obtain ⟨t3, A70, H⟩ := Option.bind_eq_some_iff.mp H
      have A7 := Aside0.mk A70
      have HH := Aside0.mk H
      clear A70 H hm
      go_upto_region 4 with (first
        | (go_at_call 60; (with_reducible refine (tree_full.calls _ _ l0 a1 true _ HC.out HL.out A4.out).mono ?_); rintro e w1 ⟨rfl, ⟨nd, rfl⟩⟩)
        | (go_at_call 24; (with_reducible refine (tree_Members.calls _ _ _ l0 ms _ (Kd.C_drewN HC.out nd) HL.out A5.out).mono ?_); rintro e w2 ⟨v2, rfl, hR, hb⟩; obtain ⟨A2, c2, rfl⟩ := Kd.R_slice hR; have HB2 := Aside0.mk (below_step (pw_below_drewN (Below.refl w.heap.size w) nd) hb); have HC2 := Aside0.mk (Kd.C_below (Kd.C_drewN HC.out nd) hb); clear hR hb)
        | (go_at_call 50; (with_reducible refine (tree_copied.calls _ _ _ l0 t2 _ HC2.out HL.out A6.out).mono ?_); rintro e w3 ⟨v3, rfl, hS, hb⟩; have HB3 := Aside0.mk (below_step HB2.out hb); have HS3 := Aside0.mk (Kd.S_lower hS (by exact (below_size HB2.out))); clear hS hb))
      obtain ⟨g, c3, rfl, gb, gl, _, _⟩ := Kd.S_form HS3.out (by omega)
      obtain ⟨oki, ce, hcl, hM, hcc, hfr, hoki, hH⟩ := Kd.S_elem HS3.out z29 ji h0 h1
      obtain ⟨ve5, rfl, ge5⟩ := k29_openM hM
      have HP := Aside0.mk (Kd.S_seg0 hH h0 h1 (seg := [.bool false, .int .i64 0, .int .i64 0, .int .i64 0, .int .i64 0, .slice none 0 0]) (j := 0) (show 6 ≤ 6 from by decide) (x' := (⟨false, 0, 0, 0, 0, ([] : List Int)⟩ : S29)) (k29_mkM _ _ _ (⟨false, 0, 0, 0, 0, ([] : List Int)⟩ : S29) (Kd.R_nil _ _ _ _ _)) (fun _ hk => hk))
      have hx0 : w3.cell? ⟨g, ji.toNat * 6, none⟩ = some (.bool _) := hcc 0 _ rfl
      have hx1 : w3.cell? ⟨g, ji.toNat * 6 + 1, none⟩ = some (.int .i64 _) := hcc 1 _ rfl
      have hx2 : w3.cell? ⟨g, ji.toNat * 6 + 2, none⟩ = some (.int .i64 _) := hcc 2 _ rfl
      have hx3 : w3.cell? ⟨g, ji.toNat * 6 + 3, none⟩ = some (.int .i64 _) := hcc 3 _ rfl
      have hx4 : w3.cell? ⟨g, ji.toNat * 6 + 4, none⟩ = some (.int .i64 _) := hcc 4 _ rfl
      have hx5 : w3.cell? ⟨g, ji.toNat * 6 + 5, none⟩ = some ve5 := hcc 5 _ rfl
      have hf0 : w3.frozen? ⟨g, ji.toNat * 6, none⟩ = false := hfr 0
      have hf1 : w3.frozen? ⟨g, ji.toNat * 6 + 1, none⟩ = false := hfr 1
      have hf2 : w3.frozen? ⟨g, ji.toNat * 6 + 2, none⟩ = false := hfr 2
      have hf3 : w3.frozen? ⟨g, ji.toNat * 6 + 3, none⟩ = false := hfr 3
      have hf4 : w3.frozen? ⟨g, ji.toNat * 6 + 4, none⟩ = false := hfr 4
      have hf5 : w3.frozen? ⟨g, ji.toNat * 6 + 5, none⟩ = false := hfr 5
      have GB := Aside0.mk gb
      have p0 := eq_true h0
      have p1 := eq_true h1
      clear hcl hM hcc hfr hoki hH ge5 gb gl HS3 hji h0 h1
      go_upto_region 5 with ((with_reducible refine gate_store (t := 29) (p := 23) rfl ?_); refine store_event (t := 29) (p := 23) (v := ?vo) (w1 := ((((((w3.setCell ⟨g, ji.toNat * 6, none⟩ (.bool false)).setCell ⟨g, ji.toNat * 6 + 1, none⟩ (.int .i64 0)).setCell ⟨g, ji.toNat * 6 + 2, none⟩ (.int .i64 0)).setCell ⟨g, ji.toNat * 6 + 3, none⟩ (.int .i64 0)).setCell ⟨g, ji.toNat * 6 + 4, none⟩ (.int .i64 0)).setCell ⟨g, ji.toNat * 6 + 5, none⟩ (.slice none 0 0))) ?hg ?ho ?hn ?hr ?_; (case ho => rfl); (case hg => rfl); (case hn => rfl); (case hr => first | (go_simp; done) | (go_simp; rfl)); intro w4 hw; have HS4 := Aside0.mk (show Kd.S k29 29 w4 w.heap.size (fun _ => True) (.slice (some ⟨g, 0, none⟩) t2.length c3) (t2.set ji.toNat (⟨false, 0, 0, 0, 0, ([] : List Int)⟩ : S29)) from by rw [hw]; exact HP.out.1); have HG4 := Aside0.mk (show w3.grownBy w4 (some g) from by rw [hw]; exact HP.out.2); clear hw)
      obtain ⟨y, hy⟩ : ∃ y, y = (t2.set ji.toNat (⟨false, 0, 0, 0, 0, ([] : List Int)⟩ : S29)) := ⟨_, rfl⟩
      have hyl : y.length = t2.length := by rw [hy, List.length_set]
      have HB4 := Aside0.mk (show Below w.heap.size w w4 from pw_below_grown HB3.out (some g) (below_size HB3.out) HG4.out (fun k_ e_ => by cases e_; exact GB.out))
      have HT4 := Aside0.mk (TabG.below HT.out HB4.out)
      have HS5 := HS4.out
      have A8 := A7.out
      rw [← hy] at HS5 A8
      have hcl := tree_clean.calls k (some ⟨g, 0, none⟩) c3 y a1 t3 (fun _ => True) w w4 HT4.out (by rw [hyl]; exact HS5) HB4.out A8
      rw [hyl] at hcl
      have HCL := Aside0.mk hcl
      clear hcl HS5 A8 hyl hy y HS4 HP HG4 A7 p0 p1 hx0 hx1 hx2 hx3 hx4 hx5 hf0 hf1 hf2 hf3 hf4 hf5
      go_wp2_with (go_at_call 61; (with_reducible refine HCL.out.mono ?_); rintro e w5 ⟨rfl, hS5, hB5, _⟩; have HS5 := Aside0.mk hS5; have HB5 := Aside0.mk hB5; clear hS5 hB5)
      have h3 := (Kd.S_reads' HS5.out).1
      have HH3 := Aside0.mk h3
      clear h3
      go_loopg [6] k (fun kq v w' => ∃ (x : List (S29)) (A : Option Addr) (n c : Nat), v = .slice A n c ∧ Aside0 (n = x.length) ∧ Aside0 (kq ≤ k) ∧ Aside0 (tree_Remove.l0 kq x = some (r1, r2)) ∧ Aside0 (Kd.V k29 29 w' w.heap.size (fun k_ => (P0_ k_ ∨ w.heap.size ≤ k_)) (.slice A n c) x) ∧ Aside0 (Below w.heap.size w w'))
      case atStart => exact ⟨t3, _, _, _, rfl, HH3, ⟨Nat.le_refl _⟩, HH, ⟨Kd.V_mono (Kd.S_V (Kd.S_bound HS5.out)) (fun k_ hk => .inr hk.2.1)⟩, HB5⟩
      case round =>
        obtain ⟨x, A, n, c, rfl, HN, HK1, HR, HV, HBr⟩ := hrel
        clear HH HH3 HS5 HB5 HCL HB4 HT4 HB3 HB2 HC2 HC
        obtain ⟨hvl, hvc, hvC⟩ := V_now HV.out
        have hvn := HN.out
        cases gk with
        | zero => exact absurd HR.out (by simp [tree_Remove.l0])
        | succ k1 =>
          have H := HR.out
          simp only [tree_Remove.l0] at H
          obtain ⟨b, A90, H⟩ := Option.bind_eq_some_iff.mp H
          have htg := tree_tight.calls k1 A c x b wr hvC (by rw [← hvn]; exact hvc) A90
          rw [← hvn] at htg
          have HTG := Aside0.mk htg
          clear htg A90 HR hvC
          cases b
          · rw [if_neg (by decide)] at H
            have HH := Aside0.mk H
            obtain ⟨m, hm⟩ : ∃ m, m = n / 2 := ⟨_, rfl⟩
            have hq : wrap64 ((n : Int) / 2) = (m : Int) := by
              have := HV.out
              obtain ⟨_, _, _, _, hF⟩ := this
              have hmax := (Kd.F_now hF).2.1
              rw [← hvn] at hmax
              unfold wrap64
              omega
            have hc1 : decide ((m : Int) ≤ (c : Int)) = true := by simp; omega
            have hc2 : decide (m ≤ c) = true := by simp; omega
            have hc3 : (m ≤ c) = True := eq_true (by omega)
            have HCP := Aside0.mk (clip_calls A m c (by omega))
            have HV2 := Aside0.mk (V_cut HV.out m (by omega))
            have HM := Aside0.mk hm
            clear hm
            clear H hvl hvc hvn
            go_wp2_with (first
              | (go_at_call 42; (with_reducible refine HTG.out.mono ?_); rintro e w6 ⟨rfl, ⟨nd6, rfl⟩⟩)
              | (go_at_call 62; (with_reducible refine (HCP.out _).mono ?_); rintro e w7 ⟨rfl, rfl⟩))
            go_roundg k1
            case measure => have := HK1.out; omega
            case rel => exact ⟨x.take m, A, m, m, rfl, ⟨by have := HN.out; have := HM.out; rw [List.length_take]; omega⟩, ⟨by have := HK1.out; omega⟩, ⟨by have := HH.out; rw [← HN.out, ← HM.out] at this; exact this⟩, ⟨Kd.V_drewN HV2.out _⟩, ⟨pw_below_drewN HBr.out _⟩⟩
          · rw [if_pos rfl] at H
            simp only [Option.some.injEq, Prod.mk.injEq] at H
            obtain ⟨rfl, rfl⟩ := H
            clear hvl hvc hvn
            go_wp2_with (go_at_call 42; (with_reducible refine HTG.out.mono ?_); rintro e w6 ⟨rfl, ⟨nd6, rfl⟩⟩)
            go_ret2
            exact ⟨_, rfl, Kd.V_drewN HV.out _, pw_below_drewN HBr.out _⟩
end Go.Proofs.YtbblomnhobodkaaDoor.PTw
