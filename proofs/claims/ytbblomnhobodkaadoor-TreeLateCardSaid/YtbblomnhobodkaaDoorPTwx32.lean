/- What this claim reaches of a longer text of this session. -/
import Derived.Test.YtbblomnhobodkaaDoorPTwx0
import Derived.Test.YtbblomnhobodkaaDoorPTwx1
import Derived.Test.YtbblomnhobodkaaDoorPTwx3
import Derived.Test.YtbblomnhobodkaaDoorPTwx27
import Derived.Test.YtbblomnhobodkaaDoorBase
import Derived.Shelf.Spec.TrailingZeros
import Derived.Lib.ItoaNum
import Derived.Lib.LaidTab
import Derived.Test.YtbblomnhobodkaaDoorRangeCell
import Derived.Laws.Bits64
import Derived.Lib.Hide
import Derived.RangeFuncBox
import Derived.Maps.AppendAt
import Derived.Lib.SliceRun
import Derived.Test.YtbblomnhobodkaaDoorShelf
import Derived.Shelf.Spec.SlicesInsert
import Derived.Shelf.Spec.SlicesInsertGrow
import Derived.Test.YtbblomnhobodkaaDoorMix
import Derived.Test.YtbblomnhobodkaaDoorWFoot
import Derived.Deep.DeepCutAuto
namespace Go.Proofs.YtbblomnhobodkaaDoor.PTw
open Go.RowKit Go.Proofs.YtbblomnhobodkaaDoorW.PrintWords Go.Proofs.YtbblomnhobodkaaDoorW.PrintLast Go.Proofs.YtbblomnhobodkaaDoorW.PrintMore
attribute [local go_sem] max2_int min2_int max_two min_two max_three min_three max_four min_four   -- for this text's walks alone
set_option linter.unusedVariables false
set_option linter.unusedSimpArgs false
def tree_Update.f (k : Nat) (l0 : List (S29)) (a1 : Int) (a2_0 : Bool) (a2_1 : Int) (a2_2 : Int) (a2_3 : Int) (a2_4 : Int) (l2_5 : List Int) : Option ((List (S29)) × Int) := (tree_full.f l0 a1).bind fun t => if t = true then ((tree_copied.f k l0).bind fun t2 => if 0 ≤ (wrap64 (2 * a1)) then (if (wrap64 (2 * a1)) < (t2.length : Int) then ((tree_clean.f k (t2.set ((wrap64 (2 * a1)) : Int).toNat (⟨true, a2_1, a2_2, a2_3, a2_4, ([] : List Int)⟩ : S29)) a1).bind fun t3 => some (t3, 0)) else none) else none) else some (([] : List (S29)), 40)
theorem tree_Update.mono : ∀ a0 a1 a2 a3 a4 a5 a6 a7 k, LeO (tree_Update.f k a0 a1 a2 a3 a4 a5 a6 a7) (tree_Update.f (k + 1) a0 a1 a2 a3 a4 a5 a6 a7) := by
  intro a0 a1 a2 a3 a4 a5 a6 a7 k
  unfold tree_Update.f
  refine LeO.bind (LeO.refl _) (fun _ => LeO.ite (LeO.bind (tree_copied.mono _ _) (fun _ => LeO.ite (LeO.ite (LeO.bind (tree_clean.mono _ _ _) (fun _ => LeO.refl _)) (LeO.none _)) (LeO.none _))) (LeO.refl _))
set_option maxHeartbeats 8000000 in
set_option maxRecDepth 100000 in
theorem tree_Update.calls (k : Nat) (A0 : Option Addr) (c0 : Nat) (l0 : List (S29)) (a1 : Int) (a2_0 : Bool) (a2_1 : Int) (a2_2 : Int) (a2_3 : Int) (a2_4 : Int) (A2_5 : Option Addr) (c2_5 : Nat) (l2_5 : List Int) (r1 : List (S29)) (r2 : Int) (w : World) (hrG : TabG w) (hr0 : Kd.C k29 w A0 l0.length l0) (hc0 : l0.length ≤ c0) (hr2_5 : Kd.C (Kd.int .i64) w A2_5 l2_5.length l2_5) (hc2_5 : l2_5.length ≤ c2_5) (h : tree_Update.f k l0 a1 a2_0 a2_1 a2_2 a2_3 a2_4 l2_5 = some (r1, r2)) :
    Calls Tryd.prog 33 #[.slice A0 l0.length c0, .int .i64 a1, .agg #[.bool a2_0, .int .i64 a2_1, .int .i64 a2_2, .int .i64 a2_3, .int .i64 a2_4, .slice A2_5 l2_5.length c2_5]] w fun e w' => ∃ v0_ : Value, e = .returned (.tuple #[v0_, .int .i64 r2]) ∧ Kd.S k29 29 w' w.heap.size (fun _ => True) v0_ r1 ∧ Below w.heap.size w w' := by
  have huV := Tryd.underlying29
  have HT := Aside0.mk hrG
  have HC := Aside0.mk hr0
  have HL := Aside0.mk hc0
  have HC5 := Aside0.mk hr2_5
  have HL5 := Aside0.mk hc2_5
  clear hrG hr0 hc0 hr2_5 hc2_5
  unfold tree_Update.f at h
  obtain ⟨t, A40, H⟩ := Option.bind_eq_some_iff.mp h
  have A4 := Aside0.mk A40
  clear A40 h
  have HB0 := Aside0.mk (below_alloc (Below.refl w.heap.size w) (.cells #[.bool a2_0, .int .i64 a2_1, .int .i64 a2_2, .int .i64 a2_3, .int .i64 a2_4, .slice A2_5 l2_5.length c2_5] 29))
  cases t
  · rw [if_neg (by decide)] at H
    simp only [Option.some.injEq, Prod.mk.injEq] at H
    obtain ⟨rfl, rfl⟩ := H
    go_enter Tryd.func33, Tryd.ntmps33
    go_wp2_with (go_at_call 60; (with_reducible refine (tree_full.calls _ _ l0 a1 false _ (Kd.C_alloc HC.out _) HL.out A4.out).mono ?_); rintro e w1 ⟨rfl, ⟨nd, rfl⟩⟩)
    go_ret2
    exact ⟨_, rfl, Kd.S_nil _ _ _ _ _, pw_below_drewN HB0.out _⟩
  · rw [if_pos rfl] at H
    obtain ⟨t2, A60, H⟩ := Option.bind_eq_some_iff.mp H
    have A6 := Aside0.mk A60
    clear A60
    go_enter Tryd.func33, Tryd.ntmps33
    have ex : ∃ ji, wrap64 (2 * a1) = ji := ⟨_, rfl⟩
    obtain ⟨ji, hji⟩ := ex
    rw [hji] at H
    have hjiw : (IntKind.i64.wrap (2 * a1)) = ji := (i64_w _).trans hji
    by_cases h0 : 0 ≤ ji
    case neg => rw [if_neg h0] at H; cases H
    rw [if_pos h0] at H
    by_cases h1 : ji < (t2.length : Int)
    case neg => rw [if_neg h1] at H; cases H
    rw [if_pos h1] at H
    obtain ⟨t3, A70, H⟩ := Option.bind_eq_some_iff.mp H
    have A7 := Aside0.mk A70
    simp only [Option.some.injEq, Prod.mk.injEq] at H
    obtain ⟨rfl, rfl⟩ := H
    clear A70
    go_upto_region 4 with (first
      | (go_at_call 60; (with_reducible refine (tree_full.calls _ _ l0 a1 true _ (Kd.C_alloc HC.out _) HL.out A4.out).mono ?_); rintro e w1 ⟨rfl, ⟨nd, rfl⟩⟩)
      | (go_at_call 50; (with_reducible refine (tree_copied.calls _ _ _ l0 t2 _ (Kd.C_drewN (Kd.C_alloc HC.out _) nd) HL.out A6.out).mono ?_); rintro e w3 ⟨v3, rfl, hS, hb⟩; have HB3 := Aside0.mk (below_step (pw_below_drewN HB0.out nd) hb); have HS3 := Aside0.mk (Kd.S_lower hS (by exact (below_size (pw_below_drewN HB0.out nd)))); have HBX := Aside0.mk hb; clear hS hb))
    obtain ⟨g, c3, rfl, gb, gl, _, _⟩ := Kd.S_form HS3.out (by omega)
    have hblk : w3.heap[w.heap.size]? = some (.cells #[.bool a2_0, .int .i64 a2_1, .int .i64 a2_2, .int .i64 a2_3, .int .i64 a2_4, .slice A2_5 l2_5.length c2_5] 29 (0, 0)) := (HBX.out.block _ (by simp)).trans heap_alloc_at
    have lx0 := cell_of hblk 0
    have lx1 := cell_of hblk 1
    have lx2 := cell_of hblk 2
    have lx3 := cell_of hblk 3
    have lx4 := cell_of hblk 4
    have lx5 := cell_of hblk 5
    simp only [List.getElem?_toArray, List.getElem?_cons_zero, List.getElem?_cons_succ] at lx0 lx1 lx2 lx3 lx4 lx5
    have HC53 := Aside0.mk (Kd.C_below (Kd.C_drewN (Kd.C_alloc HC5.out (.cells #[.bool a2_0, .int .i64 a2_1, .int .i64 a2_2, .int .i64 a2_3, .int .i64 a2_4, .slice A2_5 l2_5.length c2_5] 29)) nd) HBX.out)
    have GB := Aside0.mk gb
    have p0 := eq_true h0
    have p1 := eq_true h1
    have H0 := Aside0.mk h0
    have H1 := Aside0.mk h1
    clear gb gl hji h0 h1 hblk
    go_upto_region 5 with (first
      | (go_at_call 51; (with_reducible refine (tree_leafOf.nil a2_0 a2_1 a2_2 a2_3 a2_4 A2_5 c2_5 l2_5 _ HC53.out HL5.out).mono ?_); rintro e w4 ⟨rfl, hb4⟩; have HS4 := Aside0.mk (Kd.S_below HS3.out hb4); have HB4 := Aside0.mk (below_step HB3.out hb4); clear hb4 lx0 lx1 lx2 lx3 lx4 lx5; obtain ⟨oki, ce, hcl, hM, hcc, hfr, hoki, hH⟩ := Kd.S_elem HS4.out z29 ji H0.out H1.out; obtain ⟨ve5, rfl, ge5⟩ := k29_openM hM; have HP := Aside0.mk (Kd.S_seg0 hH H0.out H1.out (seg := [.bool true, .int .i64 a2_1, .int .i64 a2_2, .int .i64 a2_3, .int .i64 a2_4, .slice none 0 0]) (j := 0) (show 6 ≤ 6 from by decide) (x' := (⟨true, a2_1, a2_2, a2_3, a2_4, ([] : List Int)⟩ : S29)) (k29_mkM _ _ _ (⟨true, a2_1, a2_2, a2_3, a2_4, ([] : List Int)⟩ : S29) (Kd.R_nil _ _ _ _ _)) (fun _ hk => hk)); have hx0 : w4.cell? ⟨g, ji.toNat * 6, none⟩ = some (.bool _) := hcc 0 _ rfl; have hx1 : w4.cell? ⟨g, ji.toNat * 6 + 1, none⟩ = some (.int .i64 _) := hcc 1 _ rfl; have hx2 : w4.cell? ⟨g, ji.toNat * 6 + 2, none⟩ = some (.int .i64 _) := hcc 2 _ rfl; have hx3 : w4.cell? ⟨g, ji.toNat * 6 + 3, none⟩ = some (.int .i64 _) := hcc 3 _ rfl; have hx4 : w4.cell? ⟨g, ji.toNat * 6 + 4, none⟩ = some (.int .i64 _) := hcc 4 _ rfl; have hx5 : w4.cell? ⟨g, ji.toNat * 6 + 5, none⟩ = some ve5 := hcc 5 _ rfl; have hf0 : w4.frozen? ⟨g, ji.toNat * 6, none⟩ = false := hfr 0; have hf1 : w4.frozen? ⟨g, ji.toNat * 6 + 1, none⟩ = false := hfr 1; have hf2 : w4.frozen? ⟨g, ji.toNat * 6 + 2, none⟩ = false := hfr 2; have hf3 : w4.frozen? ⟨g, ji.toNat * 6 + 3, none⟩ = false := hfr 3; have hf4 : w4.frozen? ⟨g, ji.toNat * 6 + 4, none⟩ = false := hfr 4; have hf5 : w4.frozen? ⟨g, ji.toNat * 6 + 5, none⟩ = false := hfr 5; clear hcl hM hcc hfr hoki hH ge5)
      | ((with_reducible refine gate_store (t := 29) (p := 20) rfl ?_); refine store_event (t := 29) (p := 20) (v := ?vo) (w1 := ((((((w4.setCell ⟨g, ji.toNat * 6, none⟩ (.bool true)).setCell ⟨g, ji.toNat * 6 + 1, none⟩ (.int .i64 a2_1)).setCell ⟨g, ji.toNat * 6 + 2, none⟩ (.int .i64 a2_2)).setCell ⟨g, ji.toNat * 6 + 3, none⟩ (.int .i64 a2_3)).setCell ⟨g, ji.toNat * 6 + 4, none⟩ (.int .i64 a2_4)).setCell ⟨g, ji.toNat * 6 + 5, none⟩ (.slice none 0 0))) ?hg ?ho ?hn ?hr ?_; (case ho => rfl); (case hg => rfl); (case hn => rfl); (case hr => first | (go_simp; done) | (go_simp; rfl)); intro w5 hw; have HS5 := Aside0.mk (show Kd.S k29 29 w5 w.heap.size (fun _ => True) (.slice (some ⟨g, 0, none⟩) t2.length c3) (t2.set ji.toNat (⟨true, a2_1, a2_2, a2_3, a2_4, ([] : List Int)⟩ : S29)) from by rw [hw]; exact HP.out.1); have HG5 := Aside0.mk (show w4.grownBy w5 (some g) from by rw [hw]; exact HP.out.2); clear hw))
    obtain ⟨y, hy⟩ : ∃ y, y = (t2.set ji.toNat (⟨true, a2_1, a2_2, a2_3, a2_4, ([] : List Int)⟩ : S29)) := ⟨_, rfl⟩
    have hyl : y.length = t2.length := by rw [hy, List.length_set]
    have HB5 := Aside0.mk (show Below w.heap.size w w5 from pw_below_grown HB4.out (some g) (below_size HB4.out) HG5.out (fun k_ e_ => by cases e_; exact GB.out))
    have HT5 := Aside0.mk (TabG.below HT.out HB5.out)
    have HS6 := HS5.out
    have A8 := A7.out
    rw [← hy] at HS6 A8
    have hcl := tree_clean.calls k (some ⟨g, 0, none⟩) c3 y a1 t3 (fun _ => True) w w5 HT5.out (by rw [hyl]; exact HS6) HB5.out A8
    rw [hyl] at hcl
    have HCL := Aside0.mk hcl
    clear hcl HS6 A8 hyl hy y HS5 HP HG5 A7 p0 p1 hx0 hx1 hx2 hx3 hx4 hx5 hf0 hf1 hf2 hf3 hf4 hf5
    go_wp2_with (go_at_call 61; (with_reducible refine HCL.out.mono ?_); rintro e w6 ⟨rfl, hS6, hB6, _⟩; have HS6 := Aside0.mk hS6; have HB6 := Aside0.mk hB6; clear hS6 hB6)
    go_ret2
    exact ⟨_, rfl, HS6.out, HB6.out⟩
end Go.Proofs.YtbblomnhobodkaaDoor.PTw
