/- What this claim reaches of a longer text of this session. -/
import Derived.Test.YtbblomnhobodkaaDoorPTwx0
import Derived.Test.YtbblomnhobodkaaDoorPTwx1
import Derived.Test.YtbblomnhobodkaaDoorPTwx3
import Derived.Test.YtbblomnhobodkaaDoorPTwx18
import Derived.Test.YtbblomnhobodkaaDoorPTwx22
import Derived.Test.YtbblomnhobodkaaDoorPTwx27
import Derived.Test.YtbblomnhobodkaaDoorBase
import Derived.Shelf.Spec.TrailingZeros
import Derived.Lib.ItoaNum
import Derived.Lib.LaidTab
import Derived.Test.YtbblomnhobodkaaDoorRangeCell
import Derived.Laws.Bits64
import Derived.Lib.Hide
import Derived.RangeFuncBox
import Derived.Maps.AppendAt
import Derived.Lib.SliceRun
import Derived.Test.YtbblomnhobodkaaDoorShelf
import Derived.Shelf.Spec.SlicesInsert
import Derived.Shelf.Spec.SlicesInsertGrow
import Derived.Test.YtbblomnhobodkaaDoorMix
import Derived.Test.YtbblomnhobodkaaDoorWFoot
import Derived.Deep.DeepCutAuto
namespace Go.Proofs.YtbblomnhobodkaaDoor.PTw
open Go.RowKit Go.Proofs.YtbblomnhobodkaaDoorW.PrintWords Go.Proofs.YtbblomnhobodkaaDoorW.PrintLast Go.Proofs.YtbblomnhobodkaaDoorW.PrintMore
attribute [local go_sem] max2_int min2_int max_two min_two max_three min_three max_four min_four   -- for this text's walks alone
set_option linter.unusedVariables false
set_option linter.unusedSimpArgs false
def tree_Remove.l0 : Nat → List (S29) → Option ((List (S29)) × Int)
  | 0, _ => none
  | k + 1, x => (tree_tight.f k x).bind fun b => if b = true then some (x, 0) else tree_Remove.l0 k (x.take (x.length / 2))
def tree_Remove.f (k : Nat) (l0 : List (S29)) (a1 : Int) : Option ((List (S29)) × Int) := (tree_full.f l0 a1).bind fun t => if t = true then ((tree_Members.f k l0).bind fun ms => if ms.length = 1 then some (([] : List (S29)), 40) else ((tree_copied.f k l0).bind fun t2 => if 0 ≤ (wrap64 (2 * a1)) then (if (wrap64 (2 * a1)) < (t2.length : Int) then ((tree_clean.f k (t2.set ((wrap64 (2 * a1)) : Int).toNat (⟨false, 0, 0, 0, 0, ([] : List Int)⟩ : S29)) a1).bind fun t3 => tree_Remove.l0 k t3) else none) else none)) else some (([] : List (S29)), 40)
theorem tree_Remove.mono_l : ∀ k, (∀ y0, LeO (tree_Remove.l0 k y0) (tree_Remove.l0 (k + 1) y0))
  | 0 => fun _ r h => by simp [tree_Remove.l0] at h
  | k + 1 => by
    have ih0 := tree_Remove.mono_l k
    intro y0
    unfold tree_Remove.l0
    refine LeO.bind (tree_tight.mono _ _) (fun _ => ?_)
    exact LeO.ite (LeO.refl _) (ih0 _)
theorem tree_Remove.mono : ∀ a0 a1 k, LeO (tree_Remove.f k a0 a1) (tree_Remove.f (k + 1) a0 a1) := by
  intro a0 a1 k
  have ih0 := tree_Remove.mono_l k
  unfold tree_Remove.f
  refine LeO.bind (LeO.refl _) (fun _ => LeO.ite (LeO.bind (tree_Members.mono _ _) (fun _ => LeO.ite (LeO.refl _) (LeO.bind (tree_copied.mono _ _) (fun _ => LeO.ite (LeO.ite (LeO.bind (tree_clean.mono _ _ _) (fun _ => ih0 _)) (LeO.none _)) (LeO.none _))))) (LeO.refl _))
set_option maxHeartbeats 8000000 in
set_option maxRecDepth 100000 in
theorem tree_Remove.calls (k : Nat) (P0_ : Nat → Prop) (A0 : Option Addr) (c0 : Nat) (l0 : List (S29)) (a1 : Int) (r1 : List (S29)) (r2 : Int) (w : World) (hrG : TabG w) (hs0 : Kd.V k29 29 w w.heap.size (fun k_ => P0_ k_) (.slice A0 l0.length c0) l0) (h : tree_Remove.f k l0 a1 = some (r1, r2)) :
    Calls Tryd.prog 32 #[.slice A0 l0.length c0, .int .i64 a1] w fun e w' => ∃ v0_ : Value, e = .returned (.tuple #[v0_, .int .i64 r2]) ∧ Kd.V k29 29 w' w.heap.size (fun k_ => (P0_ k_ ∨ w.heap.size ≤ k_)) v0_ r1 ∧ Below w.heap.size w w' := by
  have huV := Tryd.underlying29
  have HT := Aside0.mk hrG
  obtain ⟨_, hlc, hC⟩ := V_now hs0
  have HC := Aside0.mk hC
  have HL := Aside0.mk hlc
  clear hrG hs0 hC hlc
  unfold tree_Remove.f at h
  obtain ⟨t, A40, H⟩ := Option.bind_eq_some_iff.mp h
  have A4 := Aside0.mk A40
  clear A40 h
  cases t
  · rw [if_neg (by decide)] at H
    simp only [Option.some.injEq, Prod.mk.injEq] at H
    obtain ⟨rfl, rfl⟩ := H
    go_enter Tryd.func32, Tryd.ntmps32
    go_wp2_with (go_at_call 60; (with_reducible refine (tree_full.calls _ _ l0 a1 false _ HC.out HL.out A4.out).mono ?_); rintro e w1 ⟨rfl, ⟨nd, rfl⟩⟩)
    go_ret2
    exact ⟨_, rfl, Kd.V_nil _ _ _ _ _, pw_below_drewN (Below.refl _ _) _⟩
  · rw [if_pos rfl] at H
    obtain ⟨ms, A50, H⟩ := Option.bind_eq_some_iff.mp H
    have A5 := Aside0.mk A50
    clear A50
    go_enter Tryd.func32, Tryd.ntmps32
    by_cases hm : ms.length = 1
    · rw [if_pos hm] at H
      simp only [Option.some.injEq, Prod.mk.injEq] at H
      obtain ⟨rfl, rfl⟩ := H
      go_wp2_with (first
        | (go_at_call 60; (with_reducible refine (tree_full.calls _ _ l0 a1 true _ HC.out HL.out A4.out).mono ?_); rintro e w1 ⟨rfl, ⟨nd, rfl⟩⟩)
        | (go_at_call 24; (with_reducible refine (tree_Members.calls _ _ _ l0 ms _ (Kd.C_drewN HC.out nd) HL.out A5.out).mono ?_); rintro e w2 ⟨v2, rfl, hR, hb⟩; obtain ⟨A2, c2, rfl⟩ := Kd.R_slice hR; rw [hm]; have HB2 := Aside0.mk (below_step (pw_below_drewN (Below.refl w.heap.size w) nd) hb); clear hR hb))
      go_ret2
      exact ⟨_, rfl, Kd.V_nil _ _ _ _ _, HB2.out⟩
    · rw [if_neg hm] at H
      have hmb : ((ms.length : Int) == 1) = false := by simp; omega
      obtain ⟨t2, A60, H⟩ := Option.bind_eq_some_iff.mp H
      have A6 := Aside0.mk A60
      clear A60
      have ex : ∃ ji, wrap64 (2 * a1) = ji := ⟨_, rfl⟩
      obtain ⟨ji, hji⟩ := ex
      rw [hji] at H
      have hjiw : (IntKind.i64.wrap (2 * a1)) = ji := (i64_w _).trans hji
      by_cases h0 : 0 ≤ ji
      case neg => rw [if_neg h0] at H; cases H
      rw [if_pos h0] at H
      by_cases h1 : ji < (t2.length : Int)
      case neg => rw [if_neg h1] at H; cases H
      rw [if_pos h1] at H
      obtain ⟨t3, A70, H⟩ := Option.bind_eq_some_iff.mp H
      have A7 := Aside0.mk A70
      have HH := Aside0.mk H
      clear A70 H hm
      go_upto_region 4 with (first
        | (go_at_call 60; (with_reducible refine (tree_full.calls _ _ l0 a1 true _ HC.out HL.out A4.out).mono ?_); rintro e w1 ⟨rfl, ⟨nd, rfl⟩⟩)
        | (go_at_call 24; (with_reducible refine (tree_Members.calls _ _ _ l0 ms _ (Kd.C_drewN HC.out nd) HL.out A5.out).mono ?_); rintro e w2 ⟨v2, rfl, hR, hb⟩; obtain ⟨A2, c2, rfl⟩ := Kd.R_slice hR; have HB2 := Aside0.mk (below_step (pw_below_drewN (Below.refl w.heap.size w) nd) hb); have HC2 := Aside0.mk (Kd.C_below (Kd.C_drewN HC.out nd) hb); clear hR hb)
        | (go_at_call 50; (with_reducible refine (tree_copied.calls _ _ _ l0 t2 _ HC2.out HL.out A6.out).mono ?_); rintro e w3 ⟨v3, rfl, hS, hb⟩; have HB3 := Aside0.mk (below_step HB2.out hb); have HS3 := Aside0.mk (Kd.S_lower hS (by exact (below_size HB2.out))); clear hS hb))
      obtain ⟨g, c3, rfl, gb, gl, _, _⟩ := Kd.S_form HS3.out (by omega)
      obtain ⟨oki, ce, hcl, hM, hcc, hfr, hoki, hH⟩ := Kd.S_elem HS3.out z29 ji h0 h1
      obtain ⟨ve5, rfl, ge5⟩ := k29_openM hM
      have HP := Aside0.mk (Kd.S_seg0 hH h0 h1 (seg := [.bool false, .int .i64 0, .int .i64 0, .int .i64 0, .int .i64 0, .slice none 0 0]) (j := 0) (show 6 ≤ 6 from by decide) (x' := (⟨false, 0, 0, 0, 0, ([] : List Int)⟩ : S29)) (k29_mkM _ _ _ (⟨false, 0, 0, 0, 0, ([] : List Int)⟩ : S29) (Kd.R_nil _ _ _ _ _)) (fun _ hk => hk))
      have hx0 : w3.cell? ⟨g, ji.toNat * 6, none⟩ = some (.bool _) := hcc 0 _ rfl
      have hx1 : w3.cell? ⟨g, ji.toNat * 6 + 1, none⟩ = some (.int .i64 _) := hcc 1 _ rfl
      have hx2 : w3.cell? ⟨g, ji.toNat * 6 + 2, none⟩ = some (.int .i64 _) := hcc 2 _ rfl
      have hx3 : w3.cell? ⟨g, ji.toNat * 6 + 3, none⟩ = some (.int .i64 _) := hcc 3 _ rfl
      have hx4 : w3.cell? ⟨g, ji.toNat * 6 + 4, none⟩ = some (.int .i64 _) := hcc 4 _ rfl
      have hx5 : w3.cell? ⟨g, ji.toNat * 6 + 5, none⟩ = some ve5 := hcc 5 _ rfl
      have hf0 : w3.frozen? ⟨g, ji.toNat * 6, none⟩ = false := hfr 0
      have hf1 : w3.frozen? ⟨g, ji.toNat * 6 + 1, none⟩ = false := hfr 1
      have hf2 : w3.frozen? ⟨g, ji.toNat * 6 + 2, none⟩ = false := hfr 2
      have hf3 : w3.frozen? ⟨g, ji.toNat * 6 + 3, none⟩ = false := hfr 3
      have hf4 : w3.frozen? ⟨g, ji.toNat * 6 + 4, none⟩ = false := hfr 4
      have hf5 : w3.frozen? ⟨g, ji.toNat * 6 + 5, none⟩ = false := hfr 5
      have GB := Aside0.mk gb
      have p0 := eq_true h0
      have p1 := eq_true h1
      clear hcl hM hcc hfr hoki hH ge5 gb gl HS3 hji h0 h1
      go_upto_region 5 with ((with_reducible refine gate_store (t := 29) (p := 23) rfl ?_); refine store_event (t := 29) (p := 23) (v := ?vo) (w1 := ((((((w3.setCell ⟨g, ji.toNat * 6, none⟩ (.bool false)).setCell ⟨g, ji.toNat * 6 + 1, none⟩ (.int .i64 0)).setCell ⟨g, ji.toNat * 6 + 2, none⟩ (.int .i64 0)).setCell ⟨g, ji.toNat * 6 + 3, none⟩ (.int .i64 0)).setCell ⟨g, ji.toNat * 6 + 4, none⟩ (.int .i64 0)).setCell ⟨g, ji.toNat * 6 + 5, none⟩ (.slice none 0 0))) ?hg ?ho ?hn ?hr ?_; (case ho => rfl); (case hg => rfl); (case hn => rfl); (case hr => first | (go_simp; done) | (go_simp; rfl)); intro w4 hw; have HS4 := Aside0.mk (show Kd.S k29 29 w4 w.heap.size (fun _ => True) (.slice (some ⟨g, 0, none⟩) t2.length c3) (t2.set ji.toNat (⟨false, 0, 0, 0, 0, ([] : List Int)⟩ : S29)) from by rw [hw]; exact HP.out.1); have HG4 := Aside0.mk (show w3.grownBy w4 (some g) from by rw [hw]; exact HP.out.2); clear hw)
      obtain ⟨y, hy⟩ : ∃ y, y = (t2.set ji.toNat (⟨false, 0, 0, 0, 0, ([] : List Int)⟩ : S29)) := ⟨_, rfl⟩
      have hyl : y.length = t2.length := by rw [hy, List.length_set]
      have HB4 := Aside0.mk (show Below w.heap.size w w4 from pw_below_grown HB3.out (some g) (below_size HB3.out) HG4.out (fun k_ e_ => by cases e_; exact GB.out))
      have HT4 := Aside0.mk (TabG.below HT.out HB4.out)
      have HS5 := HS4.out
      have A8 := A7.out
      rw [← hy] at HS5 A8
      have hcl := tree_clean.calls k (some ⟨g, 0, none⟩) c3 y a1 t3 (fun _ => True) w w4 HT4.out (by rw [hyl]; exact HS5) HB4.out A8
      rw [hyl] at hcl
      have HCL := Aside0.mk hcl
      clear hcl HS5 A8 hyl hy y HS4 HP HG4 A7 p0 p1 hx0 hx1 hx2 hx3 hx4 hx5 hf0 hf1 hf2 hf3 hf4 hf5
      go_wp2_with (go_at_call 61; (with_reducible refine HCL.out.mono ?_); rintro e w5 ⟨rfl, hS5, hB5, _⟩; have HS5 := Aside0.mk hS5; have HB5 := Aside0.mk hB5; clear hS5 hB5)
      have h3 := (Kd.S_reads' HS5.out).1
      have HH3 := Aside0.mk h3
      clear h3
      go_loopg [6] k (fun kq v w' => ∃ (x : List (S29)) (A : Option Addr) (n c : Nat), v = .slice A n c ∧ Aside0 (n = x.length) ∧ Aside0 (kq ≤ k) ∧ Aside0 (tree_Remove.l0 kq x = some (r1, r2)) ∧ Aside0 (Kd.V k29 29 w' w.heap.size (fun k_ => (P0_ k_ ∨ w.heap.size ≤ k_)) (.slice A n c) x) ∧ Aside0 (Below w.heap.size w w'))
      case atStart => exact ⟨t3, _, _, _, rfl, HH3, ⟨Nat.le_refl _⟩, HH, ⟨Kd.V_mono (Kd.S_V (Kd.S_bound HS5.out)) (fun k_ hk => .inr hk.2.1)⟩, HB5⟩
      case round =>
        obtain ⟨x, A, n, c, rfl, HN, HK1, HR, HV, HBr⟩ := hrel
        clear HH HH3 HS5 HB5 HCL HB4 HT4 HB3 HB2 HC2 HC
        obtain ⟨hvl, hvc, hvC⟩ := V_now HV.out
        have hvn := HN.out
        cases gk with
        | zero => exact absurd HR.out (by simp [tree_Remove.l0])
        | succ k1 =>
          have H := HR.out
          simp only [tree_Remove.l0] at H
          obtain ⟨b, A90, H⟩ := Option.bind_eq_some_iff.mp H
          have htg := tree_tight.calls k1 A c x b wr hvC (by rw [← hvn]; exact hvc) A90
          rw [← hvn] at htg
          have HTG := Aside0.mk htg
          clear htg A90 HR hvC
          cases b
          · rw [if_neg (by decide)] at H
            have HH := Aside0.mk H
            obtain ⟨m, hm⟩ : ∃ m, m = n / 2 := ⟨_, rfl⟩
            have hq : wrap64 ((n : Int) / 2) = (m : Int) := by
              have := HV.out
              obtain ⟨_, _, _, _, hF⟩ := this
              have hmax := (Kd.F_now hF).2.1
              rw [← hvn] at hmax
              unfold wrap64
              omega
            have hc1 : decide ((m : Int) ≤ (c : Int)) = true := by simp; omega
            have hc2 : decide (m ≤ c) = true := by simp; omega
            have hc3 : (m ≤ c) = True := eq_true (by omega)
            have HCP := Aside0.mk (clip_calls A m c (by omega))
            have HV2 := Aside0.mk (V_cut HV.out m (by omega))
            have HM := Aside0.mk hm
            clear hm
            clear H hvl hvc hvn
            go_wp2_with (first
              | (go_at_call 42; (with_reducible refine HTG.out.mono ?_); rintro e w6 ⟨rfl, ⟨nd6, rfl⟩⟩)
              | (go_at_call 62; (with_reducible refine (HCP.out _).mono ?_); rintro e w7 ⟨rfl, rfl⟩))
            go_roundg k1
            case measure => have := HK1.out; omega
            case rel => exact ⟨x.take m, A, m, m, rfl, ⟨by have := HN.out; have := HM.out; rw [List.length_take]; omega⟩, ⟨by have := HK1.out; omega⟩, ⟨by have := HH.out; rw [← HN.out, ← HM.out] at this; exact this⟩, ⟨Kd.V_drewN HV2.out _⟩, ⟨pw_below_drewN HBr.out _⟩⟩
          · rw [if_pos rfl] at H
            simp only [Option.some.injEq, Prod.mk.injEq] at H
            obtain ⟨rfl, rfl⟩ := H
            clear hvl hvc hvn
            go_wp2_with (go_at_call 42; (with_reducible refine HTG.out.mono ?_); rintro e w6 ⟨rfl, ⟨nd6, rfl⟩⟩)
            go_ret2
            exact ⟨_, rfl, Kd.V_drewN HV.out _, pw_below_drewN HBr.out _⟩
end Go.Proofs.YtbblomnhobodkaaDoor.PTw
