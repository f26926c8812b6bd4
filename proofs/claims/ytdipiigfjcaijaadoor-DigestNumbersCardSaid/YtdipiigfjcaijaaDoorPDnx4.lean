-- Written by a program of this session over the translation.
import Derived.Test.YtdipiigfjcaijaaDoorPDnx0
import Derived.Test.YtdipiigfjcaijaaDoorPDnx1
import Derived.Test.YtdipiigfjcaijaaDoorPDnx3
import Derived.Test.YtdipiigfjcaijaaDoorStW
import Derived.Test.YtdipiigfjcaijaaDoorRef
import Derived.Test.YtdipiigfjcaijaaDoorStW
import Derived.Test.YtdipiigfjcaijaaDoorRef
import Derived.Test.YtdipiigfjcaijaaDoorBase
import Derived.Shelf.Spec.TrailingZeros
import Derived.Lib.ItoaNum
import Derived.Lib.LaidTab
import Derived.Test.YtdipiigfjcaijaaDoorShelf
import Derived.Test.YtdipiigfjcaijaaDoorStW
import Derived.Lib.ItoaNum
import Derived.Lib.LaidTab
import Derived.Test.YtdipiigfjcaijaaDoorStW
import Derived.Test.YtdipiigfjcaijaaDoorRangeCell
import Derived.Shelf.Spec.TrailingZeros
import Derived.Laws.Bits64
import Derived.Lib.Hide
import Derived.RangeFuncBox
import Derived.Maps.AppendAt
import Derived.Test.YtdipiigfjcaijaaDoorStW
namespace Go.Proofs.YtdipiigfjcaijaaDoor.PDn
open Go.RowKit Go.Proofs.YtdipiigfjcaijaaDoorW.PrintWords Go.Proofs.YtdipiigfjcaijaaDoorW.PrintLast Go.Proofs.YtdipiigfjcaijaaDoorW.PrintMore
attribute [local go_sem] max2_int min2_int max_two min_two max_three min_three max_four min_four   -- for this text's walks alone
set_option linter.unusedVariables false
set_option linter.unusedSimpArgs false

/-! ### digest_Tree: function 13 -/
def digest_Tree.f (k : Nat) (s0_0 : TS) (l1 : List (S33)) : Option (Int × TS) := (tree_Leaves.f l1).bind fun t208 => ((digest_Hash.f k s0_0 l1 (wrap64 (t208 - 1))).bind fun bt209 => (some (bt209.1, bt209.2)))
theorem digest_Tree.mono : ∀ a0 a1 k, LeO (digest_Tree.f k a0 a1) (digest_Tree.f (k + 1) a0 a1) := by
  intro a0 a1 k
  unfold digest_Tree.f
  repeat' first
      | (with_reducible exact digest_Hash.mono _ _ _ _)
      | (with_reducible exact LeO.refl _)
      | (with_reducible exact LeO.none _)
      | (with_reducible refine LeO.ite ?_ ?_)
      | (with_reducible refine LeO.bind ?_ (fun _ => ?_))
      | exact digest_Hash.mono _ _ _ _
      | exact LeO.none _
      | refine LeO.ite ?_ ?_
      | refine LeO.bind ?_ (fun _ => ?_)
set_option maxHeartbeats 8000000 in
set_option maxRecDepth 100000 in
theorem digest_Tree.calls (k : Nat) (g : Nat) (s0_0 : TS) (A1 : Option Addr) (c1 : Nat) (l1 : List (S33)) (r1 : Int) (r2 : TS) (w0 w : World) (hrG : TabG w0) (hI : IsS75 w0 w g s0_0) (hB : Below w0.heap.size w0 w) (hr1 : Kd.FootSt k33 w w0 A1 l1.length l1) (hc1 : l1.length ≤ c1) (h : digest_Tree.f k s0_0 l1 = some (r1, r2)) :
    Calls Tryd.prog 13 #[.pointer (some ⟨g, 0, none⟩), .slice A1 l1.length c1] w fun e w' => e = .returned (.int .i64 r1) ∧ IsS75 w0 w' g r2 ∧ Below w0.heap.size w0 w' ∧ KeepSt w w' w0 := by
  have HRG := Aside0.mk hrG
  clear hrG
  have HR1 := Aside0.mk hr1
  have HC1 := Aside0.mk hc1
  clear hr1 hc1
  have HI0 := Aside0.mk hI
  have HK := Aside0.mk (KeepSt.refl w w0)
  have HL := Aside0.mk hB.size
  clear hI
  have HW0 := Aside0.mk hB.size
  have HB := Aside0.mk hB
  clear hB
  have H : ((tree_Leaves.f l1).bind fun t208 => ((digest_Hash.f k s0_0 l1 (wrap64 (t208 - 1))).bind fun bt209 => (some (bt209.1, bt209.2)))) = some (r1, r2) := h
  clear h
  replace H := Option.bind_eq_some_iff.mp H
  obtain ⟨t208, A30, H⟩ := H
  replace H : ((digest_Hash.f k s0_0 l1 (wrap64 (t208 - 1))).bind fun bt209 => (some (bt209.1, bt209.2))) = some (r1, r2) := H
  have A3 := Aside0.mk A30
  clear A30
  replace H := Option.bind_eq_some_iff.mp H
  obtain ⟨⟨t209, t210⟩, A40, H⟩ := H
  replace H : (some (t209, t210)) = some (r1, r2) := H
  have A4 := Aside0.mk A40
  clear A40
  simp only [Option.some.injEq, Prod.mk.injEq] at H
  obtain ⟨rfl, rfl⟩ := H
  go_enter Tryd.func13, Tryd.ntmps13
  go_wp2_with (first | ((with_reducible refine gate_callee (f := 39) rfl ?_); refine goesL_ (some 8) rfl rfl Tryd.func39 (by kernel_rfl) rfl #[.slice A1 l1.length c1] rfl (by (try simp only [List.map_toArray, List.map_cons, List.map_nil]); first | done | rfl | (simp only [List.length_drop, List.length_take]; rfl)) ?_; (with_reducible refine (tree_Leaves.calls _ _ l1 t208 _ ?side1 ?side2 A3.out).mono ?_); (case side1 => exact Kd.C_footSt_now HR1.out (by repeat (first | (with_reducible first | exact HK.out | apply KeepSt.drewN | apply KeepSt.drew | apply KeepSt.alloc) | exact HK.out))); (case side2 => exact HC1.out); rintro e w' ⟨rfl, ⟨nd, rfl⟩⟩; refine ⟨_, rfl, ?_⟩) | ((with_reducible refine gate_callee (f := 17) rfl ?_); refine goesL_ (some 10) rfl rfl Tryd.func17 (by kernel_rfl) rfl #[.pointer (some ⟨g, 0, none⟩), .slice A1 l1.length c1, .int .i64 (wrap64 (t208 - 1))] rfl (by (try simp only [List.map_toArray, List.map_cons, List.map_nil]); first | done | rfl | (simp only [List.length_drop, List.length_take]; rfl)) ?_; (with_reducible refine (digest_Hash.calls (hrG := ?sideG) k g s0_0 _ _ l1 (wrap64 (t208 - 1)) t209 t210 w0 _ ?side1 ?side2 ?side3 ?side4 A4.out).mono ?_); (case sideG => (first | (with_reducible exact HRG.out) | exact TabG.below HRG.out (by repeat (first | (with_reducible first | exact HB.out | apply below_alloc | apply pw_below_drewN | apply below_drew1 | refine below_set ?_ (IsS75.ge HI0.out)) | (with_reducible exact Below.refl _ _))))); (case side1 => repeat (first | (with_reducible first | exact HI0.out | apply IsS75.alloc | apply IsS75.drewN | apply IsS75.drew | apply IsS75.set_0) | exact HI0.out)); (case side2 => repeat (first | (with_reducible first | exact HB.out | apply below_alloc | apply pw_below_drewN | apply below_drew1 | refine below_set ?_ (IsS75.ge HI0.out)) | exact HB.out)); (case side3 => exact Kd.C_footSt_step HR1.out (by repeat (first | (with_reducible first | exact HK.out | apply KeepSt.drewN | apply KeepSt.drew | apply KeepSt.alloc) | exact HK.out))); (case side4 => exact HC1.out); rintro e w5 ⟨rfl, hi, hb, hk⟩; refine ⟨_, rfl, ?_⟩; have n0_ := Aside0.mk (KeepSt.trans (by repeat (first | (with_reducible first | exact HK.out | apply KeepSt.drewN | apply KeepSt.drew | apply KeepSt.alloc) | exact HK.out)) hk); have n1_ := Aside0.mk (hb); have n2_ := Aside0.mk (hi); clear HK; clear HB; clear HI0; have HK := n0_; have HB := n1_; have HI0 := n2_; clear n0_ n1_ n2_; (try clear hb); (try clear hb2); (try clear hk); (try clear hi)))
  go_ret
  exact ⟨by first | rfl | (simp [errW_none, errW_some] <;> rfl) | (simp [*, errW_none, errW_some] <;> rfl), by repeat (first | (with_reducible first | exact HI0.out | apply IsS75.alloc | apply IsS75.drewN | apply IsS75.drew | apply IsS75.set_0) | exact HI0.out), by repeat (first | (with_reducible first | exact HB.out | apply below_alloc | apply pw_below_drewN | apply below_drew1 | refine below_set ?_ (IsS75.ge HI0.out)) | exact HB.out), by repeat (first | (with_reducible first | exact HK.out | apply KeepSt.drewN | apply KeepSt.drew | apply KeepSt.alloc) | exact HK.out)⟩

/-! ### conclavelaw05_anchor: function 10 -/
def conclavelaw05_anchor.g (k : Nat)  : Option (Bool) := (conclavelaw05_stores.f 2).bind fun t211 => ((digest_Tree.f k t211 (([(⟨true, 1, 3, 2, 0, ([] : List Int)⟩ : S33)] : List (S33)))).bind fun bt216 => (if bt216.1 = 0 then (some false) else ((term_Store_Text.f bt216.2 (⟨#[48]⟩ : ByteArray)).bind fun bt218 => ((term_Store_Text.f bt218.2 (⟨#[51]⟩ : ByteArray)).bind fun bt220 => ((term_Store_Text.f bt220.2 (⟨#[]⟩ : ByteArray)).bind fun bt222 => ((term_Store_List.f k bt222.2 (([bt218.1, bt220.1, 1, 2, bt222.1] : List Int))).bind fun bt227 => ((term_Store_Hash.f bt227.2 (⟨#[108, 101, 97, 102]⟩ : ByteArray) bt227.1).bind fun bt229 => (if bt216.1 = bt229.1 then ((digest_Number.f bt229.2 (-12)).bind fun bt231 => ((term_Store_Text.f bt231.2 (⟨#[45, 49, 50]⟩ : ByteArray)).bind fun bt233 => (some (bt231.1 == bt233.1)))) else (some false)))))))))
def conclavelaw05_anchor.f (_k : Nat)  : Option (Bool) := some true
set_option maxRecDepth 100000 in
theorem conclavelaw05_anchor.gval : conclavelaw05_anchor.g 60 = some true := by decide +kernel
theorem conclavelaw05_anchor.mono : ∀ k, LeO (conclavelaw05_anchor.f k ) (conclavelaw05_anchor.f (k + 1) ) := fun _ => LeO.refl _
set_option maxHeartbeats 8000000 in
set_option maxRecDepth 100000 in
theorem conclavelaw05_anchor.calls (k : Nat)  (r : Bool) (w : World) (hrG : TabG w) (h : conclavelaw05_anchor.f k  = some r) :
    Calls Tryd.prog 10 #[] w fun e w' => e = .returned (.bool r) ∧ Below w.heap.size w w' := by
  have hr : r = true := (Option.some.inj h).symm
  obtain ⟨k, hg⟩ : ∃ k, conclavelaw05_anchor.g k = some true := ⟨60, conclavelaw05_anchor.gval⟩
  have HRG := Aside0.mk hrG
  clear hrG
  have hu33 := Tryd.underlying33
  have HB := Aside0.mk (Below.refl w.heap.size w)
  have H : ((conclavelaw05_stores.f 2).bind fun t211 => ((digest_Tree.f k t211 (([(⟨true, 1, 3, 2, 0, ([] : List Int)⟩ : S33)] : List (S33)))).bind fun bt216 => (if bt216.1 = 0 then (some false) else ((term_Store_Text.f bt216.2 (⟨#[48]⟩ : ByteArray)).bind fun bt218 => ((term_Store_Text.f bt218.2 (⟨#[51]⟩ : ByteArray)).bind fun bt220 => ((term_Store_Text.f bt220.2 (⟨#[]⟩ : ByteArray)).bind fun bt222 => ((term_Store_List.f k bt222.2 (([bt218.1, bt220.1, 1, 2, bt222.1] : List Int))).bind fun bt227 => ((term_Store_Hash.f bt227.2 (⟨#[108, 101, 97, 102]⟩ : ByteArray) bt227.1).bind fun bt229 => (if bt216.1 = bt229.1 then ((digest_Number.f bt229.2 (-12)).bind fun bt231 => ((term_Store_Text.f bt231.2 (⟨#[45, 49, 50]⟩ : ByteArray)).bind fun bt233 => (some (bt231.1 == bt233.1)))) else (some false)))))))))) = some r := by rw [hr]; exact hg
  clear h hg
  replace H := Option.bind_eq_some_iff.mp H
  obtain ⟨t211, A10, H⟩ := H
  replace H : ((digest_Tree.f k t211 (([(⟨true, 1, 3, 2, 0, ([] : List Int)⟩ : S33)] : List (S33)))).bind fun bt216 => (if bt216.1 = 0 then (some false) else ((term_Store_Text.f bt216.2 (⟨#[48]⟩ : ByteArray)).bind fun bt218 => ((term_Store_Text.f bt218.2 (⟨#[51]⟩ : ByteArray)).bind fun bt220 => ((term_Store_Text.f bt220.2 (⟨#[]⟩ : ByteArray)).bind fun bt222 => ((term_Store_List.f k bt222.2 (([bt218.1, bt220.1, 1, 2, bt222.1] : List Int))).bind fun bt227 => ((term_Store_Hash.f bt227.2 (⟨#[108, 101, 97, 102]⟩ : ByteArray) bt227.1).bind fun bt229 => (if bt216.1 = bt229.1 then ((digest_Number.f bt229.2 (-12)).bind fun bt231 => ((term_Store_Text.f bt231.2 (⟨#[45, 49, 50]⟩ : ByteArray)).bind fun bt233 => (some (bt231.1 == bt233.1)))) else (some false))))))))) = some r := H
  have A1 := Aside0.mk A10
  clear A10
  obtain ⟨y213, hy213⟩ : ∃ y_ : List (S33), y_ = (([(⟨true, 1, 3, 2, 0, ([] : List Int)⟩ : S33)] : List (S33))) := ⟨_, rfl⟩
  replace H : ((digest_Tree.f k t211 y213).bind fun bt216 => (if bt216.1 = 0 then (some false) else ((term_Store_Text.f bt216.2 (⟨#[48]⟩ : ByteArray)).bind fun bt218 => ((term_Store_Text.f bt218.2 (⟨#[51]⟩ : ByteArray)).bind fun bt220 => ((term_Store_Text.f bt220.2 (⟨#[]⟩ : ByteArray)).bind fun bt222 => ((term_Store_List.f k bt222.2 (([bt218.1, bt220.1, 1, 2, bt222.1] : List Int))).bind fun bt227 => ((term_Store_Hash.f bt227.2 (⟨#[108, 101, 97, 102]⟩ : ByteArray) bt227.1).bind fun bt229 => (if bt216.1 = bt229.1 then ((digest_Number.f bt229.2 (-12)).bind fun bt231 => ((term_Store_Text.f bt231.2 (⟨#[45, 49, 50]⟩ : ByteArray)).bind fun bt233 => (some (bt231.1 == bt233.1)))) else (some false))))))))) = some r := by first | (rw [hy213]; with_reducible exact H) | (have H2_ := (Option.bind_some _ _).symm.trans H; rw [hy213]; with_reducible exact H2_) | (have H2_ := (Option.bind_some _ _).symm.trans H; with_reducible exact H2_) | with_reducible exact H | (rw [hy213]; exact H) | exact H
  have Ny213 := Aside0.mk hy213
  clear hy213
  replace H := Option.bind_eq_some_iff.mp H
  obtain ⟨⟨t216, t217⟩, A20, H⟩ := H
  replace H : (if t216 = 0 then (some false) else ((term_Store_Text.f t217 (⟨#[48]⟩ : ByteArray)).bind fun bt218 => ((term_Store_Text.f bt218.2 (⟨#[51]⟩ : ByteArray)).bind fun bt220 => ((term_Store_Text.f bt220.2 (⟨#[]⟩ : ByteArray)).bind fun bt222 => ((term_Store_List.f k bt222.2 (([bt218.1, bt220.1, 1, 2, bt222.1] : List Int))).bind fun bt227 => ((term_Store_Hash.f bt227.2 (⟨#[108, 101, 97, 102]⟩ : ByteArray) bt227.1).bind fun bt229 => (if t216 = bt229.1 then ((digest_Number.f bt229.2 (-12)).bind fun bt231 => ((term_Store_Text.f bt231.2 (⟨#[45, 49, 50]⟩ : ByteArray)).bind fun bt233 => (some (bt231.1 == bt233.1)))) else (some false)))))))) = some r := H
  have A2 := Aside0.mk A20
  clear A20
  by_cases c3 : t216 = 0
  · rw [if_pos c3] at H
    exact absurd ((Option.some.inj H).trans hr) Bool.false_ne_true
  · rw [if_neg c3] at H
    have c3b0 : (t216 == 0) = false := beq_eq_false_iff_ne.mpr c3
    have c3b1 : (t216 != 0) = true := bne_iff_ne.mpr c3
    replace H := Option.bind_eq_some_iff.mp H
    obtain ⟨⟨t218, t219⟩, A90, H⟩ := H
    replace H : ((term_Store_Text.f t219 (⟨#[51]⟩ : ByteArray)).bind fun bt220 => ((term_Store_Text.f bt220.2 (⟨#[]⟩ : ByteArray)).bind fun bt222 => ((term_Store_List.f k bt222.2 (([t218, bt220.1, 1, 2, bt222.1] : List Int))).bind fun bt227 => ((term_Store_Hash.f bt227.2 (⟨#[108, 101, 97, 102]⟩ : ByteArray) bt227.1).bind fun bt229 => (if t216 = bt229.1 then ((digest_Number.f bt229.2 (-12)).bind fun bt231 => ((term_Store_Text.f bt231.2 (⟨#[45, 49, 50]⟩ : ByteArray)).bind fun bt233 => (some (bt231.1 == bt233.1)))) else (some false)))))) = some r := H
    have A9 := Aside0.mk A90
    clear A90
    replace H := Option.bind_eq_some_iff.mp H
    obtain ⟨⟨t220, t221⟩, A100, H⟩ := H
    replace H : ((term_Store_Text.f t221 (⟨#[]⟩ : ByteArray)).bind fun bt222 => ((term_Store_List.f k bt222.2 (([t218, t220, 1, 2, bt222.1] : List Int))).bind fun bt227 => ((term_Store_Hash.f bt227.2 (⟨#[108, 101, 97, 102]⟩ : ByteArray) bt227.1).bind fun bt229 => (if t216 = bt229.1 then ((digest_Number.f bt229.2 (-12)).bind fun bt231 => ((term_Store_Text.f bt231.2 (⟨#[45, 49, 50]⟩ : ByteArray)).bind fun bt233 => (some (bt231.1 == bt233.1)))) else (some false))))) = some r := H
    have A10 := Aside0.mk A100
    clear A100
    replace H := Option.bind_eq_some_iff.mp H
    obtain ⟨⟨t222, t223⟩, A110, H⟩ := H
    replace H : ((term_Store_List.f k t223 (([t218, t220, 1, 2, t222] : List Int))).bind fun bt227 => ((term_Store_Hash.f bt227.2 (⟨#[108, 101, 97, 102]⟩ : ByteArray) bt227.1).bind fun bt229 => (if t216 = bt229.1 then ((digest_Number.f bt229.2 (-12)).bind fun bt231 => ((term_Store_Text.f bt231.2 (⟨#[45, 49, 50]⟩ : ByteArray)).bind fun bt233 => (some (bt231.1 == bt233.1)))) else (some false)))) = some r := H
    have A11 := Aside0.mk A110
    clear A110
    obtain ⟨y224, hy224⟩ : ∃ y_ : List Int, y_ = (([t218, t220, 1, 2, t222] : List Int)) := ⟨_, rfl⟩
    replace H : ((term_Store_List.f k t223 y224).bind fun bt227 => ((term_Store_Hash.f bt227.2 (⟨#[108, 101, 97, 102]⟩ : ByteArray) bt227.1).bind fun bt229 => (if t216 = bt229.1 then ((digest_Number.f bt229.2 (-12)).bind fun bt231 => ((term_Store_Text.f bt231.2 (⟨#[45, 49, 50]⟩ : ByteArray)).bind fun bt233 => (some (bt231.1 == bt233.1)))) else (some false)))) = some r := by first | (rw [hy224]; with_reducible exact H) | (have H2_ := (Option.bind_some _ _).symm.trans H; rw [hy224]; with_reducible exact H2_) | (have H2_ := (Option.bind_some _ _).symm.trans H; with_reducible exact H2_) | with_reducible exact H | (rw [hy224]; exact H) | exact H
    have Ny224 := Aside0.mk hy224
    clear hy224
    replace H := Option.bind_eq_some_iff.mp H
    obtain ⟨⟨t227, t228⟩, A120, H⟩ := H
    replace H : ((term_Store_Hash.f t228 (⟨#[108, 101, 97, 102]⟩ : ByteArray) t227).bind fun bt229 => (if t216 = bt229.1 then ((digest_Number.f bt229.2 (-12)).bind fun bt231 => ((term_Store_Text.f bt231.2 (⟨#[45, 49, 50]⟩ : ByteArray)).bind fun bt233 => (some (bt231.1 == bt233.1)))) else (some false))) = some r := H
    have A12 := Aside0.mk A120
    clear A120
    replace H := Option.bind_eq_some_iff.mp H
    obtain ⟨⟨t229, t230⟩, A130, H⟩ := H
    replace H : (if t216 = t229 then ((digest_Number.f t230 (-12)).bind fun bt231 => ((term_Store_Text.f bt231.2 (⟨#[45, 49, 50]⟩ : ByteArray)).bind fun bt233 => (some (bt231.1 == bt233.1)))) else (some false)) = some r := H
    have A13 := Aside0.mk A130
    clear A130
    by_cases c14 : t216 = t229
    · rw [if_pos c14] at H
      have c14b0 : (t216 == t229) = true := beq_iff_eq.mpr c14
      have c14b1 : (t216 != t229) = false := bne_eq_false_iff_eq.mpr c14
      clear c14
      replace H := Option.bind_eq_some_iff.mp H
      obtain ⟨⟨t231, t232⟩, A150, H⟩ := H
      replace H : ((term_Store_Text.f t232 (⟨#[45, 49, 50]⟩ : ByteArray)).bind fun bt233 => (some (t231 == bt233.1))) = some r := H
      have A15 := Aside0.mk A150
      clear A150
      replace H := Option.bind_eq_some_iff.mp H
      obtain ⟨⟨t233, t234⟩, A160, H⟩ := H
      replace H : (some (t231 == t233)) = some r := H
      have A16 := Aside0.mk A160
      clear A160
      obtain rfl := Option.some.inj H
      try exact absurd hr Bool.false_ne_true
      all_goals
        go_enter Tryd.func10, Tryd.ntmps10
        go_wp2_with (first | ((with_reducible refine gate_callee (f := 12) rfl ?_); refine goesL_ (some 5) rfl rfl Tryd.func12 (by kernel_rfl) rfl #[.int .i64 2] rfl (by (try simp only [List.map_toArray, List.map_cons, List.map_nil]); first | done | rfl | (simp only [List.length_drop, List.length_take]; rfl)) ?_; (with_reducible refine (conclavelaw05_stores.calls 2 t211 w _ ?side1 A1.out).mono ?_); (case side1 => repeat (first | (with_reducible first | exact HB.out | apply below_alloc | apply pw_below_drewN | apply below_drew1) | exact HB.out)); rintro e w17 ⟨g212, rfl, hi, hb, hb2⟩; refine ⟨_, rfl, ?_⟩; have n0_ := Aside0.mk (hb); have n1_ := Aside0.mk (hi); clear HB; have HB := n0_; have HI212 := n1_; clear n0_ n1_; (try clear hb); (try clear hb2); (try clear hk); (try clear hi)) | ((with_reducible refine gate_dst (N := 12) rfl ?_); (try (refine gate_guard (by rfl) ?_; dsimp only)); refine Kd.S_lit k33 _ 33 ?hg (N := 12) ?hd (xs := ([(⟨true, 1, 3, 2, 0, ([] : List Int)⟩ : S33)] : List (S33))) (inner := [.bool true, .int .i64 1, .int .i64 3, .int .i64 2, .int .i64 0, .slice none 0 0]) (ok := fun _ => True) (okp := fun _ => True) ?hr ?hp (fun _ hk => hk) trivial (Below.refl _ _) (Nat.le_refl _) (by simp) ?_; (case hd => rfl); (case hg => rfl); (case hr => first | (go_simp; done) | (go_simp; rfl)); (case hp => exact (Reps.c6 (show Kd.M k33 _ _ _ (⟨true, 1, 3, 2, 0, ([] : List Int)⟩ : S33) [.bool true, .int .i64 1, .int .i64 3, .int .i64 2, .int .i64 0, .slice none 0 0] from (k33_mkM _ _ _ (⟨true, 1, 3, 2, 0, ([] : List Int)⟩ : S33) (Kd.R_nil _ _ _ _ _))) (Reps.none _ _))); intro v214 w18 ho19 hb hg_ hnew_; clear hg_ hnew_; (first | rw [← Ny213.out] at ho19 | (simp only [Int.reduceToNat] at ho19; rw [← Ny213.out] at ho19)); have n0_ := Aside0.mk (Kd.S_lower ho19 (below_size (by repeat (first | (with_reducible first | exact HB.out | apply below_alloc | apply pw_below_drewN | apply below_drew1 | refine below_set ?_ (IsS75.ge HI212.out)) | exact HB.out)))); have n1_ := Aside0.mk (IsS75.below (by repeat (first | (with_reducible first | exact HI212.out | apply IsS75.alloc | apply IsS75.drewN | apply IsS75.drew | apply IsS75.set_0) | exact HI212.out)) hb); have n2_ := Aside0.mk (below_step (by repeat (first | (with_reducible first | exact HB.out | apply below_alloc | apply pw_below_drewN | apply below_drew1 | refine below_set ?_ (IsS75.ge HI212.out)) | exact HB.out)) hb); clear HI212; clear HB; have HO215 := n0_; have HI212 := n1_; have HB := n2_; clear n0_ n1_ n2_; clear hb ho19; obtain ⟨Ao20, co20, eo20⟩ := Kd.S_slice HO215.out; subst eo20) | ((with_reducible refine gate_callee (f := 13) rfl ?_); refine goesL_ (some 13) rfl rfl Tryd.func13 (by kernel_rfl) rfl #[.pointer (some ⟨g212, 0, none⟩), .slice Ao20 y213.length co20] rfl (by (try simp only [List.map_toArray, List.map_cons, List.map_nil]); first | done | rfl | (simp only [List.length_drop, List.length_take]; rfl)) ?_; (with_reducible refine (digest_Tree.calls (hrG := ?sideG) k g212 t211 _ _ y213 t216 t217 w _ ?side1 ?side2 ?side3 ?side4 A2.out).mono ?_); (case sideG => (first | (with_reducible exact HRG.out) | exact TabG.below HRG.out (by repeat (first | (with_reducible first | exact HB.out | apply below_alloc | apply pw_below_drewN | apply below_drew1 | refine below_set ?_ (IsS75.ge HI212.out)) | (with_reducible exact Below.refl _ _))))); (case side1 => repeat (first | (with_reducible first | exact HI212.out | apply IsS75.alloc | apply IsS75.drewN | apply IsS75.drew | apply IsS75.set_0) | exact HI212.out)); (case side2 => repeat (first | (with_reducible first | exact HB.out | apply below_alloc | apply pw_below_drewN | apply below_drew1 | refine below_set ?_ (IsS75.ge HI212.out)) | exact HB.out)); (case side3 => exact Kd.C_footSt_own ((Kd.S_R (IsS75.apartS (show IsS75 w _ g212 t211 from by repeat (first | (with_reducible first | exact HI212.out | apply IsS75.alloc | apply IsS75.drewN | apply IsS75.drew | apply IsS75.set_0) | exact HI212.out)) (by (with_reducible repeat (first | apply Kd.S_alloc | apply Kd.S_drewN | apply Kd.S_drew)); exact HO215.out) (by decide)))) (fun _ h_ => h_.2)); (case side4 => exact (Kd.S_reads' HO215.out).2.1); rintro e w21 ⟨rfl, hi, hb, hk⟩; refine ⟨_, rfl, ?_⟩; have n0_ := Aside0.mk (Kd.S_mono (Kd.S_keepSt (IsS75.apartS (show IsS75 w _ g212 t211 from by repeat (first | (with_reducible first | exact HI212.out | apply IsS75.alloc | apply IsS75.drewN | apply IsS75.drew | apply IsS75.set_0) | exact HI212.out)) (by (with_reducible repeat (first | apply Kd.S_alloc | apply Kd.S_drewN | apply Kd.S_drew)); exact HO215.out) (by decide)) hk (fun _ h => h.2)) (fun _ h => h.1)); have n1_ := Aside0.mk (hb); have n2_ := Aside0.mk (hi); clear HO215; clear HB; clear HI212; have HO215 := n0_; have HB := n1_; have HI212 := n2_; clear n0_ n1_ n2_; (try clear hb); (try clear hb2); (try clear hk); (try clear hi)) | (go_at_call 31; (with_reducible refine (term_Store_Text.calls g212 t217 (⟨#[48]⟩ : ByteArray) t218 t219 w _ ?side1 ?side2 A9.out).mono ?_); (case side1 => repeat (first | (with_reducible first | exact HI212.out | apply IsS75.alloc | apply IsS75.drewN | apply IsS75.drew | apply IsS75.set_0) | exact HI212.out)); (case side2 => repeat (first | (with_reducible first | exact HB.out | apply below_alloc | apply pw_below_drewN | apply below_drew1 | refine below_set ?_ (IsS75.ge HI212.out)) | exact HB.out)); rintro e w22 ⟨rfl, hi, hb, hk⟩; have n0_ := Aside0.mk (Kd.S_mono (Kd.S_keepSt (IsS75.apartS (show IsS75 w _ g212 t217 from by repeat (first | (with_reducible first | exact HI212.out | apply IsS75.alloc | apply IsS75.drewN | apply IsS75.drew | apply IsS75.set_0) | exact HI212.out)) (by (with_reducible repeat (first | apply Kd.S_alloc | apply Kd.S_drewN | apply Kd.S_drew)); exact HO215.out) (by decide)) hk (fun _ h => h.2)) (fun _ h => h.1)); have n1_ := Aside0.mk (hb); have n2_ := Aside0.mk (hi); clear HO215; clear HB; clear HI212; have HO215 := n0_; have HB := n1_; have HI212 := n2_; clear n0_ n1_ n2_; (try clear hb); (try clear hb2); (try clear hk); (try clear hi)) | (go_at_call 31; (with_reducible refine (term_Store_Text.calls g212 t219 (⟨#[51]⟩ : ByteArray) t220 t221 w _ ?side1 ?side2 A10.out).mono ?_); (case side1 => repeat (first | (with_reducible first | exact HI212.out | apply IsS75.alloc | apply IsS75.drewN | apply IsS75.drew | apply IsS75.set_0) | exact HI212.out)); (case side2 => repeat (first | (with_reducible first | exact HB.out | apply below_alloc | apply pw_below_drewN | apply below_drew1 | refine below_set ?_ (IsS75.ge HI212.out)) | exact HB.out)); rintro e w23 ⟨rfl, hi, hb, hk⟩; have n0_ := Aside0.mk (Kd.S_mono (Kd.S_keepSt (IsS75.apartS (show IsS75 w _ g212 t219 from by repeat (first | (with_reducible first | exact HI212.out | apply IsS75.alloc | apply IsS75.drewN | apply IsS75.drew | apply IsS75.set_0) | exact HI212.out)) (by (with_reducible repeat (first | apply Kd.S_alloc | apply Kd.S_drewN | apply Kd.S_drew)); exact HO215.out) (by decide)) hk (fun _ h => h.2)) (fun _ h => h.1)); have n1_ := Aside0.mk (hb); have n2_ := Aside0.mk (hi); clear HO215; clear HB; clear HI212; have HO215 := n0_; have HB := n1_; have HI212 := n2_; clear n0_ n1_ n2_; (try clear hb); (try clear hb2); (try clear hk); (try clear hi)) | (go_at_call 31; (with_reducible refine (term_Store_Text.calls g212 t221 (⟨#[]⟩ : ByteArray) t222 t223 w _ ?side1 ?side2 A11.out).mono ?_); (case side1 => repeat (first | (with_reducible first | exact HI212.out | apply IsS75.alloc | apply IsS75.drewN | apply IsS75.drew | apply IsS75.set_0) | exact HI212.out)); (case side2 => repeat (first | (with_reducible first | exact HB.out | apply below_alloc | apply pw_below_drewN | apply below_drew1 | refine below_set ?_ (IsS75.ge HI212.out)) | exact HB.out)); rintro e w24 ⟨rfl, hi, hb, hk⟩; have n0_ := Aside0.mk (Kd.S_mono (Kd.S_keepSt (IsS75.apartS (show IsS75 w _ g212 t221 from by repeat (first | (with_reducible first | exact HI212.out | apply IsS75.alloc | apply IsS75.drewN | apply IsS75.drew | apply IsS75.set_0) | exact HI212.out)) (by (with_reducible repeat (first | apply Kd.S_alloc | apply Kd.S_drewN | apply Kd.S_drew)); exact HO215.out) (by decide)) hk (fun _ h => h.2)) (fun _ h => h.1)); have n1_ := Aside0.mk (hb); have n2_ := Aside0.mk (hi); clear HO215; clear HB; clear HI212; have HO215 := n0_; have HB := n1_; have HI212 := n2_; clear n0_ n1_ n2_; (try clear hb); (try clear hb2); (try clear hk); (try clear hi)) | ((with_reducible refine gate_dst (N := 26) rfl ?_); (try (refine gate_guard (by rfl) ?_; dsimp only)); refine Kd.R_lit (Kd.int .i64) _ 3 ?hg (N := 26) ?hd (xs := ([t218, t220, 1, 2, t222] : List Int)) (inner := [.int .i64 t218, .int .i64 t220, .int .i64 1, .int .i64 2, .int .i64 t222]) (ok := fun _ => True) (okp := fun _ => True) ?hr ?hp (fun _ hk => hk) trivial (Below.refl _ _) (Nat.le_refl _) (by simp) ?_; (case hd => rfl); (case hg => rfl); (case hr => first | (go_simp; done) | (go_simp; rfl)); (case hp => exact (Reps.one (show Kd.M (Kd.int .i64) _ _ _ t218 [.int .i64 t218] from rfl) (Reps.one (show Kd.M (Kd.int .i64) _ _ _ t220 [.int .i64 t220] from rfl) (Reps.one (show Kd.M (Kd.int .i64) _ _ _ 1 [.int .i64 1] from rfl) (Reps.one (show Kd.M (Kd.int .i64) _ _ _ 2 [.int .i64 2] from rfl) (Reps.one (show Kd.M (Kd.int .i64) _ _ _ t222 [.int .i64 t222] from rfl) (Reps.none _ _))))))); intro v225 w25 ho26 hb hg_ hnew_; clear hg_ hnew_; (first | rw [← Ny224.out] at ho26 | (simp only [Int.reduceToNat] at ho26; rw [← Ny224.out] at ho26)); have n0_ := Aside0.mk (Kd.S_elder' (by (with_reducible repeat (first | apply Kd.S_alloc | apply Kd.S_drewN | apply Kd.S_drew)); exact HO215.out) (Kd.R_base ho26) hb); have n1_ := Aside0.mk (Kd.R_lower ho26 (below_size (by repeat (first | (with_reducible first | exact HB.out | apply below_alloc | apply pw_below_drewN | apply below_drew1 | refine below_set ?_ (IsS75.ge HI212.out)) | exact HB.out)))); have n2_ := Aside0.mk (IsS75.below (by repeat (first | (with_reducible first | exact HI212.out | apply IsS75.alloc | apply IsS75.drewN | apply IsS75.drew | apply IsS75.set_0) | exact HI212.out)) hb); have n3_ := Aside0.mk (below_step (by repeat (first | (with_reducible first | exact HB.out | apply below_alloc | apply pw_below_drewN | apply below_drew1 | refine below_set ?_ (IsS75.ge HI212.out)) | exact HB.out)) hb); clear HO215; clear HI212; clear HB; have HO215 := n0_; have HO226 := n1_; have HI212 := n2_; have HB := n3_; clear n0_ n1_ n2_ n3_; clear hb ho26; obtain ⟨Ao27, co27, eo27⟩ := Kd.R_slice HO226.out; subst eo27) | (go_at_call 34; (with_reducible refine (term_Store_List.calls k g212 t223 _ _ y224 t227 t228 w _ ?side1 ?side2 ?side3 ?side4 ?side5 A12.out).mono ?_); (case side1 => repeat (first | (with_reducible first | exact HI212.out | apply IsS75.alloc | apply IsS75.drewN | apply IsS75.drew | apply IsS75.set_0) | exact HI212.out)); (case side2 => repeat (first | (with_reducible first | exact HB.out | apply below_alloc | apply pw_below_drewN | apply below_drew1 | refine below_set ?_ (IsS75.ge HI212.out)) | exact HB.out)); (case side3 => repeat (first | exact (Kd.R_reads' HO226.out).2.2 | (with_reducible refine Kd.C_alloc ?_ _) | (with_reducible refine Kd.C_drewN ?_ _) | (with_reducible refine Kd.C_drew ?_))); (case side4 => exact (Kd.R_reads' HO226.out).2.1); (case side5 => exact Kd.far_R (by (with_reducible repeat (first | apply Kd.R_alloc | apply Kd.R_drewN | apply Kd.R_drew)); exact HO226.out) (by decide)); rintro e w28 ⟨rfl, hi, hb, hk⟩; have n0_ := Aside0.mk (Kd.S_mono (Kd.S_keepSt (IsS75.apartS (show IsS75 w _ g212 t223 from by repeat (first | (with_reducible first | exact HI212.out | apply IsS75.alloc | apply IsS75.drewN | apply IsS75.drew | apply IsS75.set_0) | exact HI212.out)) (by (with_reducible repeat (first | apply Kd.S_alloc | apply Kd.S_drewN | apply Kd.S_drew)); exact HO215.out) (by decide)) hk (fun _ h => h.2)) (fun _ h => h.1)); have n1_ := Aside0.mk (Kd.R_mono (Kd.R_keepSt (IsS75.apart (show IsS75 w _ g212 t223 from by repeat (first | (with_reducible first | exact HI212.out | apply IsS75.alloc | apply IsS75.drewN | apply IsS75.drew | apply IsS75.set_0) | exact HI212.out)) (by (with_reducible repeat (first | apply Kd.R_alloc | apply Kd.R_drewN | apply Kd.R_drew)); exact HO226.out) (by decide)) hk (fun _ h => h.2)) (fun _ h => h.1)); have n2_ := Aside0.mk (hb); have n3_ := Aside0.mk (hi); clear HO215; clear HO226; clear HB; clear HI212; have HO215 := n0_; have HO226 := n1_; have HB := n2_; have HI212 := n3_; clear n0_ n1_ n2_ n3_; (try clear hb); (try clear hb2); (try clear hk); (try clear hi)) | (go_at_call 33; (with_reducible refine (term_Store_Hash.calls g212 t228 (⟨#[108, 101, 97, 102]⟩ : ByteArray) t227 t229 t230 w _ ?side1 ?side2 A13.out).mono ?_); (case side1 => repeat (first | (with_reducible first | exact HI212.out | apply IsS75.alloc | apply IsS75.drewN | apply IsS75.drew | apply IsS75.set_0) | exact HI212.out)); (case side2 => repeat (first | (with_reducible first | exact HB.out | apply below_alloc | apply pw_below_drewN | apply below_drew1 | refine below_set ?_ (IsS75.ge HI212.out)) | exact HB.out)); rintro e w29 ⟨rfl, hi, hb, hk⟩; have n0_ := Aside0.mk (Kd.S_mono (Kd.S_keepSt (IsS75.apartS (show IsS75 w _ g212 t228 from by repeat (first | (with_reducible first | exact HI212.out | apply IsS75.alloc | apply IsS75.drewN | apply IsS75.drew | apply IsS75.set_0) | exact HI212.out)) (by (with_reducible repeat (first | apply Kd.S_alloc | apply Kd.S_drewN | apply Kd.S_drew)); exact HO215.out) (by decide)) hk (fun _ h => h.2)) (fun _ h => h.1)); have n1_ := Aside0.mk (Kd.R_mono (Kd.R_keepSt (IsS75.apart (show IsS75 w _ g212 t228 from by repeat (first | (with_reducible first | exact HI212.out | apply IsS75.alloc | apply IsS75.drewN | apply IsS75.drew | apply IsS75.set_0) | exact HI212.out)) (by (with_reducible repeat (first | apply Kd.R_alloc | apply Kd.R_drewN | apply Kd.R_drew)); exact HO226.out) (by decide)) hk (fun _ h => h.2)) (fun _ h => h.1)); have n2_ := Aside0.mk (hb); have n3_ := Aside0.mk (hi); clear HO215; clear HO226; clear HB; clear HI212; have HO215 := n0_; have HO226 := n1_; have HB := n2_; have HI212 := n3_; clear n0_ n1_ n2_ n3_; (try clear hb); (try clear hb2); (try clear hk); (try clear hi)) | (go_at_call 20; (with_reducible refine (digest_Number.calls (hrG := ?sideG) g212 t230 (-12) t231 t232 w _ ?side1 ?side2 A15.out).mono ?_); (case sideG => (first | (with_reducible exact HRG.out) | exact TabG.below HRG.out (by repeat (first | (with_reducible first | exact HB.out | apply below_alloc | apply pw_below_drewN | apply below_drew1 | refine below_set ?_ (IsS75.ge HI212.out)) | (with_reducible exact Below.refl _ _))))); (case side1 => repeat (first | (with_reducible first | exact HI212.out | apply IsS75.alloc | apply IsS75.drewN | apply IsS75.drew | apply IsS75.set_0) | exact HI212.out)); (case side2 => repeat (first | (with_reducible first | exact HB.out | apply below_alloc | apply pw_below_drewN | apply below_drew1 | refine below_set ?_ (IsS75.ge HI212.out)) | exact HB.out)); rintro e w30 ⟨rfl, hi, hb, hk⟩; have n0_ := Aside0.mk (Kd.S_mono (Kd.S_keepSt (IsS75.apartS (show IsS75 w _ g212 t230 from by repeat (first | (with_reducible first | exact HI212.out | apply IsS75.alloc | apply IsS75.drewN | apply IsS75.drew | apply IsS75.set_0) | exact HI212.out)) (by (with_reducible repeat (first | apply Kd.S_alloc | apply Kd.S_drewN | apply Kd.S_drew)); exact HO215.out) (by decide)) hk (fun _ h => h.2)) (fun _ h => h.1)); have n1_ := Aside0.mk (Kd.R_mono (Kd.R_keepSt (IsS75.apart (show IsS75 w _ g212 t230 from by repeat (first | (with_reducible first | exact HI212.out | apply IsS75.alloc | apply IsS75.drewN | apply IsS75.drew | apply IsS75.set_0) | exact HI212.out)) (by (with_reducible repeat (first | apply Kd.R_alloc | apply Kd.R_drewN | apply Kd.R_drew)); exact HO226.out) (by decide)) hk (fun _ h => h.2)) (fun _ h => h.1)); have n2_ := Aside0.mk (hb); have n3_ := Aside0.mk (hi); clear HO215; clear HO226; clear HB; clear HI212; have HO215 := n0_; have HO226 := n1_; have HB := n2_; have HI212 := n3_; clear n0_ n1_ n2_ n3_; (try clear hb); (try clear hb2); (try clear hk); (try clear hi)) | (go_at_call 31; (with_reducible refine (term_Store_Text.calls g212 t232 (⟨#[45, 49, 50]⟩ : ByteArray) t233 t234 w _ ?side1 ?side2 A16.out).mono ?_); (case side1 => repeat (first | (with_reducible first | exact HI212.out | apply IsS75.alloc | apply IsS75.drewN | apply IsS75.drew | apply IsS75.set_0) | exact HI212.out)); (case side2 => repeat (first | (with_reducible first | exact HB.out | apply below_alloc | apply pw_below_drewN | apply below_drew1 | refine below_set ?_ (IsS75.ge HI212.out)) | exact HB.out)); rintro e w31 ⟨rfl, hi, hb, hk⟩; have n0_ := Aside0.mk (Kd.S_mono (Kd.S_keepSt (IsS75.apartS (show IsS75 w _ g212 t232 from by repeat (first | (with_reducible first | exact HI212.out | apply IsS75.alloc | apply IsS75.drewN | apply IsS75.drew | apply IsS75.set_0) | exact HI212.out)) (by (with_reducible repeat (first | apply Kd.S_alloc | apply Kd.S_drewN | apply Kd.S_drew)); exact HO215.out) (by decide)) hk (fun _ h => h.2)) (fun _ h => h.1)); have n1_ := Aside0.mk (Kd.R_mono (Kd.R_keepSt (IsS75.apart (show IsS75 w _ g212 t232 from by repeat (first | (with_reducible first | exact HI212.out | apply IsS75.alloc | apply IsS75.drewN | apply IsS75.drew | apply IsS75.set_0) | exact HI212.out)) (by (with_reducible repeat (first | apply Kd.R_alloc | apply Kd.R_drewN | apply Kd.R_drew)); exact HO226.out) (by decide)) hk (fun _ h => h.2)) (fun _ h => h.1)); have n2_ := Aside0.mk (hb); have n3_ := Aside0.mk (hi); clear HO215; clear HO226; clear HB; clear HI212; have HO215 := n0_; have HO226 := n1_; have HB := n2_; have HI212 := n3_; clear n0_ n1_ n2_ n3_; (try clear hb); (try clear hb2); (try clear hk); (try clear hi)))
        go_ret
        exact ⟨by first | rfl | (simp [errW_none, errW_some] <;> rfl) | (simp [*, errW_none, errW_some] <;> rfl), by repeat (first | (with_reducible first | exact HB.out | apply below_alloc | apply pw_below_drewN | apply below_drew1 | refine below_set ?_ (IsS75.ge HI212.out)) | exact HB.out)⟩
    · rw [if_neg c14] at H
      exact absurd ((Option.some.inj H).trans hr) Bool.false_ne_true
/-! ### st_look: lib -/
/-- What a call that looks at the store alone comes to. -/
theorem st_look {w0 w : World} {g : Nat} {s : TS} {f : Nat} {args : Array Value} {r : Value} (hI : IsS75 w0 w g s) (hB : Below w0.heap.size w0 w)
    (hc : ∀ q : St, q.p = g → q.nodes = s.nodes → q.drawn = s.drawn → StoreAt w q → Calls Tryd.prog f args w fun e w' => e = .returned r ∧ Chg none_ w w') :
    Calls Tryd.prog f args w fun e w' => e = .returned r ∧ IsS75 w0 w' g s ∧ Below w0.heap.size w0 w' ∧ KeepSt w w' w0 := by
  obtain ⟨q, h1, h2, h3, h4, h5⟩ := StoreAt.of hI
  refine (hc q h1 h2 h3 h4).mono ?_
  rintro e w' ⟨he, hn⟩
  have hb : Below w.heap.size w w' := hn.below (Nat.le_refl _) (fun _ _ h => h)
  exact ⟨he, hI.below hb, hB.trans (hb.mono hB.size), .of_below hb w0⟩

/-! ### term_Store_Get: function 21 -/
def term_Store_Get.f (s0_0 : TS) (a1 : Int) : Option (Int × ByteArray × Int × Int × Bool × TS) := some ((getN s0_0.nodes a1).kind, (getN s0_0.nodes a1).label, (getN s0_0.nodes a1).a, (getN s0_0.nodes a1).b, knownB s0_0.nodes.length a1, s0_0)
theorem term_Store_Get.calls (g : Nat) (s0_0 : TS) (a1 : Int) (r1 : Int) (r2 : ByteArray) (r3 : Int) (r4 : Int) (r5 : Bool) (r6 : TS) (w0 w : World) (hI : IsS75 w0 w g s0_0) (hB : Below w0.heap.size w0 w) (h : term_Store_Get.f s0_0 a1 = some (r1, r2, r3, r4, r5, r6)) :
    Calls Tryd.prog 21 #[.pointer (some ⟨g, 0, none⟩), .int .i64 a1] w fun e w' => e = .returned (.tuple #[.agg #[.int .i64 r1, .string r2, .int .i64 r3, .int .i64 r4], .bool r5]) ∧ IsS75 w0 w' g r6 ∧ Below w0.heap.size w0 w' ∧ KeepSt w w' w0 := by
  simp only [term_Store_Get.f, Option.some.injEq, Prod.mk.injEq] at h
  obtain ⟨rfl, rfl, rfl, rfl, rfl, rfl⟩ := h
  refine st_look hI hB fun q h1 h2 h3 h4 => ?_
  have := get_calls h4 a1
  rw [St.ptr, h1, h2] at this
  exact this

end Go.Proofs.YtdipiigfjcaijaaDoor.PDn
