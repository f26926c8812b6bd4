/- What this claim reaches of a longer text of this session. -/
import Derived.Test.YtdipiigfjcaijaaDoorPDix0
import Derived.Test.YtdipiigfjcaijaaDoorPDix1
import Derived.Test.YtdipiigfjcaijaaDoorPDix3
namespace Go.Proofs.YtdipiigfjcaijaaDoor.PDi
open Go.RowKit Go.Proofs.YtdipiigfjcaijaaDoorW.PrintWords Go.Proofs.YtdipiigfjcaijaaDoorW.PrintLast Go.Proofs.YtdipiigfjcaijaaDoorW.PrintMore
attribute [local go_sem] max2_int min2_int max_two min_two max_three min_three max_four min_four   -- for this text's walks alone
set_option linter.unusedVariables false
set_option linter.unusedSimpArgs false
def digest_Tree.f (k : Nat) (s0_0 : TS) (l1 : List (S33)) : Option (Int × TS) := (tree_Leaves.f l1).bind fun t208 => ((digest_Hash.f k s0_0 l1 (wrap64 (t208 - 1))).bind fun bt209 => (some (bt209.1, bt209.2)))
theorem digest_Tree.mono : ∀ a0 a1 k, LeO (digest_Tree.f k a0 a1) (digest_Tree.f (k + 1) a0 a1) := by
  intro a0 a1 k
  unfold digest_Tree.f
  repeat' first
      | (with_reducible exact digest_Hash.mono _ _ _ _)
      | (with_reducible exact LeO.refl _)
      | (with_reducible exact LeO.none _)
      | (with_reducible refine LeO.ite ?_ ?_)
      | (with_reducible refine LeO.bind ?_ (fun _ => ?_))
      | exact digest_Hash.mono _ _ _ _
      | exact LeO.none _
      | refine LeO.ite ?_ ?_
      | refine LeO.bind ?_ (fun _ => ?_)
set_option maxHeartbeats 8000000 in
set_option maxRecDepth 100000 in
theorem digest_Tree.calls (k : Nat) (g : Nat) (s0_0 : TS) (A1 : Option Addr) (c1 : Nat) (l1 : List (S33)) (r1 : Int) (r2 : TS) (w0 w : World) (hrG : TabG w0) (hI : IsS75 w0 w g s0_0) (hB : Below w0.heap.size w0 w) (hr1 : Kd.FootSt k33 w w0 A1 l1.length l1) (hc1 : l1.length ≤ c1) (h : digest_Tree.f k s0_0 l1 = some (r1, r2)) :
    Calls Tryd.prog 13 #[.pointer (some ⟨g, 0, none⟩), .slice A1 l1.length c1] w fun e w' => e = .returned (.int .i64 r1) ∧ IsS75 w0 w' g r2 ∧ Below w0.heap.size w0 w' ∧ KeepSt w w' w0 := by
  have HRG := Aside0.mk hrG
  clear hrG
  have HR1 := Aside0.mk hr1
  have HC1 := Aside0.mk hc1
  clear hr1 hc1
  have HI0 := Aside0.mk hI
  have HK := Aside0.mk (KeepSt.refl w w0)
  have HL := Aside0.mk hB.size
  clear hI
  have HW0 := Aside0.mk hB.size
  have HB := Aside0.mk hB
  clear hB
  have H : ((tree_Leaves.f l1).bind fun t208 => ((digest_Hash.f k s0_0 l1 (wrap64 (t208 - 1))).bind fun bt209 => (some (bt209.1, bt209.2)))) = some (r1, r2) := h
  clear h
  replace H := Option.bind_eq_some_iff.mp H
  obtain ⟨t208, A30, H⟩ := H
  replace H : ((digest_Hash.f k s0_0 l1 (wrap64 (t208 - 1))).bind fun bt209 => (some (bt209.1, bt209.2))) = some (r1, r2) := H
  have A3 := Aside0.mk A30
  clear A30
  replace H := Option.bind_eq_some_iff.mp H
  obtain ⟨⟨t209, t210⟩, A40, H⟩ := H
  replace H : (some (t209, t210)) = some (r1, r2) := H
  have A4 := Aside0.mk A40
  clear A40
  simp only [Option.some.injEq, Prod.mk.injEq] at H
  obtain ⟨rfl, rfl⟩ := H
  go_enter Tryd.func13, Tryd.ntmps13
  go_wp2_with (first | ((with_reducible refine gate_callee (f := 39) rfl ?_); refine goesL_ (some 8) rfl rfl Tryd.func39 (by kernel_rfl) rfl #[.slice A1 l1.length c1] rfl (by (try simp only [List.map_toArray, List.map_cons, List.map_nil]); first | done | rfl | (simp only [List.length_drop, List.length_take]; rfl)) ?_; (with_reducible refine (tree_Leaves.calls _ _ l1 t208 _ ?side1 ?side2 A3.out).mono ?_); (case side1 => exact Kd.C_footSt_now HR1.out (by repeat (first | (with_reducible first | exact HK.out | apply KeepSt.drewN | apply KeepSt.drew | apply KeepSt.alloc) | exact HK.out))); (case side2 => exact HC1.out); rintro e w' ⟨rfl, ⟨nd, rfl⟩⟩; refine ⟨_, rfl, ?_⟩) | ((with_reducible refine gate_callee (f := 17) rfl ?_); refine goesL_ (some 10) rfl rfl Tryd.func17 (by kernel_rfl) rfl #[.pointer (some ⟨g, 0, none⟩), .slice A1 l1.length c1, .int .i64 (wrap64 (t208 - 1))] rfl (by (try simp only [List.map_toArray, List.map_cons, List.map_nil]); first | done | rfl | (simp only [List.length_drop, List.length_take]; rfl)) ?_; (with_reducible refine (digest_Hash.calls (hrG := ?sideG) k g s0_0 _ _ l1 (wrap64 (t208 - 1)) t209 t210 w0 _ ?side1 ?side2 ?side3 ?side4 A4.out).mono ?_); (case sideG => (first | (with_reducible exact HRG.out) | exact TabG.below HRG.out (by repeat (first | (with_reducible first | exact HB.out | apply below_alloc | apply pw_below_drewN | apply below_drew1 | refine below_set ?_ (IsS75.ge HI0.out)) | (with_reducible exact Below.refl _ _))))); (case side1 => repeat (first | (with_reducible first | exact HI0.out | apply IsS75.alloc | apply IsS75.drewN | apply IsS75.drew | apply IsS75.set_0) | exact HI0.out)); (case side2 => repeat (first | (with_reducible first | exact HB.out | apply below_alloc | apply pw_below_drewN | apply below_drew1 | refine below_set ?_ (IsS75.ge HI0.out)) | exact HB.out)); (case side3 => exact Kd.C_footSt_step HR1.out (by repeat (first | (with_reducible first | exact HK.out | apply KeepSt.drewN | apply KeepSt.drew | apply KeepSt.alloc) | exact HK.out))); (case side4 => exact HC1.out); rintro e w5 ⟨rfl, hi, hb, hk⟩; refine ⟨_, rfl, ?_⟩; have n0_ := Aside0.mk (KeepSt.trans (by repeat (first | (with_reducible first | exact HK.out | apply KeepSt.drewN | apply KeepSt.drew | apply KeepSt.alloc) | exact HK.out)) hk); have n1_ := Aside0.mk (hb); have n2_ := Aside0.mk (hi); clear HK; clear HB; clear HI0; have HK := n0_; have HB := n1_; have HI0 := n2_; clear n0_ n1_ n2_; (try clear hb); (try clear hb2); (try clear hk); (try clear hi)))
  go_ret
  exact ⟨by first | rfl | (simp [errW_none, errW_some] <;> rfl) | (simp [*, errW_none, errW_some] <;> rfl), by repeat (first | (with_reducible first | exact HI0.out | apply IsS75.alloc | apply IsS75.drewN | apply IsS75.drew | apply IsS75.set_0) | exact HI0.out), by repeat (first | (with_reducible first | exact HB.out | apply below_alloc | apply pw_below_drewN | apply below_drew1 | refine below_set ?_ (IsS75.ge HI0.out)) | exact HB.out), by repeat (first | (with_reducible first | exact HK.out | apply KeepSt.drewN | apply KeepSt.drew | apply KeepSt.alloc) | exact HK.out)⟩
def conclavelaw05_anchor.g (k : Nat)  : Option (Bool) := (conclavelaw05_stores.f 2).bind fun t211 => ((digest_Tree.f k t211 (([(⟨true, 1, 3, 2, 0, ([] : List Int)⟩ : S33)] : List (S33)))).bind fun bt216 => (if bt216.1 = 0 then (some false) else ((term_Store_Text.f bt216.2 (⟨#[48]⟩ : ByteArray)).bind fun bt218 => ((term_Store_Text.f bt218.2 (⟨#[51]⟩ : ByteArray)).bind fun bt220 => ((term_Store_Text.f bt220.2 (⟨#[]⟩ : ByteArray)).bind fun bt222 => ((term_Store_List.f k bt222.2 (([bt218.1, bt220.1, 1, 2, bt222.1] : List Int))).bind fun bt227 => ((term_Store_Hash.f bt227.2 (⟨#[108, 101, 97, 102]⟩ : ByteArray) bt227.1).bind fun bt229 => (if bt216.1 = bt229.1 then ((digest_Number.f bt229.2 (-12)).bind fun bt231 => ((term_Store_Text.f bt231.2 (⟨#[45, 49, 50]⟩ : ByteArray)).bind fun bt233 => (some (bt231.1 == bt233.1)))) else (some false)))))))))
def conclavelaw05_anchor.f (_k : Nat)  : Option (Bool) := some true
set_option maxRecDepth 100000 in
theorem conclavelaw05_anchor.gval : conclavelaw05_anchor.g 60 = some true := by decide +kernel
theorem conclavelaw05_anchor.mono : ∀ k, LeO (conclavelaw05_anchor.f k ) (conclavelaw05_anchor.f (k + 1) ) := fun _ => LeO.refl _
set_option maxHeartbeats 8000000 in
set_option maxRecDepth 100000 in
theorem conclavelaw05_anchor.calls (k : Nat)  (r : Bool) (w : World) (hrG : TabG w) (h : conclavelaw05_anchor.f k  = some r) :
    Calls Tryd.prog 10 #[] w fun e w' => e = .returned (.bool r) ∧ Below w.heap.size w w' := by
  have hr : r = true := (Option.some.inj h).symm
  obtain ⟨k, hg⟩ : ∃ k, conclavelaw05_anchor.g k = some true := ⟨60, conclavelaw05_anchor.gval⟩
  have HRG := Aside0.mk hrG
  clear hrG
  have hu33 := Tryd.underlying33
  have HB := Aside0.mk (Below.refl w.heap.size w)
  have H : ((conclavelaw05_stores.f 2).bind fun t211 => ((digest_Tree.f k t211 (([(⟨true, 1, 3, 2, 0, ([] : List Int)⟩ : S33)] : List (S33)))).bind fun bt216 => (if bt216.1 = 0 then (some false) else ((term_Store_Text.f bt216.2 (⟨#[48]⟩ : ByteArray)).bind fun bt218 => ((term_Store_Text.f bt218.2 (⟨#[51]⟩ : ByteArray)).bind fun bt220 => ((term_Store_Text.f bt220.2 (⟨#[]⟩ : ByteArray)).bind fun bt222 => ((term_Store_List.f k bt222.2 (([bt218.1, bt220.1, 1, 2, bt222.1] : List Int))).bind fun bt227 => ((term_Store_Hash.f bt227.2 (⟨#[108, 101, 97, 102]⟩ : ByteArray) bt227.1).bind fun bt229 => (if bt216.1 = bt229.1 then ((digest_Number.f bt229.2 (-12)).bind fun bt231 => ((term_Store_Text.f bt231.2 (⟨#[45, 49, 50]⟩ : ByteArray)).bind fun bt233 => (some (bt231.1 == bt233.1)))) else (some false)))))))))) = some r := by rw [hr]; exact hg
  clear h hg
  replace H := Option.bind_eq_some_iff.mp H
  obtain ⟨t211, A10, H⟩ := H
  replace H : ((digest_Tree.f k t211 (([(⟨true, 1, 3, 2, 0, ([] : List Int)⟩ : S33)] : List (S33)))).bind fun bt216 => (if bt216.1 = 0 then (some false) else ((term_Store_Text.f bt216.2 (⟨#[48]⟩ : ByteArray)).bind fun bt218 => ((term_Store_Text.f bt218.2 (⟨#[51]⟩ : ByteArray)).bind fun bt220 => ((term_Store_Text.f bt220.2 (⟨#[]⟩ : ByteArray)).bind fun bt222 => ((term_Store_List.f k bt222.2 (([bt218.1, bt220.1, 1, 2, bt222.1] : List Int))).bind fun bt227 => ((term_Store_Hash.f bt227.2 (⟨#[108, 101, 97, 102]⟩ : ByteArray) bt227.1).bind fun bt229 => (if bt216.1 = bt229.1 then ((digest_Number.f bt229.2 (-12)).bind fun bt231 => ((term_Store_Text.f bt231.2 (⟨#[45, 49, 50]⟩ : ByteArray)).bind fun bt233 => (some (bt231.1 == bt233.1)))) else (some false))))))))) = some r := H
  have A1 := Aside0.mk A10
  clear A10
  obtain ⟨y213, hy213⟩ : ∃ y_ : List (S33), y_ = (([(⟨true, 1, 3, 2, 0, ([] : List Int)⟩ : S33)] : List (S33))) := ⟨_, rfl⟩
  replace H : ((digest_Tree.f k t211 y213).bind fun bt216 => (if bt216.1 = 0 then (some false) else ((term_Store_Text.f bt216.2 (⟨#[48]⟩ : ByteArray)).bind fun bt218 => ((term_Store_Text.f bt218.2 (⟨#[51]⟩ : ByteArray)).bind fun bt220 => ((term_Store_Text.f bt220.2 (⟨#[]⟩ : ByteArray)).bind fun bt222 => ((term_Store_List.f k bt222.2 (([bt218.1, bt220.1, 1, 2, bt222.1] : List Int))).bind fun bt227 => ((term_Store_Hash.f bt227.2 (⟨#[108, 101, 97, 102]⟩ : ByteArray) bt227.1).bind fun bt229 => (if bt216.1 = bt229.1 then ((digest_Number.f bt229.2 (-12)).bind fun bt231 => ((term_Store_Text.f bt231.2 (⟨#[45, 49, 50]⟩ : ByteArray)).bind fun bt233 => (some (bt231.1 == bt233.1)))) else (some false))))))))) = some r := by first | (rw [hy213]; with_reducible exact H) | (have H2_ := (Option.bind_some _ _).symm.trans H; rw [hy213]; with_reducible exact H2_) | (have H2_ := (Option.bind_some _ _).symm.trans H; with_reducible exact H2_) | with_reducible exact H | (rw [hy213]; exact H) | exact H
  have Ny213 := Aside0.mk hy213
  clear hy213
  replace H := Option.bind_eq_some_iff.mp H
  obtain ⟨⟨t216, t217⟩, A20, H⟩ := H
  replace H : (if t216 = 0 then (some false) else ((term_Store_Text.f t217 (⟨#[48]⟩ : ByteArray)).bind fun bt218 => ((term_Store_Text.f bt218.2 (⟨#[51]⟩ : ByteArray)).bind fun bt220 => ((term_Store_Text.f bt220.2 (⟨#[]⟩ : ByteArray)).bind fun bt222 => ((term_Store_List.f k bt222.2 (([bt218.1, bt220.1, 1, 2, bt222.1] : List Int))).bind fun bt227 => ((term_Store_Hash.f bt227.2 (⟨#[108, 101, 97, 102]⟩ : ByteArray) bt227.1).bind fun bt229 => (if t216 = bt229.1 then ((digest_Number.f bt229.2 (-12)).bind fun bt231 => ((term_Store_Text.f bt231.2 (⟨#[45, 49, 50]⟩ : ByteArray)).bind fun bt233 => (some (bt231.1 == bt233.1)))) else (some false)))))))) = some r := H
  have A2 := Aside0.mk A20
  clear A20
  by_cases c3 : t216 = 0
  · rw [if_pos c3] at H
    exact absurd ((Option.some.inj H).trans hr) Bool.false_ne_true
  · rw [if_neg c3] at H
    have c3b0 : (t216 == 0) = false := beq_eq_false_iff_ne.mpr c3
    have c3b1 : (t216 != 0) = true := bne_iff_ne.mpr c3
    replace H := Option.bind_eq_some_iff.mp H
    obtain ⟨⟨t218, t219⟩, A90, H⟩ := H
    replace H : ((term_Store_Text.f t219 (⟨#[51]⟩ : ByteArray)).bind fun bt220 => ((term_Store_Text.f bt220.2 (⟨#[]⟩ : ByteArray)).bind fun bt222 => ((term_Store_List.f k bt222.2 (([t218, bt220.1, 1, 2, bt222.1] : List Int))).bind fun bt227 => ((term_Store_Hash.f bt227.2 (⟨#[108, 101, 97, 102]⟩ : ByteArray) bt227.1).bind fun bt229 => (if t216 = bt229.1 then ((digest_Number.f bt229.2 (-12)).bind fun bt231 => ((term_Store_Text.f bt231.2 (⟨#[45, 49, 50]⟩ : ByteArray)).bind fun bt233 => (some (bt231.1 == bt233.1)))) else (some false)))))) = some r := H
    have A9 := Aside0.mk A90
    clear A90
    replace H := Option.bind_eq_some_iff.mp H
    obtain ⟨⟨t220, t221⟩, A100, H⟩ := H
    replace H : ((term_Store_Text.f t221 (⟨#[]⟩ : ByteArray)).bind fun bt222 => ((term_Store_List.f k bt222.2 (([t218, t220, 1, 2, bt222.1] : List Int))).bind fun bt227 => ((term_Store_Hash.f bt227.2 (⟨#[108, 101, 97, 102]⟩ : ByteArray) bt227.1).bind fun bt229 => (if t216 = bt229.1 then ((digest_Number.f bt229.2 (-12)).bind fun bt231 => ((term_Store_Text.f bt231.2 (⟨#[45, 49, 50]⟩ : ByteArray)).bind fun bt233 => (some (bt231.1 == bt233.1)))) else (some false))))) = some r := H
    have A10 := Aside0.mk A100
    clear A100
    replace H := Option.bind_eq_some_iff.mp H
    obtain ⟨⟨t222, t223⟩, A110, H⟩ := H
    replace H : ((term_Store_List.f k t223 (([t218, t220, 1, 2, t222] : List Int))).bind fun bt227 => ((term_Store_Hash.f bt227.2 (⟨#[108, 101, 97, 102]⟩ : ByteArray) bt227.1).bind fun bt229 => (if t216 = bt229.1 then ((digest_Number.f bt229.2 (-12)).bind fun bt231 => ((term_Store_Text.f bt231.2 (⟨#[45, 49, 50]⟩ : ByteArray)).bind fun bt233 => (some (bt231.1 == bt233.1)))) else (some false)))) = some r := H
    have A11 := Aside0.mk A110
    clear A110
    obtain ⟨y224, hy224⟩ : ∃ y_ : List Int, y_ = (([t218, t220, 1, 2, t222] : List Int)) := ⟨_, rfl⟩
    replace H : ((term_Store_List.f k t223 y224).bind fun bt227 => ((term_Store_Hash.f bt227.2 (⟨#[108, 101, 97, 102]⟩ : ByteArray) bt227.1).bind fun bt229 => (if t216 = bt229.1 then ((digest_Number.f bt229.2 (-12)).bind fun bt231 => ((term_Store_Text.f bt231.2 (⟨#[45, 49, 50]⟩ : ByteArray)).bind fun bt233 => (some (bt231.1 == bt233.1)))) else (some false)))) = some r := by first | (rw [hy224]; with_reducible exact H) | (have H2_ := (Option.bind_some _ _).symm.trans H; rw [hy224]; with_reducible exact H2_) | (have H2_ := (Option.bind_some _ _).symm.trans H; with_reducible exact H2_) | with_reducible exact H | (rw [hy224]; exact H) | exact H
    have Ny224 := Aside0.mk hy224
    clear hy224
    replace H := Option.bind_eq_some_iff.mp H
    obtain ⟨⟨t227, t228⟩, A120, H⟩ := H
    replace H : ((term_Store_Hash.f t228 (⟨#[108, 101, 97, 102]⟩ : ByteArray) t227).bind fun bt229 => (if t216 = bt229.1 then ((digest_Number.f bt229.2 (-12)).bind fun bt231 => ((term_Store_Text.f bt231.2 (⟨#[45, 49, 50]⟩ : ByteArray)).bind fun bt233 => (some (bt231.1 == bt233.1)))) else (some false))) = some r := H
    have A12 := Aside0.mk A120
    clear A120
    replace H := Option.bind_eq_some_iff.mp H
    obtain ⟨⟨t229, t230⟩, A130, H⟩ := H
    replace H : (if t216 = t229 then ((digest_Number.f t230 (-12)).bind fun bt231 => ((term_Store_Text.f bt231.2 (⟨#[45, 49, 50]⟩ : ByteArray)).bind fun bt233 => (some (bt231.1 == bt233.1)))) else (some false)) = some r := H
    have A13 := Aside0.mk A130
    clear A130
    by_cases c14 : t216 = t229
    · rw [if_pos c14] at H
      have c14b0 : (t216 == t229) = true := beq_iff_eq.mpr c14
      have c14b1 : (t216 != t229) = false := bne_eq_false_iff_eq.mpr c14
      clear c14
      replace H := Option.bind_eq_some_iff.mp H
      obtain ⟨⟨t231, t232⟩, A150, H⟩ := H
      replace H : ((term_Store_Text.f t232 (⟨#[45, 49, 50]⟩ : ByteArray)).bind fun bt233 => (some (t231 == bt233.1))) = some r := H
      have A15 := Aside0.mk A150
      clear A150
      replace H := Option.bind_eq_some_iff.mp H
      obtain ⟨⟨t233, t234⟩, A160, H⟩ := H
      replace H : (some (t231 == t233)) = some r := H
      have A16 := Aside0.mk A160
      clear A160
      obtain rfl := Option.some.inj H
      try exact absurd hr Bool.false_ne_true
      all_goals
        go_enter Tryd.func10, Tryd.ntmps10
        go_wp2_with (first | ((with_reducible refine gate_callee (f := 12) rfl ?_); refine goesL_ (some 5) rfl rfl Tryd.func12 (by kernel_rfl) rfl #[.int .i64 2] rfl (by (try simp only [List.map_toArray, List.map_cons, List.map_nil]); first | done | rfl | (simp only [List.length_drop, List.length_take]; rfl)) ?_; (with_reducible refine (conclavelaw05_stores.calls 2 t211 w _ ?side1 A1.out).mono ?_); (case side1 => repeat (first | (with_reducible first | exact HB.out | apply below_alloc | apply pw_below_drewN | apply below_drew1) | exact HB.out)); rintro e w17 ⟨g212, rfl, hi, hb, hb2⟩; refine ⟨_, rfl, ?_⟩; have n0_ := Aside0.mk (hb); have n1_ := Aside0.mk (hi); clear HB; have HB := n0_; have HI212 := n1_; clear n0_ n1_; (try clear hb); (try clear hb2); (try clear hk); (try clear hi)) | ((with_reducible refine gate_dst (N := 12) rfl ?_); (try (refine gate_guard (by rfl) ?_; dsimp only)); refine Kd.S_lit k33 _ 33 ?hg (N := 12) ?hd (xs := ([(⟨true, 1, 3, 2, 0, ([] : List Int)⟩ : S33)] : List (S33))) (inner := [.bool true, .int .i64 1, .int .i64 3, .int .i64 2, .int .i64 0, .slice none 0 0]) (ok := fun _ => True) (okp := fun _ => True) ?hr ?hp (fun _ hk => hk) trivial (Below.refl _ _) (Nat.le_refl _) (by simp) ?_; (case hd => rfl); (case hg => rfl); (case hr => first | (go_simp; done) | (go_simp; rfl)); (case hp => exact (Reps.c6 (show Kd.M k33 _ _ _ (⟨true, 1, 3, 2, 0, ([] : List Int)⟩ : S33) [.bool true, .int .i64 1, .int .i64 3, .int .i64 2, .int .i64 0, .slice none 0 0] from (k33_mkM _ _ _ (⟨true, 1, 3, 2, 0, ([] : List Int)⟩ : S33) (Kd.R_nil _ _ _ _ _))) (Reps.none _ _))); intro v214 w18 ho19 hb hg_ hnew_; clear hg_ hnew_; (first | rw [← Ny213.out] at ho19 | (simp only [Int.reduceToNat] at ho19; rw [← Ny213.out] at ho19)); have n0_ := Aside0.mk (Kd.S_lower ho19 (below_size (by repeat (first | (with_reducible first | exact HB.out | apply below_alloc | apply pw_below_drewN | apply below_drew1 | refine below_set ?_ (IsS75.ge HI212.out)) | exact HB.out)))); have n1_ := Aside0.mk (IsS75.below (by repeat (first | (with_reducible first | exact HI212.out | apply IsS75.alloc | apply IsS75.drewN | apply IsS75.drew | apply IsS75.set_0) | exact HI212.out)) hb); have n2_ := Aside0.mk (below_step (by repeat (first | (with_reducible first | exact HB.out | apply below_alloc | apply pw_below_drewN | apply below_drew1 | refine below_set ?_ (IsS75.ge HI212.out)) | exact HB.out)) hb); clear HI212; clear HB; have HO215 := n0_; have HI212 := n1_; have HB := n2_; clear n0_ n1_ n2_; clear hb ho19; obtain ⟨Ao20, co20, eo20⟩ := Kd.S_slice HO215.out; subst eo20) | ((with_reducible refine gate_callee (f := 13) rfl ?_); refine goesL_ (some 13) rfl rfl Tryd.func13 (by kernel_rfl) rfl #[.pointer (some ⟨g212, 0, none⟩), .slice Ao20 y213.length co20] rfl (by (try simp only [List.map_toArray, List.map_cons, List.map_nil]); first | done | rfl | (simp only [List.length_drop, List.length_take]; rfl)) ?_; (with_reducible refine (digest_Tree.calls (hrG := ?sideG) k g212 t211 _ _ y213 t216 t217 w _ ?side1 ?side2 ?side3 ?side4 A2.out).mono ?_); (case sideG => (first | (with_reducible exact HRG.out) | exact TabG.below HRG.out (by repeat (first | (with_reducible first | exact HB.out | apply below_alloc | apply pw_below_drewN | apply below_drew1 | refine below_set ?_ (IsS75.ge HI212.out)) | (with_reducible exact Below.refl _ _))))); (case side1 => repeat (first | (with_reducible first | exact HI212.out | apply IsS75.alloc | apply IsS75.drewN | apply IsS75.drew | apply IsS75.set_0) | exact HI212.out)); (case side2 => repeat (first | (with_reducible first | exact HB.out | apply below_alloc | apply pw_below_drewN | apply below_drew1 | refine below_set ?_ (IsS75.ge HI212.out)) | exact HB.out)); (case side3 => exact Kd.C_footSt_own ((Kd.S_R (IsS75.apartS (show IsS75 w _ g212 t211 from by repeat (first | (with_reducible first | exact HI212.out | apply IsS75.alloc | apply IsS75.drewN | apply IsS75.drew | apply IsS75.set_0) | exact HI212.out)) (by (with_reducible repeat (first | apply Kd.S_alloc | apply Kd.S_drewN | apply Kd.S_drew)); exact HO215.out) (by decide)))) (fun _ h_ => h_.2)); (case side4 => exact (Kd.S_reads' HO215.out).2.1); rintro e w21 ⟨rfl, hi, hb, hk⟩; refine ⟨_, rfl, ?_⟩; have n0_ := Aside0.mk (Kd.S_mono (Kd.S_keepSt (IsS75.apartS (show IsS75 w _ g212 t211 from by repeat (first | (with_reducible first | exact HI212.out | apply IsS75.alloc | apply IsS75.drewN | apply IsS75.drew | apply IsS75.set_0) | exact HI212.out)) (by (with_reducible repeat (first | apply Kd.S_alloc | apply Kd.S_drewN | apply Kd.S_drew)); exact HO215.out) (by decide)) hk (fun _ h => h.2)) (fun _ h => h.1)); have n1_ := Aside0.mk (hb); have n2_ := Aside0.mk (hi); clear HO215; clear HB; clear HI212; have HO215 := n0_; have HB := n1_; have HI212 := n2_; clear n0_ n1_ n2_; (try clear hb); (try clear hb2); (try clear hk); (try clear hi)) | (go_at_call 31; (with_reducible refine (term_Store_Text.calls g212 t217 (⟨#[48]⟩ : ByteArray) t218 t219 w _ ?side1 ?side2 A9.out).mono ?_); (case side1 => repeat (first | (with_reducible first | exact HI212.out | apply IsS75.alloc | apply IsS75.drewN | apply IsS75.drew | apply IsS75.set_0) | exact HI212.out)); (case side2 => repeat (first | (with_reducible first | exact HB.out | apply below_alloc | apply pw_below_drewN | apply below_drew1 | refine below_set ?_ (IsS75.ge HI212.out)) | exact HB.out)); rintro e w22 ⟨rfl, hi, hb, hk⟩; have n0_ := Aside0.mk (Kd.S_mono (Kd.S_keepSt (IsS75.apartS (show IsS75 w _ g212 t217 from by repeat (first | (with_reducible first | exact HI212.out | apply IsS75.alloc | apply IsS75.drewN | apply IsS75.drew | apply IsS75.set_0) | exact HI212.out)) (by (with_reducible repeat (first | apply Kd.S_alloc | apply Kd.S_drewN | apply Kd.S_drew)); exact HO215.out) (by decide)) hk (fun _ h => h.2)) (fun _ h => h.1)); have n1_ := Aside0.mk (hb); have n2_ := Aside0.mk (hi); clear HO215; clear HB; clear HI212; have HO215 := n0_; have HB := n1_; have HI212 := n2_; clear n0_ n1_ n2_; (try clear hb); (try clear hb2); (try clear hk); (try clear hi)) | (go_at_call 31; (with_reducible refine (term_Store_Text.calls g212 t219 (⟨#[51]⟩ : ByteArray) t220 t221 w _ ?side1 ?side2 A10.out).mono ?_); (case side1 => repeat (first | (with_reducible first | exact HI212.out | apply IsS75.alloc | apply IsS75.drewN | apply IsS75.drew | apply IsS75.set_0) | exact HI212.out)); (case side2 => repeat (first | (with_reducible first | exact HB.out | apply below_alloc | apply pw_below_drewN | apply below_drew1 | refine below_set ?_ (IsS75.ge HI212.out)) | exact HB.out)); rintro e w23 ⟨rfl, hi, hb, hk⟩; have n0_ := Aside0.mk (Kd.S_mono (Kd.S_keepSt (IsS75.apartS (show IsS75 w _ g212 t219 from by repeat (first | (with_reducible first | exact HI212.out | apply IsS75.alloc | apply IsS75.drewN | apply IsS75.drew | apply IsS75.set_0) | exact HI212.out)) (by (with_reducible repeat (first | apply Kd.S_alloc | apply Kd.S_drewN | apply Kd.S_drew)); exact HO215.out) (by decide)) hk (fun _ h => h.2)) (fun _ h => h.1)); have n1_ := Aside0.mk (hb); have n2_ := Aside0.mk (hi); clear HO215; clear HB; clear HI212; have HO215 := n0_; have HB := n1_; have HI212 := n2_; clear n0_ n1_ n2_; (try clear hb); (try clear hb2); (try clear hk); (try clear hi)) | (go_at_call 31; (with_reducible refine (term_Store_Text.calls g212 t221 (⟨#[]⟩ : ByteArray) t222 t223 w _ ?side1 ?side2 A11.out).mono ?_); (case side1 => repeat (first | (with_reducible first | exact HI212.out | apply IsS75.alloc | apply IsS75.drewN | apply IsS75.drew | apply IsS75.set_0) | exact HI212.out)); (case side2 => repeat (first | (with_reducible first | exact HB.out | apply below_alloc | apply pw_below_drewN | apply below_drew1 | refine below_set ?_ (IsS75.ge HI212.out)) | exact HB.out)); rintro e w24 ⟨rfl, hi, hb, hk⟩; have n0_ := Aside0.mk (Kd.S_mono (Kd.S_keepSt (IsS75.apartS (show IsS75 w _ g212 t221 from by repeat (first | (with_reducible first | exact HI212.out | apply IsS75.alloc | apply IsS75.drewN | apply IsS75.drew | apply IsS75.set_0) | exact HI212.out)) (by (with_reducible repeat (first | apply Kd.S_alloc | apply Kd.S_drewN | apply Kd.S_drew)); exact HO215.out) (by decide)) hk (fun _ h => h.2)) (fun _ h => h.1)); have n1_ := Aside0.mk (hb); have n2_ := Aside0.mk (hi); clear HO215; clear HB; clear HI212; have HO215 := n0_; have HB := n1_; have HI212 := n2_; clear n0_ n1_ n2_; (try clear hb); (try clear hb2); (try clear hk); (try clear hi)) | ((with_reducible refine gate_dst (N := 26) rfl ?_); (try (refine gate_guard (by rfl) ?_; dsimp only)); refine Kd.R_lit (Kd.int .i64) _ 3 ?hg (N := 26) ?hd (xs := ([t218, t220, 1, 2, t222] : List Int)) (inner := [.int .i64 t218, .int .i64 t220, .int .i64 1, .int .i64 2, .int .i64 t222]) (ok := fun _ => True) (okp := fun _ => True) ?hr ?hp (fun _ hk => hk) trivial (Below.refl _ _) (Nat.le_refl _) (by simp) ?_; (case hd => rfl); (case hg => rfl); (case hr => first | (go_simp; done) | (go_simp; rfl)); (case hp => exact (Reps.one (show Kd.M (Kd.int .i64) _ _ _ t218 [.int .i64 t218] from rfl) (Reps.one (show Kd.M (Kd.int .i64) _ _ _ t220 [.int .i64 t220] from rfl) (Reps.one (show Kd.M (Kd.int .i64) _ _ _ 1 [.int .i64 1] from rfl) (Reps.one (show Kd.M (Kd.int .i64) _ _ _ 2 [.int .i64 2] from rfl) (Reps.one (show Kd.M (Kd.int .i64) _ _ _ t222 [.int .i64 t222] from rfl) (Reps.none _ _))))))); intro v225 w25 ho26 hb hg_ hnew_; clear hg_ hnew_; (first | rw [← Ny224.out] at ho26 | (simp only [Int.reduceToNat] at ho26; rw [← Ny224.out] at ho26)); have n0_ := Aside0.mk (Kd.S_elder' (by (with_reducible repeat (first | apply Kd.S_alloc | apply Kd.S_drewN | apply Kd.S_drew)); exact HO215.out) (Kd.R_base ho26) hb); have n1_ := Aside0.mk (Kd.R_lower ho26 (below_size (by repeat (first | (with_reducible first | exact HB.out | apply below_alloc | apply pw_below_drewN | apply below_drew1 | refine below_set ?_ (IsS75.ge HI212.out)) | exact HB.out)))); have n2_ := Aside0.mk (IsS75.below (by repeat (first | (with_reducible first | exact HI212.out | apply IsS75.alloc | apply IsS75.drewN | apply IsS75.drew | apply IsS75.set_0) | exact HI212.out)) hb); have n3_ := Aside0.mk (below_step (by repeat (first | (with_reducible first | exact HB.out | apply below_alloc | apply pw_below_drewN | apply below_drew1 | refine below_set ?_ (IsS75.ge HI212.out)) | exact HB.out)) hb); clear HO215; clear HI212; clear HB; have HO215 := n0_; have HO226 := n1_; have HI212 := n2_; have HB := n3_; clear n0_ n1_ n2_ n3_; clear hb ho26; obtain ⟨Ao27, co27, eo27⟩ := Kd.R_slice HO226.out; subst eo27) | (go_at_call 34; (with_reducible refine (term_Store_List.calls k g212 t223 _ _ y224 t227 t228 w _ ?side1 ?side2 ?side3 ?side4 ?side5 A12.out).mono ?_); (case side1 => repeat (first | (with_reducible first | exact HI212.out | apply IsS75.alloc | apply IsS75.drewN | apply IsS75.drew | apply IsS75.set_0) | exact HI212.out)); (case side2 => repeat (first | (with_reducible first | exact HB.out | apply below_alloc | apply pw_below_drewN | apply below_drew1 | refine below_set ?_ (IsS75.ge HI212.out)) | exact HB.out)); (case side3 => repeat (first | exact (Kd.R_reads' HO226.out).2.2 | (with_reducible refine Kd.C_alloc ?_ _) | (with_reducible refine Kd.C_drewN ?_ _) | (with_reducible refine Kd.C_drew ?_))); (case side4 => exact (Kd.R_reads' HO226.out).2.1); (case side5 => exact Kd.far_R (by (with_reducible repeat (first | apply Kd.R_alloc | apply Kd.R_drewN | apply Kd.R_drew)); exact HO226.out) (by decide)); rintro e w28 ⟨rfl, hi, hb, hk⟩; have n0_ := Aside0.mk (Kd.S_mono (Kd.S_keepSt (IsS75.apartS (show IsS75 w _ g212 t223 from by repeat (first | (with_reducible first | exact HI212.out | apply IsS75.alloc | apply IsS75.drewN | apply IsS75.drew | apply IsS75.set_0) | exact HI212.out)) (by (with_reducible repeat (first | apply Kd.S_alloc | apply Kd.S_drewN | apply Kd.S_drew)); exact HO215.out) (by decide)) hk (fun _ h => h.2)) (fun _ h => h.1)); have n1_ := Aside0.mk (Kd.R_mono (Kd.R_keepSt (IsS75.apart (show IsS75 w _ g212 t223 from by repeat (first | (with_reducible first | exact HI212.out | apply IsS75.alloc | apply IsS75.drewN | apply IsS75.drew | apply IsS75.set_0) | exact HI212.out)) (by (with_reducible repeat (first | apply Kd.R_alloc | apply Kd.R_drewN | apply Kd.R_drew)); exact HO226.out) (by decide)) hk (fun _ h => h.2)) (fun _ h => h.1)); have n2_ := Aside0.mk (hb); have n3_ := Aside0.mk (hi); clear HO215; clear HO226; clear HB; clear HI212; have HO215 := n0_; have HO226 := n1_; have HB := n2_; have HI212 := n3_; clear n0_ n1_ n2_ n3_; (try clear hb); (try clear hb2); (try clear hk); (try clear hi)) | (go_at_call 33; (with_reducible refine (term_Store_Hash.calls g212 t228 (⟨#[108, 101, 97, 102]⟩ : ByteArray) t227 t229 t230 w _ ?side1 ?side2 A13.out).mono ?_); (case side1 => repeat (first | (with_reducible first | exact HI212.out | apply IsS75.alloc | apply IsS75.drewN | apply IsS75.drew | apply IsS75.set_0) | exact HI212.out)); (case side2 => repeat (first | (with_reducible first | exact HB.out | apply below_alloc | apply pw_below_drewN | apply below_drew1 | refine below_set ?_ (IsS75.ge HI212.out)) | exact HB.out)); rintro e w29 ⟨rfl, hi, hb, hk⟩; have n0_ := Aside0.mk (Kd.S_mono (Kd.S_keepSt (IsS75.apartS (show IsS75 w _ g212 t228 from by repeat (first | (with_reducible first | exact HI212.out | apply IsS75.alloc | apply IsS75.drewN | apply IsS75.drew | apply IsS75.set_0) | exact HI212.out)) (by (with_reducible repeat (first | apply Kd.S_alloc | apply Kd.S_drewN | apply Kd.S_drew)); exact HO215.out) (by decide)) hk (fun _ h => h.2)) (fun _ h => h.1)); have n1_ := Aside0.mk (Kd.R_mono (Kd.R_keepSt (IsS75.apart (show IsS75 w _ g212 t228 from by repeat (first | (with_reducible first | exact HI212.out | apply IsS75.alloc | apply IsS75.drewN | apply IsS75.drew | apply IsS75.set_0) | exact HI212.out)) (by (with_reducible repeat (first | apply Kd.R_alloc | apply Kd.R_drewN | apply Kd.R_drew)); exact HO226.out) (by decide)) hk (fun _ h => h.2)) (fun _ h => h.1)); have n2_ := Aside0.mk (hb); have n3_ := Aside0.mk (hi); clear HO215; clear HO226; clear HB; clear HI212; have HO215 := n0_; have HO226 := n1_; have HB := n2_; have HI212 := n3_; clear n0_ n1_ n2_ n3_; (try clear hb); (try clear hb2); (try clear hk); (try clear hi)) | (go_at_call 20; (with_reducible refine (digest_Number.calls (hrG := ?sideG) g212 t230 (-12) t231 t232 w _ ?side1 ?side2 A15.out).mono ?_); (case sideG => (first | (with_reducible exact HRG.out) | exact TabG.below HRG.out (by repeat (first | (with_reducible first | exact HB.out | apply below_alloc | apply pw_below_drewN | apply below_drew1 | refine below_set ?_ (IsS75.ge HI212.out)) | (with_reducible exact Below.refl _ _))))); (case side1 => repeat (first | (with_reducible first | exact HI212.out | apply IsS75.alloc | apply IsS75.drewN | apply IsS75.drew | apply IsS75.set_0) | exact HI212.out)); (case side2 => repeat (first | (with_reducible first | exact HB.out | apply below_alloc | apply pw_below_drewN | apply below_drew1 | refine below_set ?_ (IsS75.ge HI212.out)) | exact HB.out)); rintro e w30 ⟨rfl, hi, hb, hk⟩; have n0_ := Aside0.mk (Kd.S_mono (Kd.S_keepSt (IsS75.apartS (show IsS75 w _ g212 t230 from by repeat (first | (with_reducible first | exact HI212.out | apply IsS75.alloc | apply IsS75.drewN | apply IsS75.drew | apply IsS75.set_0) | exact HI212.out)) (by (with_reducible repeat (first | apply Kd.S_alloc | apply Kd.S_drewN | apply Kd.S_drew)); exact HO215.out) (by decide)) hk (fun _ h => h.2)) (fun _ h => h.1)); have n1_ := Aside0.mk (Kd.R_mono (Kd.R_keepSt (IsS75.apart (show IsS75 w _ g212 t230 from by repeat (first | (with_reducible first | exact HI212.out | apply IsS75.alloc | apply IsS75.drewN | apply IsS75.drew | apply IsS75.set_0) | exact HI212.out)) (by (with_reducible repeat (first | apply Kd.R_alloc | apply Kd.R_drewN | apply Kd.R_drew)); exact HO226.out) (by decide)) hk (fun _ h => h.2)) (fun _ h => h.1)); have n2_ := Aside0.mk (hb); have n3_ := Aside0.mk (hi); clear HO215; clear HO226; clear HB; clear HI212; have HO215 := n0_; have HO226 := n1_; have HB := n2_; have HI212 := n3_; clear n0_ n1_ n2_ n3_; (try clear hb); (try clear hb2); (try clear hk); (try clear hi)) | (go_at_call 31; (with_reducible refine (term_Store_Text.calls g212 t232 (⟨#[45, 49, 50]⟩ : ByteArray) t233 t234 w _ ?side1 ?side2 A16.out).mono ?_); (case side1 => repeat (first | (with_reducible first | exact HI212.out | apply IsS75.alloc | apply IsS75.drewN | apply IsS75.drew | apply IsS75.set_0) | exact HI212.out)); (case side2 => repeat (first | (with_reducible first | exact HB.out | apply below_alloc | apply pw_below_drewN | apply below_drew1 | refine below_set ?_ (IsS75.ge HI212.out)) | exact HB.out)); rintro e w31 ⟨rfl, hi, hb, hk⟩; have n0_ := Aside0.mk (Kd.S_mono (Kd.S_keepSt (IsS75.apartS (show IsS75 w _ g212 t232 from by repeat (first | (with_reducible first | exact HI212.out | apply IsS75.alloc | apply IsS75.drewN | apply IsS75.drew | apply IsS75.set_0) | exact HI212.out)) (by (with_reducible repeat (first | apply Kd.S_alloc | apply Kd.S_drewN | apply Kd.S_drew)); exact HO215.out) (by decide)) hk (fun _ h => h.2)) (fun _ h => h.1)); have n1_ := Aside0.mk (Kd.R_mono (Kd.R_keepSt (IsS75.apart (show IsS75 w _ g212 t232 from by repeat (first | (with_reducible first | exact HI212.out | apply IsS75.alloc | apply IsS75.drewN | apply IsS75.drew | apply IsS75.set_0) | exact HI212.out)) (by (with_reducible repeat (first | apply Kd.R_alloc | apply Kd.R_drewN | apply Kd.R_drew)); exact HO226.out) (by decide)) hk (fun _ h => h.2)) (fun _ h => h.1)); have n2_ := Aside0.mk (hb); have n3_ := Aside0.mk (hi); clear HO215; clear HO226; clear HB; clear HI212; have HO215 := n0_; have HO226 := n1_; have HB := n2_; have HI212 := n3_; clear n0_ n1_ n2_ n3_; (try clear hb); (try clear hb2); (try clear hk); (try clear hi)))
        go_ret
        exact ⟨by first | rfl | (simp [errW_none, errW_some] <;> rfl) | (simp [*, errW_none, errW_some] <;> rfl), by repeat (first | (with_reducible first | exact HB.out | apply below_alloc | apply pw_below_drewN | apply below_drew1 | refine below_set ?_ (IsS75.ge HI212.out)) | exact HB.out)⟩
    · rw [if_neg c14] at H
      exact absurd ((Option.some.inj H).trans hr) Bool.false_ne_true
def conclaveref04_Leaves.f (l0 : List (S33)) : Option (Int) := some (wrap64 (Int.tdiv (wrap64 ((l0.length : Int) + 1)) 2))
set_option maxHeartbeats 8000000 in
set_option maxRecDepth 100000 in
theorem conclaveref04_Leaves.calls (A0 : Option Addr) (c0 : Nat) (l0 : List (S33)) (r : Int) (w : World) (hr0 : Kd.C k33 w A0 l0.length l0) (hc0 : l0.length ≤ c0) (h : conclaveref04_Leaves.f l0 = some r) :
    Calls Tryd.prog 19 #[.slice A0 l0.length c0] w fun e w' => e = .returned (.int .i64 r) ∧ Drawn0 w w' := by
  have HR0 := Aside0.mk hr0
  have HC0 := Aside0.mk hc0
  clear hr0 hc0
  have H : (some (wrap64 (Int.tdiv (wrap64 ((l0.length : Int) + 1)) 2))) = some r := h
  clear h
  obtain rfl := Option.some.inj H
  go_enter Tryd.func19, Tryd.ntmps19
  go_wp2
  go_ret
  exact ⟨by first | rfl | (simp; done) | (simp [*]; done), by repeat (first | exact Drawn0.refl _ | apply Drawn0.step)⟩
def conclaveref03_Right.f (a0 : Int) : Option (Bool) := if a0 = 1 then (some true) else (if a0 = 2 then (some true) else (if a0 = 4 then (some true) else (if a0 = 8 then (some true) else (if a0 = 16 then (some true) else (some (a0 == 32))))))
set_option maxHeartbeats 8000000 in
set_option maxRecDepth 100000 in
theorem conclaveref03_Right.calls (a0 : Int) (r : Bool) (w : World) (h : conclaveref03_Right.f a0 = some r) :
    Calls Tryd.prog 61 #[.int .i64 a0] w fun e w' => e = .returned (.bool r) ∧ Drawn0 w w' := by
  have H : (if a0 = 1 then (some true) else (if a0 = 2 then (some true) else (if a0 = 4 then (some true) else (if a0 = 8 then (some true) else (if a0 = 16 then (some true) else (some (a0 == 32))))))) = some r := h
  clear h
  by_cases c2 : a0 = 1
  · rw [if_pos c2] at H
    have c2b0 : (a0 == 1) = true := beq_iff_eq.mpr c2
    have c2b1 : (a0 != 1) = false := bne_eq_false_iff_eq.mpr c2
    clear c2
    obtain rfl := Option.some.inj H
    go_enter Tryd.func61, Tryd.ntmps61
    go_wp2
    go_ret
    exact ⟨by first | rfl | (simp; done) | (simp [*]; done), by repeat (first | exact Drawn0.refl _ | apply Drawn0.step)⟩
  · rw [if_neg c2] at H
    have c2b0 : (a0 == 1) = false := beq_eq_false_iff_ne.mpr c2
    have c2b1 : (a0 != 1) = true := bne_iff_ne.mpr c2
    by_cases c3 : a0 = 2
    · rw [if_pos c3] at H
      have c3b0 : (a0 == 2) = true := beq_iff_eq.mpr c3
      have c3b1 : (a0 != 2) = false := bne_eq_false_iff_eq.mpr c3
      clear c3
      obtain rfl := Option.some.inj H
      go_enter Tryd.func61, Tryd.ntmps61
      go_wp2
      go_ret
      exact ⟨by first | rfl | (simp; done) | (simp [*]; done), by repeat (first | exact Drawn0.refl _ | apply Drawn0.step)⟩
    · rw [if_neg c3] at H
      have c3b0 : (a0 == 2) = false := beq_eq_false_iff_ne.mpr c3
      have c3b1 : (a0 != 2) = true := bne_iff_ne.mpr c3
      by_cases c4 : a0 = 4
      · rw [if_pos c4] at H
        have c4b0 : (a0 == 4) = true := beq_iff_eq.mpr c4
        have c4b1 : (a0 != 4) = false := bne_eq_false_iff_eq.mpr c4
        clear c4
        obtain rfl := Option.some.inj H
        go_enter Tryd.func61, Tryd.ntmps61
        go_wp2
        go_ret
        exact ⟨by first | rfl | (simp; done) | (simp [*]; done), by repeat (first | exact Drawn0.refl _ | apply Drawn0.step)⟩
      · rw [if_neg c4] at H
        have c4b0 : (a0 == 4) = false := beq_eq_false_iff_ne.mpr c4
        have c4b1 : (a0 != 4) = true := bne_iff_ne.mpr c4
        by_cases c5 : a0 = 8
        · rw [if_pos c5] at H
          have c5b0 : (a0 == 8) = true := beq_iff_eq.mpr c5
          have c5b1 : (a0 != 8) = false := bne_eq_false_iff_eq.mpr c5
          clear c5
          obtain rfl := Option.some.inj H
          go_enter Tryd.func61, Tryd.ntmps61
          go_wp2
          go_ret
          exact ⟨by first | rfl | (simp; done) | (simp [*]; done), by repeat (first | exact Drawn0.refl _ | apply Drawn0.step)⟩
        · rw [if_neg c5] at H
          have c5b0 : (a0 == 8) = false := beq_eq_false_iff_ne.mpr c5
          have c5b1 : (a0 != 8) = true := bne_iff_ne.mpr c5
          by_cases c6 : a0 = 16
          · rw [if_pos c6] at H
            have c6b0 : (a0 == 16) = true := beq_iff_eq.mpr c6
            have c6b1 : (a0 != 16) = false := bne_eq_false_iff_eq.mpr c6
            clear c6
            obtain rfl := Option.some.inj H
            go_enter Tryd.func61, Tryd.ntmps61
            go_wp2
            go_ret
            exact ⟨by first | rfl | (simp; done) | (simp [*]; done), by repeat (first | exact Drawn0.refl _ | apply Drawn0.step)⟩
          · rw [if_neg c6] at H
            have c6b0 : (a0 == 16) = false := beq_eq_false_iff_ne.mpr c6
            have c6b1 : (a0 != 16) = true := bne_iff_ne.mpr c6
            obtain rfl := Option.some.inj H
            go_enter Tryd.func61, Tryd.ntmps61
            go_wp2
            go_ret
            exact ⟨by first | rfl | (simp; done) | (simp [*]; done), by repeat (first | exact Drawn0.refl _ | apply Drawn0.step)⟩
def conclaveref04_Full.f (l0 : List (S33)) (a1 : Int) : Option (Bool) := if a1 ≥ 0 then ((conclaveref04_Leaves.f l0).bind fun t235 => (if a1 < t235 then (if 0 ≤ (wrap64 (2 * a1)) then (if (wrap64 (2 * a1)) < (l0.length : Int) then (some ((rd_T33 l0 (wrap64 (2 * a1))).f0)) else (none)) else (none)) else (some false))) else (some false)
set_option maxHeartbeats 8000000 in
set_option maxRecDepth 100000 in
theorem conclaveref04_Full.calls (A0 : Option Addr) (c0 : Nat) (l0 : List (S33)) (a1 : Int) (r : Bool) (w : World) (hr0 : Kd.C k33 w A0 l0.length l0) (hc0 : l0.length ≤ c0) (h : conclaveref04_Full.f l0 a1 = some r) :
    Calls Tryd.prog 15 #[.slice A0 l0.length c0, .int .i64 a1] w fun e w' => e = .returned (.bool r) ∧ Drawn0 w w' := by
  have HR0 := Aside0.mk hr0
  have HC0 := Aside0.mk hc0
  clear hr0 hc0
  have H : (if a1 ≥ 0 then ((conclaveref04_Leaves.f l0).bind fun t235 => (if a1 < t235 then (if 0 ≤ (wrap64 (2 * a1)) then (if (wrap64 (2 * a1)) < (l0.length : Int) then (some ((rd_T33 l0 (wrap64 (2 * a1))).f0)) else (none)) else (none)) else (some false))) else (some false)) = some r := h
  clear h
  by_cases c3 : a1 ≥ 0
  · rw [if_pos c3] at H
    have c3b0 : decide (0 ≤ a1) = true := decide_eq_true c3
    clear c3
    replace H := Option.bind_eq_some_iff.mp H
    obtain ⟨t235, A40, H⟩ := H
    replace H : (if a1 < t235 then (if 0 ≤ (wrap64 (2 * a1)) then (if (wrap64 (2 * a1)) < (l0.length : Int) then (some ((rd_T33 l0 (wrap64 (2 * a1))).f0)) else (none)) else (none)) else (some false)) = some r := H
    have A4 := Aside0.mk A40
    clear A40
    by_cases c5 : a1 < t235
    · rw [if_pos c5] at H
      have c5b0 : decide (a1 < t235) = true := decide_eq_true c5
      clear c5
      obtain ⟨ji6, hji6⟩ : ∃ j_ : Int, (wrap64 (2 * a1)) = j_ := ⟨_, rfl⟩
      replace H : (if 0 ≤ (ji6) then (if (ji6) < (l0.length : Int) then (some ((rd_T33 l0 (ji6)).f0)) else (none)) else (none)) = some r := by first | (rw [hji6] at H; exact H) | (simp only [hji6] at H ⊢; exact H)
      (try rw [hji6] at A4)
      have hji6w : (IntKind.i64.wrap (2 * a1)) = ji6 := (i64_w _).trans hji6
      by_cases c7 : 0 ≤ (ji6)
      · rw [if_pos c7] at H
        have c7b0 : decide (0 ≤ (ji6)) = true := decide_eq_true c7
        clear c7
        by_cases c8 : (ji6) < (l0.length : Int)
        · rw [if_pos c8] at H
          have c8b0 : decide ((ji6) < (l0.length : Int)) = true := decide_eq_true c8
          clear c8
          obtain rfl := Option.some.inj H
          go_enter Tryd.func15, Tryd.ntmps15
          go_wp2_with (first | (go_at_call 19; (with_reducible refine (conclaveref04_Leaves.calls _ _ l0 t235 _ ?side1 ?side2 A4.out).mono ?_); (case side1 => repeat (first | exact HR0.out | (with_reducible refine Kd.C_alloc ?_ _) | (with_reducible refine Kd.C_drewN ?_ _) | (with_reducible refine Kd.C_drew ?_))); (case side2 => exact HC0.out); rintro e w' ⟨rfl, ⟨nd, rfl⟩⟩; have p236 : 0 ≤ ((ji6) : Int) := of_decide_eq_true (by first | (with_reducible assumption) | assumption); have q236 : (ji6) < (l0.length : Int) := of_decide_eq_true (by first | (with_reducible assumption) | assumption); obtain ⟨ad236, A236_5, c236_5, e236, hx236_0, hx236_1, hx236_2, hx236_3, hx236_4, hx236_5, hl236_5, hi236_5⟩ := at_T33 HR0.out (ji6) p236 q236; cases e236; have HR236_5 := Aside0.mk hi236_5; have HC236_5 := Aside0.mk hl236_5; clear hi236_5 hl236_5; replace p236 := eq_true p236; replace q236 := eq_true q236))
          go_ret
          exact ⟨by first | rfl | (simp; done) | (simp only [← hji6] <;> (first | rfl | simp)) | (simp [*]; done), by repeat (first | exact Drawn0.refl _ | apply Drawn0.step)⟩
        · rw [if_neg c8] at H
          exact absurd H (by simp)
      · rw [if_neg c7] at H
        exact absurd H (by simp)
    · rw [if_neg c5] at H
      have c5b0 : decide (a1 < t235) = false := decide_eq_false c5
      clear c5
      obtain rfl := Option.some.inj H
      go_enter Tryd.func15, Tryd.ntmps15
      go_wp2_with (first | (go_at_call 19; (with_reducible refine (conclaveref04_Leaves.calls _ _ l0 t235 _ ?side1 ?side2 A4.out).mono ?_); (case side1 => repeat (first | exact HR0.out | (with_reducible refine Kd.C_alloc ?_ _) | (with_reducible refine Kd.C_drewN ?_ _) | (with_reducible refine Kd.C_drew ?_))); (case side2 => exact HC0.out); rintro e w' ⟨rfl, ⟨nd, rfl⟩⟩))
      go_ret
      exact ⟨by first | rfl | (simp; done) | (simp [*]; done), by repeat (first | exact Drawn0.refl _ | apply Drawn0.step)⟩
  · rw [if_neg c3] at H
    have c3b0 : decide (0 ≤ a1) = false := decide_eq_false c3
    clear c3
    obtain rfl := Option.some.inj H
    go_enter Tryd.func15, Tryd.ntmps15
    go_wp2
    go_ret
    exact ⟨by first | rfl | (simp; done) | (simp [*]; done), by repeat (first | exact Drawn0.refl _ | apply Drawn0.step)⟩
def conclaveref04_Tight.l0 : Nat → List (S33) → Int → Int → Option (Bool)
  | 0, _, _, _ => none
  | k + 1, x0, x3, x4 => if x4 < x3 then ((conclaveref04_Full.f x0 x4).bind fun t238 => (if t238 = true then (some true) else (conclaveref04_Tight.l0 k x0 x3 (wrap64 (x4 + 1))))) else (some false)
def conclaveref04_Tight.f (k : Nat) (l0 : List (S33)) : Option (Bool) := (conclaveref04_Leaves.f l0).bind fun t237 => (conclaveref04_Tight.l0 k l0 t237 (wrap64 (Int.tdiv t237 2)))
theorem conclaveref04_Tight.mono_l : ∀ k, (∀ y0 y1 y2, LeO (conclaveref04_Tight.l0 k y0 y1 y2) (conclaveref04_Tight.l0 (k + 1) y0 y1 y2))
  | 0 => fun _ _ _ r h => by simp [conclaveref04_Tight.l0] at h
  | k + 1 => by
    have ih0 := conclaveref04_Tight.mono_l k
    · intro y0 y1 y2
      unfold conclaveref04_Tight.l0
      repeat' first
      | (with_reducible exact ih0 _ _ _)
      | (with_reducible exact LeO.refl _)
      | (with_reducible exact LeO.none _)
      | (with_reducible refine LeO.ite ?_ ?_)
      | (with_reducible refine LeO.bind ?_ (fun _ => ?_))
      | exact ih0 _ _ _
      | exact LeO.none _
      | refine LeO.ite ?_ ?_
      | refine LeO.bind ?_ (fun _ => ?_)
theorem conclaveref04_Tight.mono : ∀ a0 k, LeO (conclaveref04_Tight.f k a0) (conclaveref04_Tight.f (k + 1) a0) := by
  intro a0 k
  have ih0 := conclaveref04_Tight.mono_l k
  unfold conclaveref04_Tight.f
  repeat' first
      | (with_reducible exact ih0 _ _ _)
      | (with_reducible exact LeO.refl _)
      | (with_reducible exact LeO.none _)
      | (with_reducible refine LeO.ite ?_ ?_)
      | (with_reducible refine LeO.bind ?_ (fun _ => ?_))
      | exact ih0 _ _ _
      | exact LeO.none _
      | refine LeO.ite ?_ ?_
      | refine LeO.bind ?_ (fun _ => ?_)
set_option maxHeartbeats 8000000 in
set_option maxRecDepth 100000 in
theorem conclaveref04_Tight.calls (k : Nat) (A0 : Option Addr) (c0 : Nat) (l0 : List (S33)) (r : Bool) (w : World) (hr0 : Kd.C k33 w A0 l0.length l0) (hc0 : l0.length ≤ c0) (h : conclaveref04_Tight.f k l0 = some r) :
    Calls Tryd.prog 62 #[.slice A0 l0.length c0] w fun e w' => e = .returned (.bool r) ∧ Drawn0 w w' := by
  have HR0 := Aside0.mk hr0
  have HC0 := Aside0.mk hc0
  clear hr0 hc0
  have H : ((conclaveref04_Leaves.f l0).bind fun t237 => (conclaveref04_Tight.l0 k l0 t237 (wrap64 (Int.tdiv t237 2)))) = some r := h
  clear h
  replace H := Option.bind_eq_some_iff.mp H
  obtain ⟨t237, A20, H⟩ := H
  replace H : (conclaveref04_Tight.l0 k l0 t237 (wrap64 (Int.tdiv t237 2))) = some r := H
  have A2 := Aside0.mk A20
  clear A20
  have H' := Aside0.mk H
  clear H
  go_enter Tryd.func62, Tryd.ntmps62
  go_wp2_with (first | ((with_reducible refine gate_callee (f := 19) rfl ?_); refine goesL_ (some 6) rfl rfl Tryd.func19 (by kernel_rfl) rfl #[.slice A0 l0.length c0] rfl (by (try simp only [List.map_toArray, List.map_cons, List.map_nil]); first | done | rfl | (simp only [List.length_drop, List.length_take]; rfl)) ?_; (with_reducible refine (conclaveref04_Leaves.calls _ _ l0 t237 _ ?side1 ?side2 A2.out).mono ?_); (case side1 => repeat (first | exact HR0.out | (with_reducible refine Kd.C_alloc ?_ _) | (with_reducible refine Kd.C_drewN ?_ _) | (with_reducible refine Kd.C_drew ?_))); (case side2 => exact HC0.out); rintro e w' ⟨rfl, ⟨nd, rfl⟩⟩; refine ⟨_, rfl, ?_⟩))
  go_loopg [4] k (fun kq v4 w' => ∃ (x4_1 : Int), v4 = .int .i64 x4_1 ∧ Aside0 (conclaveref04_Tight.l0 kq l0 t237 x4_1 = some r) ∧ Aside0 (kq ≤ k) ∧ Drawn0 w w')
  case atStart => exact ⟨(wrap64 (Int.tdiv t237 2)), (by first | rfl | (simp; done) | (simp [*]; done)), H', ⟨Nat.le_refl _⟩, by repeat (first | exact Drawn0.refl _ | apply Drawn0.step)⟩
  case round =>
    clear H'
    try clear c1
    try clear p2
    obtain ⟨x4_1, rfl, HA, HK1, ⟨m1, rfl⟩⟩ := hrel
    cases gk with
    | zero => exact absurd HA.out (by simp [conclaveref04_Tight.l0])
    | succ k1 =>
      have H := HA.out
      clear HA
      simp only [conclaveref04_Tight.l0] at H
      by_cases c3 : x4_1 < t237
      · rw [if_pos c3] at H
        have c3b0 : decide (x4_1 < t237) = true := decide_eq_true c3
        clear c3
        replace H := Option.bind_eq_some_iff.mp H
        obtain ⟨t238, A40, H⟩ := H
        replace H : (if t238 = true then (some true) else (conclaveref04_Tight.l0 k1 l0 t237 (wrap64 (x4_1 + 1)))) = some r := H
        have A4 := Aside0.mk A40
        clear A40
        by_cases c5 : t238 = true
        · subst c5
          have H1 : (some true) = some r := by rw [if_pos rfl] at H; exact H
          clear H
          have H := H1
          clear H1
          obtain rfl := Option.some.inj H
          go_wp2_with (first | ((with_reducible refine gate_callee (f := 15) rfl ?_); refine goesL_ (some 16) rfl rfl Tryd.func15 (by kernel_rfl) rfl #[.slice A0 l0.length c0, .int .i64 x4_1] rfl (by (try simp only [List.map_toArray, List.map_cons, List.map_nil]); first | done | rfl | (simp only [List.length_drop, List.length_take]; rfl)) ?_; (with_reducible refine (conclaveref04_Full.calls _ _ l0 x4_1 true _ ?side1 ?side2 A4.out).mono ?_); (case side1 => repeat (first | exact HR0.out | (with_reducible refine Kd.C_alloc ?_ _) | (with_reducible refine Kd.C_drewN ?_ _) | (with_reducible refine Kd.C_drew ?_))); (case side2 => exact HC0.out); rintro e w' ⟨rfl, ⟨nd, rfl⟩⟩; refine ⟨_, rfl, ?_⟩))
          go_ret
          exact ⟨by first | rfl | (simp; done) | (simp [*]; done), by repeat (first | exact Drawn0.refl _ | apply Drawn0.step)⟩
        · replace c5 := Bool.eq_false_iff.mpr c5
          subst c5
          have H1 : (conclaveref04_Tight.l0 k1 l0 t237 (wrap64 (x4_1 + 1))) = some r := by rw [if_neg (show ¬ (false = true) by decide)] at H; exact H
          clear H
          have H := H1
          clear H1
          have H' := Aside0.mk H
          clear H
          go_wp2_with (first | ((with_reducible refine gate_callee (f := 15) rfl ?_); refine goesL_ (some 16) rfl rfl Tryd.func15 (by kernel_rfl) rfl #[.slice A0 l0.length c0, .int .i64 x4_1] rfl (by (try simp only [List.map_toArray, List.map_cons, List.map_nil]); first | done | rfl | (simp only [List.length_drop, List.length_take]; rfl)) ?_; (with_reducible refine (conclaveref04_Full.calls _ _ l0 x4_1 false _ ?side1 ?side2 A4.out).mono ?_); (case side1 => repeat (first | exact HR0.out | (with_reducible refine Kd.C_alloc ?_ _) | (with_reducible refine Kd.C_drewN ?_ _) | (with_reducible refine Kd.C_drew ?_))); (case side2 => exact HC0.out); rintro e w' ⟨rfl, ⟨nd, rfl⟩⟩; refine ⟨_, rfl, ?_⟩))
          go_roundg k1
          case measure => have := HK1.out; omega
          case rel => exact ⟨(wrap64 (x4_1 + 1)), (by first | rfl | (simp; done) | (simp [*]; done)), H', ⟨by have := HK1.out; omega⟩, by repeat (first | exact Drawn0.refl _ | apply Drawn0.step)⟩
      · rw [if_neg c3] at H
        have c3b0 : decide (x4_1 < t237) = false := decide_eq_false c3
        clear c3
        obtain rfl := Option.some.inj H
        go_wp2
        go_ret
        exact ⟨by first | rfl | (simp; done) | (simp [*]; done), by repeat (first | exact Drawn0.refl _ | apply Drawn0.step)⟩
def conclaveref03_In.f (a0 : Int) (a1 : Int) : Option (Bool) := (conclaveref03_Right.f a1).bind fun t239 => (if t239 = true then (if a0 ≥ 0 then (some (decide (a0 < (wrap64 ((wrap64 (2 * a1)) - 1))))) else (some false)) else (some false))
set_option maxHeartbeats 8000000 in
set_option maxRecDepth 100000 in
theorem conclaveref03_In.calls (a0 : Int) (a1 : Int) (r : Bool) (w : World) (h : conclaveref03_In.f a0 a1 = some r) :
    Calls Tryd.prog 42 #[.int .i64 a0, .int .i64 a1] w fun e w' => e = .returned (.bool r) ∧ Drawn0 w w' := by
  have H : ((conclaveref03_Right.f a1).bind fun t239 => (if t239 = true then (if a0 ≥ 0 then (some (decide (a0 < (wrap64 ((wrap64 (2 * a1)) - 1))))) else (some false)) else (some false))) = some r := h
  clear h
  replace H := Option.bind_eq_some_iff.mp H
  obtain ⟨t239, A30, H⟩ := H
  replace H : (if t239 = true then (if a0 ≥ 0 then (some (decide (a0 < (wrap64 ((wrap64 (2 * a1)) - 1))))) else (some false)) else (some false)) = some r := H
  have A3 := Aside0.mk A30
  clear A30
  by_cases c4 : t239 = true
  · subst c4
    have H1 : (if a0 ≥ 0 then (some (decide (a0 < (wrap64 ((wrap64 (2 * a1)) - 1))))) else (some false)) = some r := by rw [if_pos rfl] at H; exact H
    clear H
    have H := H1
    clear H1
    by_cases c5 : a0 ≥ 0
    · rw [if_pos c5] at H
      have c5b0 : decide (0 ≤ a0) = true := decide_eq_true c5
      clear c5
      obtain rfl := Option.some.inj H
      go_enter Tryd.func42, Tryd.ntmps42
      go_wp2_with (first | ((with_reducible refine gate_callee (f := 61) rfl ?_); refine goesL_ (some 6) rfl rfl Tryd.func61 (by kernel_rfl) rfl #[.int .i64 a1] rfl (by (try simp only [List.map_toArray, List.map_cons, List.map_nil]); first | done | rfl | (simp only [List.length_drop, List.length_take]; rfl)) ?_; (with_reducible refine (conclaveref03_Right.calls a1 true _ A3.out).mono ?_); rintro e w' ⟨rfl, ⟨nd, rfl⟩⟩; refine ⟨_, rfl, ?_⟩))
      go_ret
      exact ⟨by first | rfl | (simp; done) | (simp [*]; done), by repeat (first | exact Drawn0.refl _ | apply Drawn0.step)⟩
    · rw [if_neg c5] at H
      have c5b0 : decide (0 ≤ a0) = false := decide_eq_false c5
      clear c5
      obtain rfl := Option.some.inj H
      go_enter Tryd.func42, Tryd.ntmps42
      go_wp2_with (first | ((with_reducible refine gate_callee (f := 61) rfl ?_); refine goesL_ (some 6) rfl rfl Tryd.func61 (by kernel_rfl) rfl #[.int .i64 a1] rfl (by (try simp only [List.map_toArray, List.map_cons, List.map_nil]); first | done | rfl | (simp only [List.length_drop, List.length_take]; rfl)) ?_; (with_reducible refine (conclaveref03_Right.calls a1 true _ A3.out).mono ?_); rintro e w' ⟨rfl, ⟨nd, rfl⟩⟩; refine ⟨_, rfl, ?_⟩))
      go_ret
      exact ⟨by first | rfl | (simp; done) | (simp [*]; done), by repeat (first | exact Drawn0.refl _ | apply Drawn0.step)⟩
  · replace c4 := Bool.eq_false_iff.mpr c4
    subst c4
    have H1 : (some false) = some r := by rw [if_neg (show ¬ (false = true) by decide)] at H; exact H
    clear H
    have H := H1
    clear H1
    obtain rfl := Option.some.inj H
    go_enter Tryd.func42, Tryd.ntmps42
    go_wp2_with (first | ((with_reducible refine gate_callee (f := 61) rfl ?_); refine goesL_ (some 6) rfl rfl Tryd.func61 (by kernel_rfl) rfl #[.int .i64 a1] rfl (by (try simp only [List.map_toArray, List.map_cons, List.map_nil]); first | done | rfl | (simp only [List.length_drop, List.length_take]; rfl)) ?_; (with_reducible refine (conclaveref03_Right.calls a1 false _ A3.out).mono ?_); rintro e w' ⟨rfl, ⟨nd, rfl⟩⟩; refine ⟨_, rfl, ?_⟩))
    go_ret
    exact ⟨by first | rfl | (simp; done) | (simp [*]; done), by repeat (first | exact Drawn0.refl _ | apply Drawn0.step)⟩
def conclaveref03_Level.l0 : Nat → Int → Int → Option (Int)
  | 0, _, _ => none
  | k + 1, x0, x3 => if x0 > 0 then (if (Int.tmod x0 2) = 1 then (conclaveref03_Level.l0 k (wrap64 (Int.tdiv x0 2)) (wrap64 (x3 + 1))) else (some x3)) else (some x3)
def conclaveref03_Level.f (k : Nat) (a0 : Int) : Option (Int) := conclaveref03_Level.l0 k a0 0
theorem conclaveref03_Level.mono_l : ∀ k, (∀ y0 y1, LeO (conclaveref03_Level.l0 k y0 y1) (conclaveref03_Level.l0 (k + 1) y0 y1))
  | 0 => fun _ _ r h => by simp [conclaveref03_Level.l0] at h
  | k + 1 => by
    have ih0 := conclaveref03_Level.mono_l k
    · intro y0 y1
      unfold conclaveref03_Level.l0
      repeat' first
      | (with_reducible exact ih0 _ _)
      | (with_reducible exact LeO.refl _)
      | (with_reducible exact LeO.none _)
      | (with_reducible refine LeO.ite ?_ ?_)
      | (with_reducible refine LeO.bind ?_ (fun _ => ?_))
      | exact ih0 _ _
      | exact LeO.none _
      | refine LeO.ite ?_ ?_
      | refine LeO.bind ?_ (fun _ => ?_)
theorem conclaveref03_Level.mono : ∀ a0 k, LeO (conclaveref03_Level.f k a0) (conclaveref03_Level.f (k + 1) a0) := by
  intro a0 k
  have ih0 := conclaveref03_Level.mono_l k
  unfold conclaveref03_Level.f
  repeat' first
      | (with_reducible exact ih0 _ _)
      | (with_reducible exact LeO.refl _)
      | (with_reducible exact LeO.none _)
      | (with_reducible refine LeO.ite ?_ ?_)
      | (with_reducible refine LeO.bind ?_ (fun _ => ?_))
      | exact ih0 _ _
      | exact LeO.none _
      | refine LeO.ite ?_ ?_
      | refine LeO.bind ?_ (fun _ => ?_)
set_option maxHeartbeats 8000000 in
set_option maxRecDepth 100000 in
theorem conclaveref03_Level.calls (k : Nat) (a0 : Int) (r : Int) (w : World) (h : conclaveref03_Level.f k a0 = some r) :
    Calls Tryd.prog 46 #[.int .i64 a0] w fun e w' => e = .returned (.int .i64 r) ∧ Drawn0 w w' := by
  have H : (conclaveref03_Level.l0 k a0 0) = some r := h
  clear h
  have H' := Aside0.mk H
  clear H
  go_enter Tryd.func46, Tryd.ntmps46
  go_wp2
  go_loopg [0, 3] k (fun kq v0 v3 w' => ∃ (x0_1 : Int) (x3_1 : Int), v0 = .int .i64 x0_1 ∧ v3 = .int .i64 x3_1 ∧ Aside0 (conclaveref03_Level.l0 kq x0_1 x3_1 = some r) ∧ Aside0 (kq ≤ k) ∧ Drawn0 w w')
  case atStart => exact ⟨(a0), (0), (by first | rfl | (simp; done) | (simp [*]; done)), (by first | rfl | (simp; done) | (simp [*]; done)), H', ⟨Nat.le_refl _⟩, by repeat (first | exact Drawn0.refl _ | apply Drawn0.step)⟩
  case round =>
    clear H'
    obtain ⟨x0_1, x3_1, rfl, rfl, HA, HK1, ⟨m1, rfl⟩⟩ := hrel
    cases gk with
    | zero => exact absurd HA.out (by simp [conclaveref03_Level.l0])
    | succ k1 =>
      have H := HA.out
      clear HA
      simp only [conclaveref03_Level.l0] at H
      by_cases c2 : x0_1 > 0
      · rw [if_pos c2] at H
        have c2b0 : decide (0 < x0_1) = true := decide_eq_true c2
        clear c2
        by_cases c3 : (Int.tmod x0_1 2) = 1
        · rw [if_pos c3] at H
          have c3b0 : ((Int.tmod x0_1 2) == 1) = true := beq_iff_eq.mpr c3
          have c3b1 : ((Int.tmod x0_1 2) != 1) = false := bne_eq_false_iff_eq.mpr c3
          clear c3
          have H' := Aside0.mk H
          clear H
          go_wp2
          go_roundg k1
          case measure => have := HK1.out; omega
          case rel => exact ⟨(wrap64 (Int.tdiv x0_1 2)), (wrap64 (x3_1 + 1)), (by first | rfl | (simp; done) | (simp [*]; done)), (by first | rfl | (simp; done) | (simp [*]; done)), H', ⟨by have := HK1.out; omega⟩, by repeat (first | exact Drawn0.refl _ | apply Drawn0.step)⟩
        · rw [if_neg c3] at H
          have c3b0 : ((Int.tmod x0_1 2) == 1) = false := beq_eq_false_iff_ne.mpr c3
          have c3b1 : ((Int.tmod x0_1 2) != 1) = true := bne_iff_ne.mpr c3
          obtain rfl := Option.some.inj H
          go_wp2
          go_ret
          exact ⟨by first | rfl | (simp; done) | (simp [*]; done), by repeat (first | exact Drawn0.refl _ | apply Drawn0.step)⟩
      · rw [if_neg c2] at H
        have c2b0 : decide (0 < x0_1) = false := decide_eq_false c2
        clear c2
        obtain rfl := Option.some.inj H
        go_wp2
        go_ret
        exact ⟨by first | rfl | (simp; done) | (simp [*]; done), by repeat (first | exact Drawn0.refl _ | apply Drawn0.step)⟩
def conclaveref03_Width.l0 : Nat → Int → Int → Option (Int)
  | 0, _, _ => none
  | k + 1, x3, x4 => if x4 > 0 then (conclaveref03_Width.l0 k (wrap64 (2 * x3)) (wrap64 (x4 - 1))) else (some (wrap64 (x3 - 1)))
def conclaveref03_Width.f (k : Nat) (a0 : Int) : Option (Int) := (conclaveref03_Level.f k a0).bind fun t240 => (conclaveref03_Width.l0 k 1 t240)
theorem conclaveref03_Width.mono_l : ∀ k, (∀ y0 y1, LeO (conclaveref03_Width.l0 k y0 y1) (conclaveref03_Width.l0 (k + 1) y0 y1))
  | 0 => fun _ _ r h => by simp [conclaveref03_Width.l0] at h
  | k + 1 => by
    have ih0 := conclaveref03_Width.mono_l k
    · intro y0 y1
      unfold conclaveref03_Width.l0
      repeat' first
      | (with_reducible exact ih0 _ _)
      | (with_reducible exact conclaveref03_Level.mono _ _)
      | (with_reducible exact LeO.refl _)
      | (with_reducible exact LeO.none _)
      | (with_reducible refine LeO.ite ?_ ?_)
      | (with_reducible refine LeO.bind ?_ (fun _ => ?_))
      | exact ih0 _ _
      | exact conclaveref03_Level.mono _ _
      | exact LeO.none _
      | refine LeO.ite ?_ ?_
      | refine LeO.bind ?_ (fun _ => ?_)
theorem conclaveref03_Width.mono : ∀ a0 k, LeO (conclaveref03_Width.f k a0) (conclaveref03_Width.f (k + 1) a0) := by
  intro a0 k
  have ih0 := conclaveref03_Width.mono_l k
  unfold conclaveref03_Width.f
  repeat' first
      | (with_reducible exact ih0 _ _)
      | (with_reducible exact conclaveref03_Level.mono _ _)
      | (with_reducible exact LeO.refl _)
      | (with_reducible exact LeO.none _)
      | (with_reducible refine LeO.ite ?_ ?_)
      | (with_reducible refine LeO.bind ?_ (fun _ => ?_))
      | exact ih0 _ _
      | exact conclaveref03_Level.mono _ _
      | exact LeO.none _
      | refine LeO.ite ?_ ?_
      | refine LeO.bind ?_ (fun _ => ?_)
set_option maxHeartbeats 8000000 in
set_option maxRecDepth 100000 in
theorem conclaveref03_Width.calls (k : Nat) (a0 : Int) (r : Int) (w : World) (h : conclaveref03_Width.f k a0 = some r) :
    Calls Tryd.prog 43 #[.int .i64 a0] w fun e w' => e = .returned (.int .i64 r) ∧ Drawn0 w w' := by
  have H : ((conclaveref03_Level.f k a0).bind fun t240 => (conclaveref03_Width.l0 k 1 t240)) = some r := h
  clear h
  replace H := Option.bind_eq_some_iff.mp H
  obtain ⟨t240, A20, H⟩ := H
  replace H : (conclaveref03_Width.l0 k 1 t240) = some r := H
  have A2 := Aside0.mk A20
  clear A20
  have H' := Aside0.mk H
  clear H
  go_enter Tryd.func43, Tryd.ntmps43
  go_wp2_with (first | ((with_reducible refine gate_callee (f := 46) rfl ?_); refine goesL_ (some 6) rfl rfl Tryd.func46 (by kernel_rfl) rfl #[.int .i64 a0] rfl (by (try simp only [List.map_toArray, List.map_cons, List.map_nil]); first | done | rfl | (simp only [List.length_drop, List.length_take]; rfl)) ?_; (with_reducible refine (conclaveref03_Level.calls k a0 t240 _ A2.out).mono ?_); rintro e w' ⟨rfl, ⟨nd, rfl⟩⟩; refine ⟨_, rfl, ?_⟩))
  go_loopg [3, 4] k (fun kq v3 v4 w' => ∃ (x3_1 : Int) (x4_1 : Int), v3 = .int .i64 x3_1 ∧ v4 = .int .i64 x4_1 ∧ Aside0 (conclaveref03_Width.l0 kq x3_1 x4_1 = some r) ∧ Aside0 (kq ≤ k) ∧ Drawn0 w w')
  case atStart => exact ⟨(1), (t240), (by first | rfl | (simp; done) | (simp [*]; done)), (by first | rfl | (simp; done) | (simp [*]; done)), H', ⟨Nat.le_refl _⟩, by repeat (first | exact Drawn0.refl _ | apply Drawn0.step)⟩
  case round =>
    clear H'
    try clear p2
    obtain ⟨x3_1, x4_1, rfl, rfl, HA, HK1, ⟨m1, rfl⟩⟩ := hrel
    cases gk with
    | zero => exact absurd HA.out (by simp [conclaveref03_Width.l0])
    | succ k1 =>
      have H := HA.out
      clear HA
      simp only [conclaveref03_Width.l0] at H
      by_cases c3 : x4_1 > 0
      · rw [if_pos c3] at H
        have c3b0 : decide (0 < x4_1) = true := decide_eq_true c3
        clear c3
        have H' := Aside0.mk H
        clear H
        go_wp2
        go_roundg k1
        case measure => have := HK1.out; omega
        case rel => exact ⟨(wrap64 (2 * x3_1)), (wrap64 (x4_1 - 1)), (by first | rfl | (simp; done) | (simp [*]; done)), (by first | rfl | (simp; done) | (simp [*]; done)), H', ⟨by have := HK1.out; omega⟩, by repeat (first | exact Drawn0.refl _ | apply Drawn0.step)⟩
      · rw [if_neg c3] at H
        have c3b0 : decide (0 < x4_1) = false := decide_eq_false c3
        clear c3
        obtain rfl := Option.some.inj H
        go_wp2
        go_ret
        exact ⟨by first | rfl | (simp; done) | (simp [*]; done), by repeat (first | exact Drawn0.refl _ | apply Drawn0.step)⟩
def conclaveref03_Under.f (k : Nat) (a0 : Int) (a1 : Int) (a2 : Int) : Option (Bool) := (conclaveref03_In.f a0 a2).bind fun t241 => (if t241 = true then ((conclaveref03_In.f a1 a2).bind fun t242 => (if t242 = true then ((conclaveref03_Width.f k a1).bind fun t243 => (if a0 ≥ (wrap64 (a1 - t243)) then (some (decide (a0 ≤ (wrap64 (a1 + t243))))) else (some false))) else (some false))) else (some false))
theorem conclaveref03_Under.mono : ∀ a0 a1 a2 k, LeO (conclaveref03_Under.f k a0 a1 a2) (conclaveref03_Under.f (k + 1) a0 a1 a2) := by
  intro a0 a1 a2 k
  unfold conclaveref03_Under.f
  repeat' first
      | (with_reducible exact conclaveref03_Width.mono _ _)
      | (with_reducible exact LeO.refl _)
      | (with_reducible exact LeO.none _)
      | (with_reducible refine LeO.ite ?_ ?_)
      | (with_reducible refine LeO.bind ?_ (fun _ => ?_))
      | exact conclaveref03_Width.mono _ _
      | exact LeO.none _
      | refine LeO.ite ?_ ?_
      | refine LeO.bind ?_ (fun _ => ?_)
set_option maxHeartbeats 8000000 in
set_option maxRecDepth 100000 in
theorem conclaveref03_Under.calls (k : Nat) (a0 : Int) (a1 : Int) (a2 : Int) (r : Bool) (w : World) (h : conclaveref03_Under.f k a0 a1 a2 = some r) :
    Calls Tryd.prog 18 #[.int .i64 a0, .int .i64 a1, .int .i64 a2] w fun e w' => e = .returned (.bool r) ∧ Drawn0 w w' := by
  have H : ((conclaveref03_In.f a0 a2).bind fun t241 => (if t241 = true then ((conclaveref03_In.f a1 a2).bind fun t242 => (if t242 = true then ((conclaveref03_Width.f k a1).bind fun t243 => (if a0 ≥ (wrap64 (a1 - t243)) then (some (decide (a0 ≤ (wrap64 (a1 + t243))))) else (some false))) else (some false))) else (some false))) = some r := h
  clear h
  replace H := Option.bind_eq_some_iff.mp H
  obtain ⟨t241, A40, H⟩ := H
  replace H : (if t241 = true then ((conclaveref03_In.f a1 a2).bind fun t242 => (if t242 = true then ((conclaveref03_Width.f k a1).bind fun t243 => (if a0 ≥ (wrap64 (a1 - t243)) then (some (decide (a0 ≤ (wrap64 (a1 + t243))))) else (some false))) else (some false))) else (some false)) = some r := H
  have A4 := Aside0.mk A40
  clear A40
  by_cases c5 : t241 = true
  · subst c5
    have H1 : ((conclaveref03_In.f a1 a2).bind fun t242 => (if t242 = true then ((conclaveref03_Width.f k a1).bind fun t243 => (if a0 ≥ (wrap64 (a1 - t243)) then (some (decide (a0 ≤ (wrap64 (a1 + t243))))) else (some false))) else (some false))) = some r := by rw [if_pos rfl] at H; exact H
    clear H
    have H := H1
    clear H1
    replace H := Option.bind_eq_some_iff.mp H
    obtain ⟨t242, A60, H⟩ := H
    replace H : (if t242 = true then ((conclaveref03_Width.f k a1).bind fun t243 => (if a0 ≥ (wrap64 (a1 - t243)) then (some (decide (a0 ≤ (wrap64 (a1 + t243))))) else (some false))) else (some false)) = some r := H
    have A6 := Aside0.mk A60
    clear A60
    by_cases c7 : t242 = true
    · subst c7
      have H1 : ((conclaveref03_Width.f k a1).bind fun t243 => (if a0 ≥ (wrap64 (a1 - t243)) then (some (decide (a0 ≤ (wrap64 (a1 + t243))))) else (some false))) = some r := by rw [if_pos rfl] at H; exact H
      clear H
      have H := H1
      clear H1
      replace H := Option.bind_eq_some_iff.mp H
      obtain ⟨t243, A80, H⟩ := H
      replace H : (if a0 ≥ (wrap64 (a1 - t243)) then (some (decide (a0 ≤ (wrap64 (a1 + t243))))) else (some false)) = some r := H
      have A8 := Aside0.mk A80
      clear A80
      by_cases c9 : a0 ≥ (wrap64 (a1 - t243))
      · rw [if_pos c9] at H
        have c9b0 : decide ((wrap64 (a1 - t243)) ≤ a0) = true := decide_eq_true c9
        clear c9
        obtain rfl := Option.some.inj H
        go_enter Tryd.func18, Tryd.ntmps18
        go_wp2_with (first | ((with_reducible refine gate_callee (f := 42) rfl ?_); refine goesL_ (some 10) rfl rfl Tryd.func42 (by kernel_rfl) rfl #[.int .i64 a0, .int .i64 a2] rfl (by (try simp only [List.map_toArray, List.map_cons, List.map_nil]); first | done | rfl | (simp only [List.length_drop, List.length_take]; rfl)) ?_; (with_reducible refine (conclaveref03_In.calls a0 a2 true _ A4.out).mono ?_); rintro e w' ⟨rfl, ⟨nd, rfl⟩⟩; refine ⟨_, rfl, ?_⟩) | (go_at_call 42; (with_reducible refine (conclaveref03_In.calls a1 a2 true _ A6.out).mono ?_); rintro e w' ⟨rfl, ⟨nd, rfl⟩⟩) | ((with_reducible refine gate_callee (f := 43) rfl ?_); refine goesL_ (some 19) rfl rfl Tryd.func43 (by kernel_rfl) rfl #[.int .i64 a1] rfl (by (try simp only [List.map_toArray, List.map_cons, List.map_nil]); first | done | rfl | (simp only [List.length_drop, List.length_take]; rfl)) ?_; (with_reducible refine (conclaveref03_Width.calls k a1 t243 _ A8.out).mono ?_); rintro e w' ⟨rfl, ⟨nd, rfl⟩⟩; refine ⟨_, rfl, ?_⟩))
        go_ret
        exact ⟨by first | rfl | (simp; done) | (simp [*]; done), by repeat (first | exact Drawn0.refl _ | apply Drawn0.step)⟩
      · rw [if_neg c9] at H
        have c9b0 : decide ((wrap64 (a1 - t243)) ≤ a0) = false := decide_eq_false c9
        clear c9
        obtain rfl := Option.some.inj H
        go_enter Tryd.func18, Tryd.ntmps18
        go_wp2_with (first | ((with_reducible refine gate_callee (f := 42) rfl ?_); refine goesL_ (some 10) rfl rfl Tryd.func42 (by kernel_rfl) rfl #[.int .i64 a0, .int .i64 a2] rfl (by (try simp only [List.map_toArray, List.map_cons, List.map_nil]); first | done | rfl | (simp only [List.length_drop, List.length_take]; rfl)) ?_; (with_reducible refine (conclaveref03_In.calls a0 a2 true _ A4.out).mono ?_); rintro e w' ⟨rfl, ⟨nd, rfl⟩⟩; refine ⟨_, rfl, ?_⟩) | (go_at_call 42; (with_reducible refine (conclaveref03_In.calls a1 a2 true _ A6.out).mono ?_); rintro e w' ⟨rfl, ⟨nd, rfl⟩⟩) | ((with_reducible refine gate_callee (f := 43) rfl ?_); refine goesL_ (some 19) rfl rfl Tryd.func43 (by kernel_rfl) rfl #[.int .i64 a1] rfl (by (try simp only [List.map_toArray, List.map_cons, List.map_nil]); first | done | rfl | (simp only [List.length_drop, List.length_take]; rfl)) ?_; (with_reducible refine (conclaveref03_Width.calls k a1 t243 _ A8.out).mono ?_); rintro e w' ⟨rfl, ⟨nd, rfl⟩⟩; refine ⟨_, rfl, ?_⟩))
        go_ret
        exact ⟨by first | rfl | (simp; done) | (simp [*]; done), by repeat (first | exact Drawn0.refl _ | apply Drawn0.step)⟩
    · replace c7 := Bool.eq_false_iff.mpr c7
      subst c7
      have H1 : (some false) = some r := by rw [if_neg (show ¬ (false = true) by decide)] at H; exact H
      clear H
      have H := H1
      clear H1
      obtain rfl := Option.some.inj H
      go_enter Tryd.func18, Tryd.ntmps18
      go_wp2_with (first | ((with_reducible refine gate_callee (f := 42) rfl ?_); refine goesL_ (some 10) rfl rfl Tryd.func42 (by kernel_rfl) rfl #[.int .i64 a0, .int .i64 a2] rfl (by (try simp only [List.map_toArray, List.map_cons, List.map_nil]); first | done | rfl | (simp only [List.length_drop, List.length_take]; rfl)) ?_; (with_reducible refine (conclaveref03_In.calls a0 a2 true _ A4.out).mono ?_); rintro e w' ⟨rfl, ⟨nd, rfl⟩⟩; refine ⟨_, rfl, ?_⟩) | (go_at_call 42; (with_reducible refine (conclaveref03_In.calls a1 a2 false _ A6.out).mono ?_); rintro e w' ⟨rfl, ⟨nd, rfl⟩⟩))
      go_ret
      exact ⟨by first | rfl | (simp; done) | (simp [*]; done), by repeat (first | exact Drawn0.refl _ | apply Drawn0.step)⟩
  · replace c5 := Bool.eq_false_iff.mpr c5
    subst c5
    have H1 : (some false) = some r := by rw [if_neg (show ¬ (false = true) by decide)] at H; exact H
    clear H
    have H := H1
    clear H1
    obtain rfl := Option.some.inj H
    go_enter Tryd.func18, Tryd.ntmps18
    go_wp2_with (first | ((with_reducible refine gate_callee (f := 42) rfl ?_); refine goesL_ (some 10) rfl rfl Tryd.func42 (by kernel_rfl) rfl #[.int .i64 a0, .int .i64 a2] rfl (by (try simp only [List.map_toArray, List.map_cons, List.map_nil]); first | done | rfl | (simp only [List.length_drop, List.length_take]; rfl)) ?_; (with_reducible refine (conclaveref03_In.calls a0 a2 false _ A4.out).mono ?_); rintro e w' ⟨rfl, ⟨nd, rfl⟩⟩; refine ⟨_, rfl, ?_⟩))
    go_ret
    exact ⟨by first | rfl | (simp; done) | (simp [*]; done), by repeat (first | exact Drawn0.refl _ | apply Drawn0.step)⟩
end Go.Proofs.YtdipiigfjcaijaaDoor.PDi
