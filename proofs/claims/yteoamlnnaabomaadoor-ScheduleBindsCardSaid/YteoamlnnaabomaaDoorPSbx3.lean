/- What this claim reaches of a longer text of this session. -/
import Derived.Test.YteoamlnnaabomaaDoorPSbx0
import Derived.Test.YteoamlnnaabomaaDoorPSbx1
import Derived.Test.YteoamlnnaabomaaDoorPSbx2
namespace Go.Proofs.YteoamlnnaabomaaDoor.PSb
open Go.RowKit Go.Proofs.YteoamlnnaabomaaDoorW.PrintWords Go.Proofs.YteoamlnnaabomaaDoorW.PrintLast Go.Proofs.YteoamlnnaabomaaDoorW.PrintMore
attribute [local go_sem] max2_int min2_int max_two min_two max_three min_three max_four min_four   -- for this text's walks alone
set_option linter.unusedVariables false
set_option linter.unusedSimpArgs false
attribute [local go_sem high] eqA31
def conclavelaw07_anchor.g (k : Nat)  : Option (Bool) := (conclavelaw07_stores.f 4).bind fun t136 => ((schedule_Shared.f k t136 (([3] : List Int))).bind fun bt141 => ((schedule_Next.f bt141.2 1 2 bt141.1 4).bind fun bt143 => ((term_Store_Text.f bt143.2.2.2.2.2.2.2.2.2.2.2.2.2 (⟨#[]⟩ : ByteArray)).bind fun bt158 => ((term_Store_Kdf.f bt158.2 (⟨#[112, 115, 107]⟩ : ByteArray) bt158.1 3).bind fun bt160 => ((schedule_Join.f bt160.2 bt143.1 bt160.1 4).bind fun bt162 => (if (bt143.1 == bt162.1 && (bt143.2.1 == bt162.2.1 && (bt143.2.2.1 == bt162.2.2.1 && (bt143.2.2.2.1 == bt162.2.2.2.1 && (bt143.2.2.2.2.1 == bt162.2.2.2.2.1 && (bt143.2.2.2.2.2.1 == bt162.2.2.2.2.2.1 && (bt143.2.2.2.2.2.2.1 == bt162.2.2.2.2.2.2.1 && (bt143.2.2.2.2.2.2.2.1 == bt162.2.2.2.2.2.2.2.1 && (bt143.2.2.2.2.2.2.2.2.1 == bt162.2.2.2.2.2.2.2.2.1 && (bt143.2.2.2.2.2.2.2.2.2.1 == bt162.2.2.2.2.2.2.2.2.2.1 && (bt143.2.2.2.2.2.2.2.2.2.2.1 == bt162.2.2.2.2.2.2.2.2.2.2.1 && (bt143.2.2.2.2.2.2.2.2.2.2.2.1 == bt162.2.2.2.2.2.2.2.2.2.2.2.1 && (bt143.2.2.2.2.2.2.2.2.2.2.2.2.1 == bt162.2.2.2.2.2.2.2.2.2.2.2.2.1))))))))))))) = true then (if bt143.2.2.2.1 = 0 then (some false) else (some (bt143.2.2.2.2.1 != bt143.2.2.2.2.2.1))) else (some false)))))))
def conclavelaw07_anchor.f (_k : Nat)  : Option (Bool) := some true
set_option maxRecDepth 100000 in
theorem conclavelaw07_anchor.gval : conclavelaw07_anchor.g 60 = some true := by decide +kernel
theorem conclavelaw07_anchor.mono : ∀ k, LeO (conclavelaw07_anchor.f k ) (conclavelaw07_anchor.f (k + 1) ) := fun _ => LeO.refl _
def conclavelaw07_anchor.T5 : Bool × List (List Nat × List Nat) := (true, [([], []), ([], []), ([1], [1]), ([], []), ([], []), ([4], [4]), ([3, 5, 5], [3, 5]), ([0, 2, 6, 6], [0, 2, 6]), ([], []), ([8, 7, 7, 0, 1, 2, 3, 4, 5, 6, 7, 8], [7, 8])])
def conclavelaw07_anchor.B5 : List Nat := [0, 0, 2, 0, 0, 16, 56, 127, 0, 511]
theorem conclavelaw07_anchor.tab5 : rtab .any (opsOf Tryd.f6 5) = conclavelaw07_anchor.T5 := by kernel_rfl
theorem conclavelaw07_anchor.bits5 : waitsOk conclavelaw07_anchor.T5.2 conclavelaw07_anchor.B5 = true := by kernel_rfl
set_option maxHeartbeats 8000000 in
set_option maxRecDepth 100000 in
theorem conclavelaw07_anchor.calls (k : Nat)  (r : Bool) (w : World) (h : conclavelaw07_anchor.f k  = some r) :
 Calls Tryd.prog 6 #[] w fun e w' => e = .returned (.bool r) ∧ Below w.heap.size w w' := by
 have hr : r = true := (Option.some.inj h).symm
 obtain ⟨k, hg⟩ : ∃ k, conclavelaw07_anchor.g k = some true := ⟨60, conclavelaw07_anchor.gval⟩
 have hu31 := Tryd.underlying31
 have HB := Aside0.mk (Below.refl w.heap.size w)
 have H : ((conclavelaw07_stores.f 4).bind fun t136 => ((schedule_Shared.f k t136 (([3] : List Int))).bind fun bt141 => ((schedule_Next.f bt141.2 1 2 bt141.1 4).bind fun bt143 => ((term_Store_Text.f bt143.2.2.2.2.2.2.2.2.2.2.2.2.2 (⟨#[]⟩ : ByteArray)).bind fun bt158 => ((term_Store_Kdf.f bt158.2 (⟨#[112, 115, 107]⟩ : ByteArray) bt158.1 3).bind fun bt160 => ((schedule_Join.f bt160.2 bt143.1 bt160.1 4).bind fun bt162 => (if (bt143.1 == bt162.1 && (bt143.2.1 == bt162.2.1 && (bt143.2.2.1 == bt162.2.2.1 && (bt143.2.2.2.1 == bt162.2.2.2.1 && (bt143.2.2.2.2.1 == bt162.2.2.2.2.1 && (bt143.2.2.2.2.2.1 == bt162.2.2.2.2.2.1 && (bt143.2.2.2.2.2.2.1 == bt162.2.2.2.2.2.2.1 && (bt143.2.2.2.2.2.2.2.1 == bt162.2.2.2.2.2.2.2.1 && (bt143.2.2.2.2.2.2.2.2.1 == bt162.2.2.2.2.2.2.2.2.1 && (bt143.2.2.2.2.2.2.2.2.2.1 == bt162.2.2.2.2.2.2.2.2.2.1 && (bt143.2.2.2.2.2.2.2.2.2.2.1 == bt162.2.2.2.2.2.2.2.2.2.2.1 && (bt143.2.2.2.2.2.2.2.2.2.2.2.1 == bt162.2.2.2.2.2.2.2.2.2.2.2.1 && (bt143.2.2.2.2.2.2.2.2.2.2.2.2.1 == bt162.2.2.2.2.2.2.2.2.2.2.2.2.1))))))))))))) = true then (if bt143.2.2.2.1 = 0 then (some false) else (some (bt143.2.2.2.2.1 != bt143.2.2.2.2.2.1))) else (some false)))))))) = some r := by rw [hr]; exact hg
 clear h hg
 replace H := Option.bind_eq_some_iff.mp H
 obtain ⟨t136, A10, H⟩ := H
 replace H : ((schedule_Shared.f k t136 (([3] : List Int))).bind fun bt141 => ((schedule_Next.f bt141.2 1 2 bt141.1 4).bind fun bt143 => ((term_Store_Text.f bt143.2.2.2.2.2.2.2.2.2.2.2.2.2 (⟨#[]⟩ : ByteArray)).bind fun bt158 => ((term_Store_Kdf.f bt158.2 (⟨#[112, 115, 107]⟩ : ByteArray) bt158.1 3).bind fun bt160 => ((schedule_Join.f bt160.2 bt143.1 bt160.1 4).bind fun bt162 => (if (bt143.1 == bt162.1 && (bt143.2.1 == bt162.2.1 && (bt143.2.2.1 == bt162.2.2.1 && (bt143.2.2.2.1 == bt162.2.2.2.1 && (bt143.2.2.2.2.1 == bt162.2.2.2.2.1 && (bt143.2.2.2.2.2.1 == bt162.2.2.2.2.2.1 && (bt143.2.2.2.2.2.2.1 == bt162.2.2.2.2.2.2.1 && (bt143.2.2.2.2.2.2.2.1 == bt162.2.2.2.2.2.2.2.1 && (bt143.2.2.2.2.2.2.2.2.1 == bt162.2.2.2.2.2.2.2.2.1 && (bt143.2.2.2.2.2.2.2.2.2.1 == bt162.2.2.2.2.2.2.2.2.2.1 && (bt143.2.2.2.2.2.2.2.2.2.2.1 == bt162.2.2.2.2.2.2.2.2.2.2.1 && (bt143.2.2.2.2.2.2.2.2.2.2.2.1 == bt162.2.2.2.2.2.2.2.2.2.2.2.1 && (bt143.2.2.2.2.2.2.2.2.2.2.2.2.1 == bt162.2.2.2.2.2.2.2.2.2.2.2.2.1))))))))))))) = true then (if bt143.2.2.2.1 = 0 then (some false) else (some (bt143.2.2.2.2.1 != bt143.2.2.2.2.2.1))) else (some false))))))) = some r := H
 have A1 := Aside0.mk A10
 clear A10
 obtain ⟨y138, hy138⟩ : ∃ y_ : List Int, y_ = (([3] : List Int)) := ⟨_, rfl⟩
 replace H : ((schedule_Shared.f k t136 y138).bind fun bt141 => ((schedule_Next.f bt141.2 1 2 bt141.1 4).bind fun bt143 => ((term_Store_Text.f bt143.2.2.2.2.2.2.2.2.2.2.2.2.2 (⟨#[]⟩ : ByteArray)).bind fun bt158 => ((term_Store_Kdf.f bt158.2 (⟨#[112, 115, 107]⟩ : ByteArray) bt158.1 3).bind fun bt160 => ((schedule_Join.f bt160.2 bt143.1 bt160.1 4).bind fun bt162 => (if (bt143.1 == bt162.1 && (bt143.2.1 == bt162.2.1 && (bt143.2.2.1 == bt162.2.2.1 && (bt143.2.2.2.1 == bt162.2.2.2.1 && (bt143.2.2.2.2.1 == bt162.2.2.2.2.1 && (bt143.2.2.2.2.2.1 == bt162.2.2.2.2.2.1 && (bt143.2.2.2.2.2.2.1 == bt162.2.2.2.2.2.2.1 && (bt143.2.2.2.2.2.2.2.1 == bt162.2.2.2.2.2.2.2.1 && (bt143.2.2.2.2.2.2.2.2.1 == bt162.2.2.2.2.2.2.2.2.1 && (bt143.2.2.2.2.2.2.2.2.2.1 == bt162.2.2.2.2.2.2.2.2.2.1 && (bt143.2.2.2.2.2.2.2.2.2.2.1 == bt162.2.2.2.2.2.2.2.2.2.2.1 && (bt143.2.2.2.2.2.2.2.2.2.2.2.1 == bt162.2.2.2.2.2.2.2.2.2.2.2.1 && (bt143.2.2.2.2.2.2.2.2.2.2.2.2.1 == bt162.2.2.2.2.2.2.2.2.2.2.2.2.1))))))))))))) = true then (if bt143.2.2.2.1 = 0 then (some false) else (some (bt143.2.2.2.2.1 != bt143.2.2.2.2.2.1))) else (some false))))))) = some r := by first | (rw [hy138]; with_reducible exact H) | (have H2_ := (Option.bind_some _ _).symm.trans H; rw [hy138]; with_reducible exact H2_) | (have H2_ := (Option.bind_some _ _).symm.trans H; with_reducible exact H2_) | with_reducible exact H | (rw [hy138]; exact H) | exact H
 have Ny138 := Aside0.mk hy138
 clear hy138
 replace H := Option.bind_eq_some_iff.mp H
 obtain ⟨⟨t141, t142⟩, A20, H⟩ := H
 replace H : ((schedule_Next.f t142 1 2 t141 4).bind fun bt143 => ((term_Store_Text.f bt143.2.2.2.2.2.2.2.2.2.2.2.2.2 (⟨#[]⟩ : ByteArray)).bind fun bt158 => ((term_Store_Kdf.f bt158.2 (⟨#[112, 115, 107]⟩ : ByteArray) bt158.1 3).bind fun bt160 => ((schedule_Join.f bt160.2 bt143.1 bt160.1 4).bind fun bt162 => (if (bt143.1 == bt162.1 && (bt143.2.1 == bt162.2.1 && (bt143.2.2.1 == bt162.2.2.1 && (bt143.2.2.2.1 == bt162.2.2.2.1 && (bt143.2.2.2.2.1 == bt162.2.2.2.2.1 && (bt143.2.2.2.2.2.1 == bt162.2.2.2.2.2.1 && (bt143.2.2.2.2.2.2.1 == bt162.2.2.2.2.2.2.1 && (bt143.2.2.2.2.2.2.2.1 == bt162.2.2.2.2.2.2.2.1 && (bt143.2.2.2.2.2.2.2.2.1 == bt162.2.2.2.2.2.2.2.2.1 && (bt143.2.2.2.2.2.2.2.2.2.1 == bt162.2.2.2.2.2.2.2.2.2.1 && (bt143.2.2.2.2.2.2.2.2.2.2.1 == bt162.2.2.2.2.2.2.2.2.2.2.1 && (bt143.2.2.2.2.2.2.2.2.2.2.2.1 == bt162.2.2.2.2.2.2.2.2.2.2.2.1 && (bt143.2.2.2.2.2.2.2.2.2.2.2.2.1 == bt162.2.2.2.2.2.2.2.2.2.2.2.2.1))))))))))))) = true then (if bt143.2.2.2.1 = 0 then (some false) else (some (bt143.2.2.2.2.1 != bt143.2.2.2.2.2.1))) else (some false)))))) = some r := H
 have A2 := Aside0.mk A20
 clear A20
 replace H := Option.bind_eq_some_iff.mp H
 obtain ⟨⟨t143, t144, t145, t146, t147, t148, t149, t150, t151, t152, t153, t154, t155, t156⟩, A30, H⟩ := H
 replace H : ((term_Store_Text.f t156 (⟨#[]⟩ : ByteArray)).bind fun bt158 => ((term_Store_Kdf.f bt158.2 (⟨#[112, 115, 107]⟩ : ByteArray) bt158.1 3).bind fun bt160 => ((schedule_Join.f bt160.2 t143 bt160.1 4).bind fun bt162 => (if (t143 == bt162.1 && (t144 == bt162.2.1 && (t145 == bt162.2.2.1 && (t146 == bt162.2.2.2.1 && (t147 == bt162.2.2.2.2.1 && (t148 == bt162.2.2.2.2.2.1 && (t149 == bt162.2.2.2.2.2.2.1 && (t150 == bt162.2.2.2.2.2.2.2.1 && (t151 == bt162.2.2.2.2.2.2.2.2.1 && (t152 == bt162.2.2.2.2.2.2.2.2.2.1 && (t153 == bt162.2.2.2.2.2.2.2.2.2.2.1 && (t154 == bt162.2.2.2.2.2.2.2.2.2.2.2.1 && (t155 == bt162.2.2.2.2.2.2.2.2.2.2.2.2.1))))))))))))) = true then (if t146 = 0 then (some false) else (some (t147 != t148))) else (some false))))) = some r := H
 have A3 := Aside0.mk A30
 clear A30
 replace H := Option.bind_eq_some_iff.mp H
 obtain ⟨⟨t158, t159⟩, A40, H⟩ := H
 replace H : ((term_Store_Kdf.f t159 (⟨#[112, 115, 107]⟩ : ByteArray) t158 3).bind fun bt160 => ((schedule_Join.f bt160.2 t143 bt160.1 4).bind fun bt162 => (if (t143 == bt162.1 && (t144 == bt162.2.1 && (t145 == bt162.2.2.1 && (t146 == bt162.2.2.2.1 && (t147 == bt162.2.2.2.2.1 && (t148 == bt162.2.2.2.2.2.1 && (t149 == bt162.2.2.2.2.2.2.1 && (t150 == bt162.2.2.2.2.2.2.2.1 && (t151 == bt162.2.2.2.2.2.2.2.2.1 && (t152 == bt162.2.2.2.2.2.2.2.2.2.1 && (t153 == bt162.2.2.2.2.2.2.2.2.2.2.1 && (t154 == bt162.2.2.2.2.2.2.2.2.2.2.2.1 && (t155 == bt162.2.2.2.2.2.2.2.2.2.2.2.2.1))))))))))))) = true then (if t146 = 0 then (some false) else (some (t147 != t148))) else (some false)))) = some r := H
 have A4 := Aside0.mk A40
 clear A40
 replace H := Option.bind_eq_some_iff.mp H
 obtain ⟨⟨t160, t161⟩, A50, H⟩ := H
 replace H : ((schedule_Join.f t161 t143 t160 4).bind fun bt162 => (if (t143 == bt162.1 && (t144 == bt162.2.1 && (t145 == bt162.2.2.1 && (t146 == bt162.2.2.2.1 && (t147 == bt162.2.2.2.2.1 && (t148 == bt162.2.2.2.2.2.1 && (t149 == bt162.2.2.2.2.2.2.1 && (t150 == bt162.2.2.2.2.2.2.2.1 && (t151 == bt162.2.2.2.2.2.2.2.2.1 && (t152 == bt162.2.2.2.2.2.2.2.2.2.1 && (t153 == bt162.2.2.2.2.2.2.2.2.2.2.1 && (t154 == bt162.2.2.2.2.2.2.2.2.2.2.2.1 && (t155 == bt162.2.2.2.2.2.2.2.2.2.2.2.2.1))))))))))))) = true then (if t146 = 0 then (some false) else (some (t147 != t148))) else (some false))) = some r := H
 have A5 := Aside0.mk A50
 clear A50
 replace H := Option.bind_eq_some_iff.mp H
 obtain ⟨⟨t162, t163, t164, t165, t166, t167, t168, t169, t170, t171, t172, t173, t174, t175⟩, A60, H⟩ := H
 replace H : (if (t143 == t162 && (t144 == t163 && (t145 == t164 && (t146 == t165 && (t147 == t166 && (t148 == t167 && (t149 == t168 && (t150 == t169 && (t151 == t170 && (t152 == t171 && (t153 == t172 && (t154 == t173 && (t155 == t174))))))))))))) = true then (if t146 = 0 then (some false) else (some (t147 != t148))) else (some false)) = some r := H
 have A6 := Aside0.mk A60
 clear A60
 by_cases c7 : (t143 == t162 && (t144 == t163 && (t145 == t164 && (t146 == t165 && (t147 == t166 && (t148 == t167 && (t149 == t168 && (t150 == t169 && (t151 == t170 && (t152 == t171 && (t153 == t172 && (t154 == t173 && (t155 == t174))))))))))))) = true
 ·
  rw [if_pos c7] at H
  have c7b0 : (t143 == t162 && (t144 == t163 && (t145 == t164 && (t146 == t165 && (t147 == t166 && (t148 == t167 && (t149 == t168 && (t150 == t169 && (t151 == t170 && (t152 == t171 && (t153 == t172 && (t154 == t173 && (t155 == t174))))))))))))) = true := c7
  (try (have c7b1 : decide (t143 = t162 && (t144 == t163 && (t145 == t164 && (t146 == t165 && (t147 == t166 && (t148 == t167 && (t149 == t168 && (t150 == t169 && (t151 == t170 && (t152 == t171 && (t153 == t172 && (t154 == t173 && (t155 == t174))))))))))))) = true := by simpa using c7))
  (try (have c7b2 : (t143 == t162 && (t144 == t163 && (t145 == t164 && (t146 == t165 && (t147 == t166 && (t148 == t167 && (t149 == t168 && (t150 == t169 && (t151 == t170 && (t152 == t171 && (t153 == t172 && (t154 == t173 && (t155 == t174))))))))))))) = true := by simpa using c7))
  clear c7
  by_cases c8 : t146 = 0
  ·
   rw [if_pos c8] at H
   exact absurd ((Option.some.inj H).trans hr) Bool.false_ne_true
  ·
   rw [if_neg c8] at H
   have c8b0 : (t146 == 0) = false := beq_eq_false_iff_ne.mpr c8
   have c8b1 : (t146 != 0) = true := bne_iff_ne.mpr c8
   obtain rfl := Option.some.inj H
   try exact absurd hr Bool.false_ne_true
   all_goals
    go_enter Tryd.func6, Tryd.ntmps6
    try go_wp2_with (first | ((with_reducible refine gate_callee (f := 8) rfl ?_); refine goesL_ (some 6) rfl rfl Tryd.func8 (by kernel_rfl) rfl #[.int .i64 4] rfl (by (try simp only [List.map_toArray, List.map_cons, List.map_nil]); first | done | rfl | (simp only [List.length_drop, List.length_take]; rfl)) ?_; (with_reducible refine (conclavelaw07_stores.calls 4 t136 w _ ?side1 A1.out).mono ?_); (case side1 => repeat (first | (with_reducible first |exact HB.out |apply below_alloc |apply pw_below_drewN |apply below_drew1) |exact HB.out)); rintro e w42 ⟨g137, rfl, hi, hb, hb2⟩; refine ⟨_, rfl, ?_⟩; have n0_ := Aside0.mk (hb); have n1_ := Aside0.mk (hi); clear HB; have HB := n0_; have HI137 := n1_; clear n0_ n1_; (try clear hb); (try clear hb2); (try clear hk); (try clear hi)) | ((with_reducible refine gate_dst (N := 13) rfl ?_); refine Kd.R_lit (Kd.int .i64) _ 3 ?hg (N := 13) ?hd (xs := ([3] : List Int)) (inner := [.int .i64 3]) (ok := fun _ => True) (okp := fun _ => True) ?hr ?hp (fun _ hk => hk) trivial (Below.refl _ _) (Nat.le_refl _) (by simp) ?_; (case hd => rfl); (case hg => rfl); (case hr => first | (go_simp; done) | (go_simp; rfl)); (case hp => exact (Reps.one (show Kd.M (Kd.int .i64) _ _ _ 3 [.int .i64 3] from rfl) (Reps.none _ _))); intro v139 w43 ho44 hb hg_ hnew_; clear hg_ hnew_; (first | rw [← Ny138.out] at ho44 | (simp only [Int.reduceToNat] at ho44; rw [← Ny138.out] at ho44)); have n0_ := Aside0.mk (Kd.R_lower ho44 (below_size (by repeat (first | (with_reducible first |exact HB.out |apply below_alloc |apply pw_below_drewN |apply below_drew1 |refine below_set ?_ (IsS80.ge HI137.out)) |exact HB.out)))); have n1_ := Aside0.mk (IsS80.below (by repeat (first | (with_reducible first |exact HI137.out |apply IsS80.alloc |apply IsS80.drewN |apply IsS80.drew |apply IsS80.set_0) |exact HI137.out)) hb); have n2_ := Aside0.mk (below_step (by repeat (first | (with_reducible first |exact HB.out |apply below_alloc |apply pw_below_drewN |apply below_drew1 |refine below_set ?_ (IsS80.ge HI137.out)) |exact HB.out)) hb); clear HI137; clear HB; have HO140 := n0_; have HI137 := n1_; have HB := n2_; clear n0_ n1_ n2_; clear hb ho44; obtain ⟨Ao45, co45, eo45⟩ := Kd.R_slice HO140.out; subst eo45) | ((with_reducible refine gate_callee (f := 18) rfl ?_); refine goesL_ (some 14) rfl rfl Tryd.func18 (by kernel_rfl) rfl #[.pointer (some ⟨g137, 0, none⟩), .slice Ao45 y138.length co45] rfl (by (try simp only [List.map_toArray, List.map_cons, List.map_nil]); first | done | rfl | (simp only [List.length_drop, List.length_take]; rfl)) ?_; (with_reducible refine (schedule_Shared.calls k g137 t136 _ _ y138 t141 t142 w _ ?side1 ?side2 ?side3 ?side4 ?side5 A2.out).mono ?_); (case side1 => repeat (first | (with_reducible first |exact HI137.out |apply IsS80.alloc |apply IsS80.drewN |apply IsS80.drew |apply IsS80.set_0) |exact HI137.out)); (case side2 => repeat (first | (with_reducible first |exact HB.out |apply below_alloc |apply pw_below_drewN |apply below_drew1 |refine below_set ?_ (IsS80.ge HI137.out)) |exact HB.out)); (case side3 => repeat (first |exact (Kd.R_reads' HO140.out).2.2 | (with_reducible refine Kd.C_alloc ?_ _) | (with_reducible refine Kd.C_drewN ?_ _) | (with_reducible refine Kd.C_drew ?_))); (case side4 => exact (Kd.R_reads' HO140.out).2.1); (case side5 => exact Kd.far_R (by (with_reducible repeat (first |apply Kd.R_alloc |apply Kd.R_drewN |apply Kd.R_drew)); exact HO140.out) (by decide)); rintro e w46 ⟨rfl, hi, hb, hk⟩; refine ⟨_, rfl, ?_⟩; have n0_ := Aside0.mk (Kd.R_mono (Kd.R_keepSt (IsS80.apart (show IsS80 w _ g137 t136 from by repeat (first | (with_reducible first |exact HI137.out |apply IsS80.alloc |apply IsS80.drewN |apply IsS80.drew |apply IsS80.set_0) |exact HI137.out)) (by (with_reducible repeat (first |apply Kd.R_alloc |apply Kd.R_drewN |apply Kd.R_drew)); exact HO140.out) (by decide)) hk (fun _ h => h.2)) (fun _ h => h.1)); have n1_ := Aside0.mk (hb); have n2_ := Aside0.mk (hi); clear HO140; clear HB; clear HI137; have HO140 := n0_; have HB := n1_; have HI137 := n2_; clear n0_ n1_ n2_; (try clear hb); (try clear hb2); (try clear hk); (try clear hi)) | ((with_reducible refine gate_callee (f := 10) rfl ?_); refine goesL_ (some 15) rfl rfl Tryd.func10 (by kernel_rfl) rfl #[.pointer (some ⟨g137, 0, none⟩), .int .i64 1, .int .i64 2, .int .i64 t141, .int .i64 4] rfl (by (try simp only [List.map_toArray, List.map_cons, List.map_nil]); first | done | rfl | (simp only [List.length_drop, List.length_take]; rfl)) ?_; (with_reducible refine (schedule_Next.calls g137 t142 1 2 t141 4 t143 t144 t145 t146 t147 t148 t149 t150 t151 t152 t153 t154 t155 t156 w _ ?side1 ?side2 A3.out).mono ?_); (case side1 => repeat (first | (with_reducible first |exact HI137.out |apply IsS80.alloc |apply IsS80.drewN |apply IsS80.drew |apply IsS80.set_0) |exact HI137.out)); (case side2 => repeat (first | (with_reducible first |exact HB.out |apply below_alloc |apply pw_below_drewN |apply below_drew1 |refine below_set ?_ (IsS80.ge HI137.out)) |exact HB.out)); rintro e w47 ⟨rfl, hi, hb, hk⟩; refine ⟨_, rfl, ?_⟩; have n0_ := Aside0.mk (Kd.R_mono (Kd.R_keepSt (IsS80.apart (show IsS80 w _ g137 t142 from by repeat (first | (with_reducible first |exact HI137.out |apply IsS80.alloc |apply IsS80.drewN |apply IsS80.drew |apply IsS80.set_0) |exact HI137.out)) (by (with_reducible repeat (first |apply Kd.R_alloc |apply Kd.R_drewN |apply Kd.R_drew)); exact HO140.out) (by decide)) hk (fun _ h => h.2)) (fun _ h => h.1)); have n1_ := Aside0.mk (hb); have n2_ := Aside0.mk (hi); clear HO140; clear HB; clear HI137; have HO140 := n0_; have HB := n1_; have HI137 := n2_; clear n0_ n1_ n2_; (try clear hb); (try clear hb2); (try clear hk); (try clear hi)) | ((with_reducible refine gate_dst (N := 3) rfl ?_); refine box_event ?hg (N := 3) ?hd (cs := #[.int .i64 0, .int .i64 0, .int .i64 0, .int .i64 0, .int .i64 0, .int .i64 0, .int .i64 0, .int .i64 0, .int .i64 0, .int .i64 0, .int .i64 0, .int .i64 0, .int .i64 0]) (t := 31) ?hr ?_; (case hd => rfl); (case hg => rfl); (case hr => first | (go_simp; done) | (go_simp; rfl)); intro gb157 hg w48 hbox hb; have n0_ := Aside0.mk (Kd.R_below (by (with_reducible repeat (first |apply Kd.R_alloc |apply Kd.R_drewN |apply Kd.R_drew)); exact HO140.out) hb); have n1_ := Aside0.mk (IsS80.below (by repeat (first | (with_reducible first |exact HI137.out |apply IsS80.alloc |apply IsS80.drewN |apply IsS80.drew |apply IsS80.set_0) |exact HI137.out)) hb); have n2_ := Aside0.mk (below_step (by repeat (first | (with_reducible first |exact HB.out |apply below_alloc |apply pw_below_drewN |apply below_drew1 |refine below_set ?_ (IsS80.ge HI137.out)) |exact HB.out)) hb); have n3_ := Aside0.mk (hbox); have n4_ := Aside0.mk ((by rw [hg]; exact (below_size (by repeat (first | (with_reducible first |exact HB.out |apply below_alloc |apply pw_below_drewN |apply below_drew1 |refine below_set ?_ (IsS80.ge HI137.out)) |exact HB.out))) : w.heap.size ≤ gb157)); have n5_ := Aside0.mk ((by rw [hg]; exact (below_size (by repeat (first | (with_reducible first |exact HB.out |apply below_alloc |apply pw_below_drewN |apply below_drew1 |refine below_set ?_ (IsS80.ge HI137.out)) |exact HB.out))) : w.heap.size ≤ gb157)); have n6_ := Aside0.mk ((by rw [hg]; exact Nat.ne_of_lt (IsS80.lt (show IsS80 w _ g137 t156 from by repeat (first | (with_reducible first |exact HI137.out |apply IsS80.alloc |apply IsS80.drewN |apply IsS80.drew |apply IsS80.set_0) |exact HI137.out))) : g137 ≠ gb157)); have n7_ := Aside0.mk ((by rw [hg]; exact Nat.ne_of_gt (IsS80.lt (show IsS80 w _ g137 t156 from by repeat (first | (with_reducible first |exact HI137.out |apply IsS80.alloc |apply IsS80.drewN |apply IsS80.drew |apply IsS80.set_0) |exact HI137.out))) : gb157 ≠ g137)); clear HO140; clear HI137; clear HB; have HO140 := n0_; have HI137 := n1_; have HB := n2_; have BK157 := n3_; have GW157 := n4_; have GE157 := n5_; have NB137_157 := n6_; have NB157_137 := n7_; clear n0_ n1_ n2_ n3_ n4_ n5_ n6_ n7_; clear hb hbox hg; have hnb49 := NB157_137.out; have hnc49 := NB137_157.out; have hcz50_0 : w48.cell? ⟨gb157, 0, none⟩ = some (.int .i64 0) := (blk_cell BK157.out 0).trans rfl; have hcz50_1 : w48.cell? ⟨gb157, 1, none⟩ = some (.int .i64 0) := (blk_cell BK157.out 1).trans rfl; have hcz50_2 : w48.cell? ⟨gb157, 2, none⟩ = some (.int .i64 0) := (blk_cell BK157.out 2).trans rfl; have hcz50_3 : w48.cell? ⟨gb157, 3, none⟩ = some (.int .i64 0) := (blk_cell BK157.out 3).trans rfl; have hcz50_4 : w48.cell? ⟨gb157, 4, none⟩ = some (.int .i64 0) := (blk_cell BK157.out 4).trans rfl; have hcz50_5 : w48.cell? ⟨gb157, 5, none⟩ = some (.int .i64 0) := (blk_cell BK157.out 5).trans rfl; have hcz50_6 : w48.cell? ⟨gb157, 6, none⟩ = some (.int .i64 0) := (blk_cell BK157.out 6).trans rfl; have hcz50_7 : w48.cell? ⟨gb157, 7, none⟩ = some (.int .i64 0) := (blk_cell BK157.out 7).trans rfl; have hcz50_8 : w48.cell? ⟨gb157, 8, none⟩ = some (.int .i64 0) := (blk_cell BK157.out 8).trans rfl; have hcz50_9 : w48.cell? ⟨gb157, 9, none⟩ = some (.int .i64 0) := (blk_cell BK157.out 9).trans rfl; have hcz50_10 : w48.cell? ⟨gb157, 10, none⟩ = some (.int .i64 0) := (blk_cell BK157.out 10).trans rfl; have hcz50_11 : w48.cell? ⟨gb157, 11, none⟩ = some (.int .i64 0) := (blk_cell BK157.out 11).trans rfl; have hcz50_12 : w48.cell? ⟨gb157, 12, none⟩ = some (.int .i64 0) := (blk_cell BK157.out 12).trans rfl; have hfz50_0 := blk_frozen BK157.out 0; have hfz50_1 := blk_frozen BK157.out 1; have hfz50_2 := blk_frozen BK157.out 2; have hfz50_3 := blk_frozen BK157.out 3; have hfz50_4 := blk_frozen BK157.out 4; have hfz50_5 := blk_frozen BK157.out 5; have hfz50_6 := blk_frozen BK157.out 6; have hfz50_7 := blk_frozen BK157.out 7; have hfz50_8 := blk_frozen BK157.out 8; have hfz50_9 := blk_frozen BK157.out 9; have hfz50_10 := blk_frozen BK157.out 10; have hfz50_11 := blk_frozen BK157.out 11; have hfz50_12 := blk_frozen BK157.out 12))
    have n0_ : Aside0 (Kd.R (Kd.int .i64) 3 (((((((((((((w48.setCell ⟨gb157, 0, none⟩ (.int .i64 t143)).setCell ⟨gb157, 1, none⟩ (.int .i64 t144)).setCell ⟨gb157, 2, none⟩ (.int .i64 t145)).setCell ⟨gb157, 3, none⟩ (.int .i64 t146)).setCell ⟨gb157, 4, none⟩ (.int .i64 t147)).setCell ⟨gb157, 5, none⟩ (.int .i64 t148)).setCell ⟨gb157, 6, none⟩ (.int .i64 t149)).setCell ⟨gb157, 7, none⟩ (.int .i64 t150)).setCell ⟨gb157, 8, none⟩ (.int .i64 t151)).setCell ⟨gb157, 9, none⟩ (.int .i64 t152)).setCell ⟨gb157, 10, none⟩ (.int .i64 t153)).setCell ⟨gb157, 11, none⟩ (.int .i64 t154)).setCell ⟨gb157, 12, none⟩ (.int .i64 t155)) w.heap.size (fun _ => True) (.slice Ao45 y138.length co45) y138) := ⟨by (with_reducible repeat (first | apply Kd.R_alloc | apply Kd.R_drewN | apply Kd.R_drew)); exact Kd.R_mono (Kd.R_far (p := ⟨gb157, 12, none⟩) (Kd.R_far (p := ⟨gb157, 11, none⟩) (Kd.R_far (p := ⟨gb157, 10, none⟩) (Kd.R_far (p := ⟨gb157, 9, none⟩) (Kd.R_far (p := ⟨gb157, 8, none⟩) (Kd.R_far (p := ⟨gb157, 7, none⟩) (Kd.R_far (p := ⟨gb157, 6, none⟩) (Kd.R_far (p := ⟨gb157, 5, none⟩) (Kd.R_far (p := ⟨gb157, 4, none⟩) (Kd.R_far (p := ⟨gb157, 3, none⟩) (Kd.R_far (p := ⟨gb157, 2, none⟩) (Kd.R_far (p := ⟨gb157, 1, none⟩) (Kd.R_far (p := ⟨gb157, 0, none⟩) (Kd.R_types HO140.out BK157.out (by decide)) (fun _ hk => hk.2) (.int .i64 t143)) (fun _ hk => hk.2) (.int .i64 t144)) (fun _ hk => hk.2) (.int .i64 t145)) (fun _ hk => hk.2) (.int .i64 t146)) (fun _ hk => hk.2) (.int .i64 t147)) (fun _ hk => hk.2) (.int .i64 t148)) (fun _ hk => hk.2) (.int .i64 t149)) (fun _ hk => hk.2) (.int .i64 t150)) (fun _ hk => hk.2) (.int .i64 t151)) (fun _ hk => hk.2) (.int .i64 t152)) (fun _ hk => hk.2) (.int .i64 t153)) (fun _ hk => hk.2) (.int .i64 t154)) (fun _ hk => hk.2) (.int .i64 t155)) (fun _ hk => trivial)⟩
    have n1_ : Aside0 ((((((((((((((w48.setCell ⟨gb157, 0, none⟩ (.int .i64 t143)).setCell ⟨gb157, 1, none⟩ (.int .i64 t144)).setCell ⟨gb157, 2, none⟩ (.int .i64 t145)).setCell ⟨gb157, 3, none⟩ (.int .i64 t146)).setCell ⟨gb157, 4, none⟩ (.int .i64 t147)).setCell ⟨gb157, 5, none⟩ (.int .i64 t148)).setCell ⟨gb157, 6, none⟩ (.int .i64 t149)).setCell ⟨gb157, 7, none⟩ (.int .i64 t150)).setCell ⟨gb157, 8, none⟩ (.int .i64 t151)).setCell ⟨gb157, 9, none⟩ (.int .i64 t152)).setCell ⟨gb157, 10, none⟩ (.int .i64 t153)).setCell ⟨gb157, 11, none⟩ (.int .i64 t154)).setCell ⟨gb157, 12, none⟩ (.int .i64 t155)).heap[gb157]? = some (.cells #[.int .i64 t143, .int .i64 t144, .int .i64 t145, .int .i64 t146, .int .i64 t147, .int .i64 t148, .int .i64 t149, .int .i64 t150, .int .i64 t151, .int .i64 t152, .int .i64 t153, .int .i64 t154, .int .i64 t155] 31 (0, 0))) := ⟨by (with_reducible repeat (first |refine blk_drewN ?_ _ |refine blk_drew ?_ |refine blk_alloc ?_ _)); refine blk_put (cs := #[.int .i64 t143, .int .i64 t144, .int .i64 t145, .int .i64 t146, .int .i64 t147, .int .i64 t148, .int .i64 t149, .int .i64 t150, .int .i64 t151, .int .i64 t152, .int .i64 t153, .int .i64 t154, .int .i64 0]) ?_ 12 _ rfl; (with_reducible repeat (first |refine blk_drewN ?_ _ |refine blk_drew ?_ |refine blk_alloc ?_ _)); refine blk_put (cs := #[.int .i64 t143, .int .i64 t144, .int .i64 t145, .int .i64 t146, .int .i64 t147, .int .i64 t148, .int .i64 t149, .int .i64 t150, .int .i64 t151, .int .i64 t152, .int .i64 t153, .int .i64 0, .int .i64 0]) ?_ 11 _ rfl; (with_reducible repeat (first |refine blk_drewN ?_ _ |refine blk_drew ?_ |refine blk_alloc ?_ _)); refine blk_put (cs := #[.int .i64 t143, .int .i64 t144, .int .i64 t145, .int .i64 t146, .int .i64 t147, .int .i64 t148, .int .i64 t149, .int .i64 t150, .int .i64 t151, .int .i64 t152, .int .i64 0, .int .i64 0, .int .i64 0]) ?_ 10 _ rfl; (with_reducible repeat (first |refine blk_drewN ?_ _ |refine blk_drew ?_ |refine blk_alloc ?_ _)); refine blk_put (cs := #[.int .i64 t143, .int .i64 t144, .int .i64 t145, .int .i64 t146, .int .i64 t147, .int .i64 t148, .int .i64 t149, .int .i64 t150, .int .i64 t151, .int .i64 0, .int .i64 0, .int .i64 0, .int .i64 0]) ?_ 9 _ rfl; (with_reducible repeat (first |refine blk_drewN ?_ _ |refine blk_drew ?_ |refine blk_alloc ?_ _)); refine blk_put (cs := #[.int .i64 t143, .int .i64 t144, .int .i64 t145, .int .i64 t146, .int .i64 t147, .int .i64 t148, .int .i64 t149, .int .i64 t150, .int .i64 0, .int .i64 0, .int .i64 0, .int .i64 0, .int .i64 0]) ?_ 8 _ rfl; (with_reducible repeat (first |refine blk_drewN ?_ _ |refine blk_drew ?_ |refine blk_alloc ?_ _)); refine blk_put (cs := #[.int .i64 t143, .int .i64 t144, .int .i64 t145, .int .i64 t146, .int .i64 t147, .int .i64 t148, .int .i64 t149, .int .i64 0, .int .i64 0, .int .i64 0, .int .i64 0, .int .i64 0, .int .i64 0]) ?_ 7 _ rfl; (with_reducible repeat (first |refine blk_drewN ?_ _ |refine blk_drew ?_ |refine blk_alloc ?_ _)); refine blk_put (cs := #[.int .i64 t143, .int .i64 t144, .int .i64 t145, .int .i64 t146, .int .i64 t147, .int .i64 t148, .int .i64 0, .int .i64 0, .int .i64 0, .int .i64 0, .int .i64 0, .int .i64 0, .int .i64 0]) ?_ 6 _ rfl; (with_reducible repeat (first |refine blk_drewN ?_ _ |refine blk_drew ?_ |refine blk_alloc ?_ _)); refine blk_put (cs := #[.int .i64 t143, .int .i64 t144, .int .i64 t145, .int .i64 t146, .int .i64 t147, .int .i64 0, .int .i64 0, .int .i64 0, .int .i64 0, .int .i64 0, .int .i64 0, .int .i64 0, .int .i64 0]) ?_ 5 _ rfl; (with_reducible repeat (first |refine blk_drewN ?_ _ |refine blk_drew ?_ |refine blk_alloc ?_ _)); refine blk_put (cs := #[.int .i64 t143, .int .i64 t144, .int .i64 t145, .int .i64 t146, .int .i64 0, .int .i64 0, .int .i64 0, .int .i64 0, .int .i64 0, .int .i64 0, .int .i64 0, .int .i64 0, .int .i64 0]) ?_ 4 _ rfl; (with_reducible repeat (first |refine blk_drewN ?_ _ |refine blk_drew ?_ |refine blk_alloc ?_ _)); refine blk_put (cs := #[.int .i64 t143, .int .i64 t144, .int .i64 t145, .int .i64 0, .int .i64 0, .int .i64 0, .int .i64 0, .int .i64 0, .int .i64 0, .int .i64 0, .int .i64 0, .int .i64 0, .int .i64 0]) ?_ 3 _ rfl; (with_reducible repeat (first |refine blk_drewN ?_ _ |refine blk_drew ?_ |refine blk_alloc ?_ _)); refine blk_put (cs := #[.int .i64 t143, .int .i64 t144, .int .i64 0, .int .i64 0, .int .i64 0, .int .i64 0, .int .i64 0, .int .i64 0, .int .i64 0, .int .i64 0, .int .i64 0, .int .i64 0, .int .i64 0]) ?_ 2 _ rfl; (with_reducible repeat (first |refine blk_drewN ?_ _ |refine blk_drew ?_ |refine blk_alloc ?_ _)); refine blk_put (cs := #[.int .i64 t143, .int .i64 0, .int .i64 0, .int .i64 0, .int .i64 0, .int .i64 0, .int .i64 0, .int .i64 0, .int .i64 0, .int .i64 0, .int .i64 0, .int .i64 0, .int .i64 0]) ?_ 1 _ rfl; (with_reducible repeat (first |refine blk_drewN ?_ _ |refine blk_drew ?_ |refine blk_alloc ?_ _)); refine blk_put (cs := #[.int .i64 0, .int .i64 0, .int .i64 0, .int .i64 0, .int .i64 0, .int .i64 0, .int .i64 0, .int .i64 0, .int .i64 0, .int .i64 0, .int .i64 0, .int .i64 0, .int .i64 0]) ?_ 0 _ rfl; (with_reducible repeat (first |refine blk_drewN ?_ _ |refine blk_drew ?_ |refine blk_alloc ?_ _)); exact BK157.out⟩
    have n2_ : Aside0 (IsS80 w (((((((((((((w48.setCell ⟨gb157, 0, none⟩ (.int .i64 t143)).setCell ⟨gb157, 1, none⟩ (.int .i64 t144)).setCell ⟨gb157, 2, none⟩ (.int .i64 t145)).setCell ⟨gb157, 3, none⟩ (.int .i64 t146)).setCell ⟨gb157, 4, none⟩ (.int .i64 t147)).setCell ⟨gb157, 5, none⟩ (.int .i64 t148)).setCell ⟨gb157, 6, none⟩ (.int .i64 t149)).setCell ⟨gb157, 7, none⟩ (.int .i64 t150)).setCell ⟨gb157, 8, none⟩ (.int .i64 t151)).setCell ⟨gb157, 9, none⟩ (.int .i64 t152)).setCell ⟨gb157, 10, none⟩ (.int .i64 t153)).setCell ⟨gb157, 11, none⟩ (.int .i64 t154)).setCell ⟨gb157, 12, none⟩ (.int .i64 t155)) g137 t156) := ⟨by repeat (first | (with_reducible first | exact HI137.out | apply IsS80.alloc | apply IsS80.drewN | apply IsS80.drew | apply IsS80.set_0 | (focus (refine IsS80.far ?_ ?_ _; rotate_left; (focus ((repeat (first | (with_reducible exact Nsty.of BK157.out rfl) | apply Nsty.set | apply Nsty.drewN | apply Nsty.drew | apply Nsty.alloc)); done))))) | exact HI137.out)⟩
    have n3_ : Aside0 (Below w.heap.size w (((((((((((((w48.setCell ⟨gb157, 0, none⟩ (.int .i64 t143)).setCell ⟨gb157, 1, none⟩ (.int .i64 t144)).setCell ⟨gb157, 2, none⟩ (.int .i64 t145)).setCell ⟨gb157, 3, none⟩ (.int .i64 t146)).setCell ⟨gb157, 4, none⟩ (.int .i64 t147)).setCell ⟨gb157, 5, none⟩ (.int .i64 t148)).setCell ⟨gb157, 6, none⟩ (.int .i64 t149)).setCell ⟨gb157, 7, none⟩ (.int .i64 t150)).setCell ⟨gb157, 8, none⟩ (.int .i64 t151)).setCell ⟨gb157, 9, none⟩ (.int .i64 t152)).setCell ⟨gb157, 10, none⟩ (.int .i64 t153)).setCell ⟨gb157, 11, none⟩ (.int .i64 t154)).setCell ⟨gb157, 12, none⟩ (.int .i64 t155))) := ⟨by repeat (first | (with_reducible first | exact HB.out | apply below_alloc | apply pw_below_drewN | apply below_drew1 | refine below_set ?_ (IsS80.ge HI137.out) | refine below_set ?_ GE157.out) | exact HB.out)⟩
    (try clear HO140)
    (try clear BK157)
    (try clear HI137)
    (try clear HB)
    generalize (((((((((((((w48.setCell ⟨gb157, 0, none⟩ (.int .i64 t143)).setCell ⟨gb157, 1, none⟩ (.int .i64 t144)).setCell ⟨gb157, 2, none⟩ (.int .i64 t145)).setCell ⟨gb157, 3, none⟩ (.int .i64 t146)).setCell ⟨gb157, 4, none⟩ (.int .i64 t147)).setCell ⟨gb157, 5, none⟩ (.int .i64 t148)).setCell ⟨gb157, 6, none⟩ (.int .i64 t149)).setCell ⟨gb157, 7, none⟩ (.int .i64 t150)).setCell ⟨gb157, 8, none⟩ (.int .i64 t151)).setCell ⟨gb157, 9, none⟩ (.int .i64 t152)).setCell ⟨gb157, 10, none⟩ (.int .i64 t153)).setCell ⟨gb157, 11, none⟩ (.int .i64 t154)).setCell ⟨gb157, 12, none⟩ (.int .i64 t155)) = w51 at n0_ n1_ n2_ n3_ ⊢
    have HO140 := n0_
    have BK157 := n1_
    have HI137 := n2_
    have HB := n3_
    clear n0_ n1_ n2_ n3_
    have n0_ := Aside0.mk (Kd.R_drew HO140.out)
    have n1_ := Aside0.mk (blk_drew BK157.out)
    have n2_ := Aside0.mk (IsS80.drew HI137.out)
    have n3_ := Aside0.mk (below_drew1 HB.out)
    clear HO140
    clear BK157
    clear HI137
    clear HB
    have HO140 := n0_
    have BK157 := n1_
    have HI137 := n2_
    have HB := n3_
    clear n0_ n1_ n2_ n3_
    refine start_ (n := 10) (S := fun w' => w'.cell? ⟨gb157, 0, none⟩ = some (.int .i64 t143) ∧ w'.cell? ⟨gb157, 1, none⟩ = some (.int .i64 t144) ∧ w'.cell? ⟨gb157, 2, none⟩ = some (.int .i64 t145) ∧ w'.cell? ⟨gb157, 3, none⟩ = some (.int .i64 t146) ∧ w'.cell? ⟨gb157, 4, none⟩ = some (.int .i64 t147) ∧ w'.cell? ⟨gb157, 5, none⟩ = some (.int .i64 t148) ∧ w'.cell? ⟨gb157, 6, none⟩ = some (.int .i64 t149) ∧ w'.cell? ⟨gb157, 7, none⟩ = some (.int .i64 t150) ∧ w'.cell? ⟨gb157, 8, none⟩ = some (.int .i64 t151) ∧ w'.cell? ⟨gb157, 9, none⟩ = some (.int .i64 t152) ∧ w'.cell? ⟨gb157, 10, none⟩ = some (.int .i64 t153) ∧ w'.cell? ⟨gb157, 11, none⟩ = some (.int .i64 t154) ∧ w'.cell? ⟨gb157, 12, none⟩ = some (.int .i64 t155)) (ds := []) #[false,false,false,false,false,false,false,false,false,false] (by kernel_rfl) rfl rfl ⟨(blk_cell BK157.out 0).trans rfl, (blk_cell BK157.out 1).trans rfl, (blk_cell BK157.out 2).trans rfl, (blk_cell BK157.out 3).trans rfl, (blk_cell BK157.out 4).trans rfl, (blk_cell BK157.out 5).trans rfl, (blk_cell BK157.out 6).trans rfl, (blk_cell BK157.out 7).trans rfl, (blk_cell BK157.out 8).trans rfl, (blk_cell BK157.out 9).trans rfl, (blk_cell BK157.out 10).trans rfl, (blk_cell BK157.out 11).trans rfl, (blk_cell BK157.out 12).trans rfl⟩ (fun hHeld => ?_); refine with_tabW conclavelaw07_anchor.tab5 conclavelaw07_anchor.bits5 (fun HT_ HW_ => ?_)
    generalize w51.drew = w52 at HO140 BK157 HI137 HB hHeld ⊢
    refine pure_ (i := 0) (N := some 16) (v := ?_) (a' := ?_) #[true,false,false,false,false,false,false,false,false,false] rfl rfl (any_of HT_.out (by kernel_rfl)) (fun _ _ _ h => h) (Or.inl ⟨by rfl, ?_⟩) ?_ ?_
    rotate_left; (intro w'; go_simp; with_reducible rfl); rotate_left; (simp only [Act.put, List.setIfInBounds_toArray, List.set_cons_zero, List.set_cons_succ, i64_w, i32_w]; rfl)
    refine pure_ (i := 1) (N := some 17) (v := ?_) (a' := ?_) #[true,true,false,false,false,false,false,false,false,false] rfl rfl (any_of HT_.out (by kernel_rfl)) (fun _ _ _ h => h) (Or.inl ⟨by rfl, ?_⟩) ?_ ?_
    rotate_left; (intro w'; go_simp; with_reducible rfl); rotate_left; (simp only [Act.put, List.setIfInBounds_toArray, List.set_cons_zero, List.set_cons_succ, i64_w, i32_w]; rfl)
    refine pure_ (i := 3) (N := some 19) (v := ?_) (a' := ?_) #[true,true,false,true,false,false,false,false,false,false] rfl rfl (any_of HT_.out (by kernel_rfl)) (fun _ _ _ h => h) (Or.inl ⟨by rfl, ?_⟩) ?_ ?_
    rotate_left; (intro w'; go_simp; with_reducible rfl); rotate_left; (simp only [Act.put, List.setIfInBounds_toArray, List.set_cons_zero, List.set_cons_succ, i64_w, i32_w]; rfl)
    refine pure_ (i := 4) (N := some 20) (v := ?_) (a' := ?_) #[true,true,false,true,true,false,false,false,false,false] rfl rfl (any_of HT_.out (by kernel_rfl)) (fun _ _ _ h => h) (Or.inl ⟨by rfl, ?_⟩) ?_ ?_
    rotate_left; (intro w'; go_simp; with_reducible rfl); rotate_left; (simp only [Act.put, List.setIfInBounds_toArray, List.set_cons_zero, List.set_cons_succ, i64_w, i32_w]; rfl)
    refine take_ (i := 2) (N := some 18) (v := ?_) (a' := ?_) #[true,true,true,true,true,false,false,false,false,false] rfl rfl (take_ofW HT_.out HW_.out (by kernel_rfl)) (fun _ _ _ h => h) (Or.inl ⟨by rfl, ?_⟩) hHeld ?_ ?_
    rotate_left
    ·
     rintro w' ⟨s0, s1, s2, s3, s4, s5, s6, s7, s8, s9, s10, s11, s12⟩
     go_simp
     with_reducible rfl
    rotate_left
    ·
     simp only [Act.put, List.setIfInBounds_toArray, List.set_cons_zero, List.set_cons_succ, i64_w, i32_w]
     rfl
    refine join_ (σ := Nat) 1 #[true,true,true,true,true,true,true,true,true,false] (fun s_ => [(21, .int .i64 t158), (22, .int .i64 t160), (23, .agg #[.int .i64 t162, .int .i64 t163, .int .i64 t164, .int .i64 t165, .int .i64 t166, .int .i64 t167, .int .i64 t168, .int .i64 t169, .int .i64 t170, .int .i64 t171, .int .i64 t172, .int .i64 t173, .int .i64 t174]), (4, .pointer (some ⟨s_, 0, none⟩))]) (fun s_ w' => (w'.cell? ⟨gb157, 0, none⟩ = some (.int .i64 t143) ∧ w'.cell? ⟨gb157, 1, none⟩ = some (.int .i64 t144) ∧ w'.cell? ⟨gb157, 2, none⟩ = some (.int .i64 t145) ∧ w'.cell? ⟨gb157, 3, none⟩ = some (.int .i64 t146) ∧ w'.cell? ⟨gb157, 4, none⟩ = some (.int .i64 t147) ∧ w'.cell? ⟨gb157, 5, none⟩ = some (.int .i64 t148) ∧ w'.cell? ⟨gb157, 6, none⟩ = some (.int .i64 t149) ∧ w'.cell? ⟨gb157, 7, none⟩ = some (.int .i64 t150) ∧ w'.cell? ⟨gb157, 8, none⟩ = some (.int .i64 t151) ∧ w'.cell? ⟨gb157, 9, none⟩ = some (.int .i64 t152) ∧ w'.cell? ⟨gb157, 10, none⟩ = some (.int .i64 t153) ∧ w'.cell? ⟨gb157, 11, none⟩ = some (.int .i64 t154) ∧ w'.cell? ⟨gb157, 12, none⟩ = some (.int .i64 t155)) ∧ (Kd.R (Kd.int .i64) 3 w' w.heap.size (fun _ => True) (.slice Ao45 y138.length co45) y138) ∧ (w'.heap[gb157]? = some (.cells #[.int .i64 t143, .int .i64 t144, .int .i64 t145, .int .i64 t146, .int .i64 t147, .int .i64 t148, .int .i64 t149, .int .i64 t150, .int .i64 t151, .int .i64 t152, .int .i64 t153, .int .i64 t154, .int .i64 t155] 31 (0, 0))) ∧ (w'.heap[s_]? = some (.cells #[.int .i64 0, .int .i64 0, .int .i64 0, .int .i64 0, .int .i64 0, .int .i64 0, .int .i64 0, .int .i64 0, .int .i64 0, .int .i64 0, .int .i64 0, .int .i64 0, .int .i64 0] 31 (0, 0))) ∧ (w.heap.size ≤ s_) ∧ (w.heap.size ≤ s_) ∧ (g137 ≠ s_) ∧ (s_ ≠ g137) ∧ (gb157 ≠ s_) ∧ (s_ ≠ gb157) ∧ (IsS80 w w' g137 t175) ∧ (Below w.heap.size w w')) ?_ ?_
    rotate_left
    ·
     intro hCont
     refine two_ (i := 5) (j := 8) (Ni := some 21) (Nj := some 4) #[true,true,true,true,true,true,false,false,false,false] #[true,true,true,true,true,false,false,false,true,false] rfl rfl rfl rfl (two_of HT_.out (by kernel_rfl)) (by decide) (by decide) (fun K hK => ?_) (fun K hK => ?_)
     ·
      skip
      refine goes_ Tryd.func11 (by kernel_rfl) rfl #[.pointer (some ⟨g137, 0, none⟩), .string (⟨#[]⟩ : ByteArray)] (by rfl) rfl rfl (by (try simp only [List.map_toArray, List.map_cons, List.map_nil]); first | done | rfl | (simp only [List.length_drop, List.length_take]; rfl)) ?_
      with_reducible refine (term_Store_Text.calls g137 t156 (⟨#[]⟩ : ByteArray) t158 t159 w _ ?side1 ?side2 A4.out).mono ?_
      (case side1 => repeat (first | (with_reducible first | exact HI137.out | apply IsS80.alloc | apply IsS80.drewN | apply IsS80.drew | apply IsS80.set_0 | (focus (refine IsS80.far ?_ ?_ _; rotate_left; (focus ((repeat (first | (with_reducible exact Nsty.of BK157.out rfl) | apply Nsty.set | apply Nsty.drewN | apply Nsty.drew | apply Nsty.alloc)); done))))) | exact HI137.out))
      (case side2 => repeat (first | (with_reducible first | exact HB.out | apply below_alloc | apply pw_below_drewN | apply below_drew1 | refine below_set ?_ (IsS80.ge HI137.out) | refine below_set ?_ GE157.out) | exact HB.out))
      rintro e w53 ⟨rfl, hi, hb, hk⟩
      refine ⟨_, rfl, ?_⟩
      have n0_ := Aside0.mk (Kd.R_mono (Kd.R_keepSt (IsS80.apart (show IsS80 w _ g137 t156 from by repeat (first | (with_reducible first | exact HI137.out | apply IsS80.alloc | apply IsS80.drewN | apply IsS80.drew | apply IsS80.set_0 | (focus (refine IsS80.far ?_ ?_ _; rotate_left; (focus ((repeat (first | (with_reducible exact Nsty.of BK157.out rfl) | apply Nsty.set | apply Nsty.drewN | apply Nsty.drew | apply Nsty.alloc)); done))))) | exact HI137.out)) (by (with_reducible repeat (first | apply Kd.R_alloc | apply Kd.R_drewN | apply Kd.R_drew)); exact HO140.out) (by decide)) hk (fun _ h => h.2)) (fun _ h => h.1))
      have n1_ := Aside0.mk (KeepSt.blk hk (g' := gb157) (o := .cells #[.int .i64 t143, .int .i64 t144, .int .i64 t145, .int .i64 t146, .int .i64 t147, .int .i64 t148, .int .i64 t149, .int .i64 t150, .int .i64 t151, .int .i64 t152, .int .i64 t153, .int .i64 t154, .int .i64 t155] 31 (0, 0)) (by (with_reducible repeat (first | refine blk_drewN ?_ _ | refine blk_drew ?_ | refine blk_alloc ?_ _)); exact BK157.out) NB157_137.out rfl)
      have n2_ := Aside0.mk (hb)
      have n3_ := Aside0.mk (hi)
      clear HO140
      clear BK157
      clear HB
      clear HI137
      have HO140 := n0_
      have BK157 := n1_
      have HB := n2_
      have HI137 := n3_
      clear n0_ n1_ n2_ n3_
      (try clear hb)
      (try clear hb2)
      (try clear hk)
      (try clear hi)
      refine hK.out _ _ ⟨(blk_cell BK157.out 0).trans rfl, (blk_cell BK157.out 1).trans rfl, (blk_cell BK157.out 2).trans rfl, (blk_cell BK157.out 3).trans rfl, (blk_cell BK157.out 4).trans rfl, (blk_cell BK157.out 5).trans rfl, (blk_cell BK157.out 6).trans rfl, (blk_cell BK157.out 7).trans rfl, (blk_cell BK157.out 8).trans rfl, (blk_cell BK157.out 9).trans rfl, (blk_cell BK157.out 10).trans rfl, (blk_cell BK157.out 11).trans rfl, (blk_cell BK157.out 12).trans rfl⟩ (fun hHeld => ?_)
      clear hK K
      refine norm_ (a' := ?_) ?_ ?_
      rotate_left
      ·
       show Act.put _ (some 21) _ = _
       simp only [Act.put, List.setIfInBounds_toArray, List.set_cons_zero, List.set_cons_succ, i64_w, i32_w]
       rfl
      refine two_ (i := 6) (j := 8) (Ni := some 22) (Nj := some 4) #[true,true,true,true,true,true,true,false,false,false] #[true,true,true,true,true,true,false,false,true,false] rfl rfl rfl rfl (two_of HT_.out (by kernel_rfl)) (by decide) (by decide) (fun K hK => ?_) (fun K hK => ?_)
      ·
       skip
       refine goes_ Tryd.func13 (by kernel_rfl) rfl #[.pointer (some ⟨g137, 0, none⟩), .string (⟨#[112, 115, 107]⟩ : ByteArray), .int .i64 t158, .int .i64 3] (by rfl) rfl rfl (by (try simp only [List.map_toArray, List.map_cons, List.map_nil]); first | done | rfl | (simp only [List.length_drop, List.length_take]; rfl)) ?_
       with_reducible refine (term_Store_Kdf.calls g137 t159 (⟨#[112, 115, 107]⟩ : ByteArray) t158 3 t160 t161 w _ ?side1 ?side2 A5.out).mono ?_
       (case side1 => repeat (first | (with_reducible first | exact HI137.out | apply IsS80.alloc | apply IsS80.drewN | apply IsS80.drew | apply IsS80.set_0 | (focus (refine IsS80.far ?_ ?_ _; rotate_left; (focus ((repeat (first | (with_reducible exact Nsty.of BK157.out rfl) | apply Nsty.set | apply Nsty.drewN | apply Nsty.drew | apply Nsty.alloc)); done))))) | exact HI137.out))
       (case side2 => repeat (first | (with_reducible first | exact HB.out | apply below_alloc | apply pw_below_drewN | apply below_drew1 | refine below_set ?_ (IsS80.ge HI137.out) | refine below_set ?_ GE157.out) | exact HB.out))
       rintro e w54 ⟨rfl, hi, hb, hk⟩
       refine ⟨_, rfl, ?_⟩
       have n0_ := Aside0.mk (Kd.R_mono (Kd.R_keepSt (IsS80.apart (show IsS80 w _ g137 t159 from by repeat (first | (with_reducible first | exact HI137.out | apply IsS80.alloc | apply IsS80.drewN | apply IsS80.drew | apply IsS80.set_0 | (focus (refine IsS80.far ?_ ?_ _; rotate_left; (focus ((repeat (first | (with_reducible exact Nsty.of BK157.out rfl) | apply Nsty.set | apply Nsty.drewN | apply Nsty.drew | apply Nsty.alloc)); done))))) | exact HI137.out)) (by (with_reducible repeat (first | apply Kd.R_alloc | apply Kd.R_drewN | apply Kd.R_drew)); exact HO140.out) (by decide)) hk (fun _ h => h.2)) (fun _ h => h.1))
       have n1_ := Aside0.mk (KeepSt.blk hk (g' := gb157) (o := .cells #[.int .i64 t143, .int .i64 t144, .int .i64 t145, .int .i64 t146, .int .i64 t147, .int .i64 t148, .int .i64 t149, .int .i64 t150, .int .i64 t151, .int .i64 t152, .int .i64 t153, .int .i64 t154, .int .i64 t155] 31 (0, 0)) (by (with_reducible repeat (first | refine blk_drewN ?_ _ | refine blk_drew ?_ | refine blk_alloc ?_ _)); exact BK157.out) NB157_137.out rfl)
       have n2_ := Aside0.mk (hb)
       have n3_ := Aside0.mk (hi)
       clear HO140
       clear BK157
       clear HB
       clear HI137
       have HO140 := n0_
       have BK157 := n1_
       have HB := n2_
       have HI137 := n3_
       clear n0_ n1_ n2_ n3_
       (try clear hb)
       (try clear hb2)
       (try clear hk)
       (try clear hi)
       refine hK.out _ _ ⟨(blk_cell BK157.out 0).trans rfl, (blk_cell BK157.out 1).trans rfl, (blk_cell BK157.out 2).trans rfl, (blk_cell BK157.out 3).trans rfl, (blk_cell BK157.out 4).trans rfl, (blk_cell BK157.out 5).trans rfl, (blk_cell BK157.out 6).trans rfl, (blk_cell BK157.out 7).trans rfl, (blk_cell BK157.out 8).trans rfl, (blk_cell BK157.out 9).trans rfl, (blk_cell BK157.out 10).trans rfl, (blk_cell BK157.out 11).trans rfl, (blk_cell BK157.out 12).trans rfl⟩ (fun hHeld => ?_)
       clear hK K
       refine norm_ (a' := ?_) ?_ ?_
       rotate_left
       ·
        show Act.put _ (some 22) _ = _
        simp only [Act.put, List.setIfInBounds_toArray, List.set_cons_zero, List.set_cons_succ, i64_w, i32_w]
        rfl
       refine two_ (i := 7) (j := 8) (Ni := some 23) (Nj := some 4) #[true,true,true,true,true,true,true,true,false,false] #[true,true,true,true,true,true,true,false,true,false] rfl rfl rfl rfl (two_of HT_.out (by kernel_rfl)) (by decide) (by decide) (fun K hK => ?_) (fun K hK => ?_)
       ·
        skip
        refine goes_ Tryd.func12 (by kernel_rfl) rfl #[.pointer (some ⟨g137, 0, none⟩), .int .i64 t143, .int .i64 t160, .int .i64 4] (by rfl) rfl rfl (by (try simp only [List.map_toArray, List.map_cons, List.map_nil]); first | done | rfl | (simp only [List.length_drop, List.length_take]; rfl)) ?_
        with_reducible refine (schedule_Join.calls g137 t161 t143 t160 4 t162 t163 t164 t165 t166 t167 t168 t169 t170 t171 t172 t173 t174 t175 w _ ?side1 ?side2 A6.out).mono ?_
        (case side1 => repeat (first | (with_reducible first | exact HI137.out | apply IsS80.alloc | apply IsS80.drewN | apply IsS80.drew | apply IsS80.set_0 | (focus (refine IsS80.far ?_ ?_ _; rotate_left; (focus ((repeat (first | (with_reducible exact Nsty.of BK157.out rfl) | apply Nsty.set | apply Nsty.drewN | apply Nsty.drew | apply Nsty.alloc)); done))))) | exact HI137.out))
        (case side2 => repeat (first | (with_reducible first | exact HB.out | apply below_alloc | apply pw_below_drewN | apply below_drew1 | refine below_set ?_ (IsS80.ge HI137.out) | refine below_set ?_ GE157.out) | exact HB.out))
        rintro e w55 ⟨rfl, hi, hb, hk⟩
        refine ⟨_, rfl, ?_⟩
        have n0_ := Aside0.mk (Kd.R_mono (Kd.R_keepSt (IsS80.apart (show IsS80 w _ g137 t161 from by repeat (first | (with_reducible first | exact HI137.out | apply IsS80.alloc | apply IsS80.drewN | apply IsS80.drew | apply IsS80.set_0 | (focus (refine IsS80.far ?_ ?_ _; rotate_left; (focus ((repeat (first | (with_reducible exact Nsty.of BK157.out rfl) | apply Nsty.set | apply Nsty.drewN | apply Nsty.drew | apply Nsty.alloc)); done))))) | exact HI137.out)) (by (with_reducible repeat (first | apply Kd.R_alloc | apply Kd.R_drewN | apply Kd.R_drew)); exact HO140.out) (by decide)) hk (fun _ h => h.2)) (fun _ h => h.1))
        have n1_ := Aside0.mk (KeepSt.blk hk (g' := gb157) (o := .cells #[.int .i64 t143, .int .i64 t144, .int .i64 t145, .int .i64 t146, .int .i64 t147, .int .i64 t148, .int .i64 t149, .int .i64 t150, .int .i64 t151, .int .i64 t152, .int .i64 t153, .int .i64 t154, .int .i64 t155] 31 (0, 0)) (by (with_reducible repeat (first | refine blk_drewN ?_ _ | refine blk_drew ?_ | refine blk_alloc ?_ _)); exact BK157.out) NB157_137.out rfl)
        have n2_ := Aside0.mk (hb)
        have n3_ := Aside0.mk (hi)
        clear HO140
        clear BK157
        clear HB
        clear HI137
        have HO140 := n0_
        have BK157 := n1_
        have HB := n2_
        have HI137 := n3_
        clear n0_ n1_ n2_ n3_
        (try clear hb)
        (try clear hb2)
        (try clear hk)
        (try clear hi)
        refine hK.out _ _ ⟨(blk_cell BK157.out 0).trans rfl, (blk_cell BK157.out 1).trans rfl, (blk_cell BK157.out 2).trans rfl, (blk_cell BK157.out 3).trans rfl, (blk_cell BK157.out 4).trans rfl, (blk_cell BK157.out 5).trans rfl, (blk_cell BK157.out 6).trans rfl, (blk_cell BK157.out 7).trans rfl, (blk_cell BK157.out 8).trans rfl, (blk_cell BK157.out 9).trans rfl, (blk_cell BK157.out 10).trans rfl, (blk_cell BK157.out 11).trans rfl, (blk_cell BK157.out 12).trans rfl⟩ (fun hHeld => ?_)
        clear hK K
        refine norm_ (a' := ?_) ?_ ?_
        rotate_left
        ·
         show Act.put _ (some 23) _ = _
         simp only [Act.put, List.setIfInBounds_toArray, List.set_cons_zero, List.set_cons_succ, i64_w, i32_w]
         rfl
        refine one_ (i := 8) (N := some 4) #[true,true,true,true,true,true,true,true,true,false] rfl rfl (one_of HT_.out (by kernel_rfl)) (by decide) (fun K hK => ?_)
        refine box_step ?hg (N := 4) ?hd (cs := #[.int .i64 0, .int .i64 0, .int .i64 0, .int .i64 0, .int .i64 0, .int .i64 0, .int .i64 0, .int .i64 0, .int .i64 0, .int .i64 0, .int .i64 0, .int .i64 0, .int .i64 0]) (t := 31) ?hr ?_; (case hd => rfl); (case hg => rfl); (case hr => first | (go_simp; done) | (go_simp; rfl))
        intro gb176 hg w56 hbox hb
        have n0_ := Aside0.mk (Kd.R_below (by (with_reducible repeat (first | apply Kd.R_alloc | apply Kd.R_drewN | apply Kd.R_drew)); exact HO140.out) hb)
        have n1_ := Aside0.mk (IsS80.below (by repeat (first | (with_reducible first | exact HI137.out | apply IsS80.alloc | apply IsS80.drewN | apply IsS80.drew | apply IsS80.set_0 | (focus (refine IsS80.far ?_ ?_ _; rotate_left; (focus ((repeat (first | (with_reducible exact Nsty.of BK157.out rfl) | apply Nsty.set | apply Nsty.drewN | apply Nsty.drew | apply Nsty.alloc)); done))))) | exact HI137.out)) hb)
        have n2_ := Aside0.mk (blk_below (g := gb157) (o := .cells #[.int .i64 t143, .int .i64 t144, .int .i64 t145, .int .i64 t146, .int .i64 t147, .int .i64 t148, .int .i64 t149, .int .i64 t150, .int .i64 t151, .int .i64 t152, .int .i64 t153, .int .i64 t154, .int .i64 t155] 31 (0, 0)) (by (with_reducible repeat (first | refine blk_drewN ?_ _ | refine blk_drew ?_ | refine blk_alloc ?_ _)); exact BK157.out) hb)
        have n3_ := Aside0.mk (below_step (by repeat (first | (with_reducible first | exact HB.out | apply below_alloc | apply pw_below_drewN | apply below_drew1 | refine below_set ?_ (IsS80.ge HI137.out) | refine below_set ?_ GE157.out) | exact HB.out)) hb)
        have n4_ := Aside0.mk (hbox)
        have n5_ := Aside0.mk ((by rw [hg]; exact (below_size (by repeat (first | (with_reducible first | exact HB.out | apply below_alloc | apply pw_below_drewN | apply below_drew1 | refine below_set ?_ (IsS80.ge HI137.out) | refine below_set ?_ GE157.out) | exact HB.out))) : w.heap.size ≤ gb176))
        have n6_ := Aside0.mk ((by rw [hg]; exact (below_size (by repeat (first | (with_reducible first | exact HB.out | apply below_alloc | apply pw_below_drewN | apply below_drew1 | refine below_set ?_ (IsS80.ge HI137.out) | refine below_set ?_ GE157.out) | exact HB.out))) : w.heap.size ≤ gb176))
        have n7_ := Aside0.mk ((by rw [hg]; exact Nat.ne_of_lt (blk_lt (g := gb157) (o := .cells #[.int .i64 t143, .int .i64 t144, .int .i64 t145, .int .i64 t146, .int .i64 t147, .int .i64 t148, .int .i64 t149, .int .i64 t150, .int .i64 t151, .int .i64 t152, .int .i64 t153, .int .i64 t154, .int .i64 t155] 31 (0, 0)) (by (with_reducible repeat (first | refine blk_drewN ?_ _ | refine blk_drew ?_ | refine blk_alloc ?_ _)); exact BK157.out)) : gb157 ≠ gb176))
        have n8_ := Aside0.mk ((by rw [hg]; exact Nat.ne_of_gt (blk_lt (g := gb157) (o := .cells #[.int .i64 t143, .int .i64 t144, .int .i64 t145, .int .i64 t146, .int .i64 t147, .int .i64 t148, .int .i64 t149, .int .i64 t150, .int .i64 t151, .int .i64 t152, .int .i64 t153, .int .i64 t154, .int .i64 t155] 31 (0, 0)) (by (with_reducible repeat (first | refine blk_drewN ?_ _ | refine blk_drew ?_ | refine blk_alloc ?_ _)); exact BK157.out)) : gb176 ≠ gb157))
        have n9_ := Aside0.mk ((by rw [hg]; exact Nat.ne_of_lt (IsS80.lt (show IsS80 w _ g137 t175 from by repeat (first | (with_reducible first | exact HI137.out | apply IsS80.alloc | apply IsS80.drewN | apply IsS80.drew | apply IsS80.set_0 | (focus (refine IsS80.far ?_ ?_ _; rotate_left; (focus ((repeat (first | (with_reducible exact Nsty.of BK157.out rfl) | apply Nsty.set | apply Nsty.drewN | apply Nsty.drew | apply Nsty.alloc)); done))))) | exact HI137.out))) : g137 ≠ gb176))
        have n10_ := Aside0.mk ((by rw [hg]; exact Nat.ne_of_gt (IsS80.lt (show IsS80 w _ g137 t175 from by repeat (first | (with_reducible first | exact HI137.out | apply IsS80.alloc | apply IsS80.drewN | apply IsS80.drew | apply IsS80.set_0 | (focus (refine IsS80.far ?_ ?_ _; rotate_left; (focus ((repeat (first | (with_reducible exact Nsty.of BK157.out rfl) | apply Nsty.set | apply Nsty.drewN | apply Nsty.drew | apply Nsty.alloc)); done))))) | exact HI137.out))) : gb176 ≠ g137))
        clear HO140
        clear HI137
        clear BK157
        clear HB
        have HO140 := n0_
        have HI137 := n1_
        have BK157 := n2_
        have HB := n3_
        have BK176 := n4_
        have GW176 := n5_
        have GE176 := n6_
        have NB157_176 := n7_
        have NB176_157 := n8_
        have NB137_176 := n9_
        have NB176_137 := n10_
        clear n0_ n1_ n2_ n3_ n4_ n5_ n6_ n7_ n8_ n9_ n10_
        clear hb hbox hg
        refine hK.out _ _ ⟨(blk_cell BK157.out 0).trans rfl, (blk_cell BK157.out 1).trans rfl, (blk_cell BK157.out 2).trans rfl, (blk_cell BK157.out 3).trans rfl, (blk_cell BK157.out 4).trans rfl, (blk_cell BK157.out 5).trans rfl, (blk_cell BK157.out 6).trans rfl, (blk_cell BK157.out 7).trans rfl, (blk_cell BK157.out 8).trans rfl, (blk_cell BK157.out 9).trans rfl, (blk_cell BK157.out 10).trans rfl, (blk_cell BK157.out 11).trans rfl, (blk_cell BK157.out 12).trans rfl⟩ (fun hHeld => ?_)
        clear hK K
        refine norm_ (a' := ?_) ?_ ?_
        rotate_left
        ·
         show Act.put _ (some 4) _ = _
         simp only [Act.put, List.setIfInBounds_toArray, List.set_cons_zero, List.set_cons_succ, i64_w, i32_w]
         rfl
        exact norm_ (by simp only [putAll, Act.put, List.setIfInBounds_toArray, List.set_cons_zero, List.set_cons_succ]) (hCont (gb176) _ ⟨hHeld, (by (with_reducible repeat (first | apply Kd.R_alloc | apply Kd.R_drewN | apply Kd.R_drew)); exact HO140.out), (by (with_reducible repeat (first | refine blk_drewN ?_ _ | refine blk_drew ?_ | refine blk_alloc ?_ _)); exact BK157.out), (by (with_reducible repeat (first | refine blk_drewN ?_ _ | refine blk_drew ?_ | refine blk_alloc ?_ _)); exact BK176.out), GW176.out, GE176.out, NB137_176.out, NB176_137.out, NB157_176.out, NB176_157.out, (by repeat (first | (with_reducible first | exact HI137.out | apply IsS80.alloc | apply IsS80.drewN | apply IsS80.drew | apply IsS80.set_0 | (focus (refine IsS80.far ?_ ?_ _; rotate_left; (focus ((repeat (first | (with_reducible exact Nsty.of BK157.out rfl) | apply Nsty.set | apply Nsty.drewN | apply Nsty.drew | apply Nsty.alloc)); done)))) | (focus (refine IsS80.far ?_ ?_ _; rotate_left; (focus ((repeat (first | (with_reducible exact Nsty.of BK176.out rfl) | apply Nsty.set | apply Nsty.drewN | apply Nsty.drew | apply Nsty.alloc)); done))))) | exact HI137.out)), (by repeat (first | (with_reducible first | exact HB.out | apply below_alloc | apply pw_below_drewN | apply below_drew1 | refine below_set ?_ (IsS80.ge HI137.out) | refine below_set ?_ GE157.out | refine below_set ?_ GE176.out) | exact HB.out))⟩)
       ·
        skip
        refine box_step ?hg (N := 4) ?hd (cs := #[.int .i64 0, .int .i64 0, .int .i64 0, .int .i64 0, .int .i64 0, .int .i64 0, .int .i64 0, .int .i64 0, .int .i64 0, .int .i64 0, .int .i64 0, .int .i64 0, .int .i64 0]) (t := 31) ?hr ?_; (case hd => rfl); (case hg => rfl); (case hr => first | (go_simp; done) | (go_simp; rfl))
        intro gb176 hg w55 hbox hb
        have n0_ := Aside0.mk (Kd.R_below (by (with_reducible repeat (first | apply Kd.R_alloc | apply Kd.R_drewN | apply Kd.R_drew)); exact HO140.out) hb)
        have n1_ := Aside0.mk (IsS80.below (by repeat (first | (with_reducible first | exact HI137.out | apply IsS80.alloc | apply IsS80.drewN | apply IsS80.drew | apply IsS80.set_0 | (focus (refine IsS80.far ?_ ?_ _; rotate_left; (focus ((repeat (first | (with_reducible exact Nsty.of BK157.out rfl) | apply Nsty.set | apply Nsty.drewN | apply Nsty.drew | apply Nsty.alloc)); done))))) | exact HI137.out)) hb)
        have n2_ := Aside0.mk (blk_below (g := gb157) (o := .cells #[.int .i64 t143, .int .i64 t144, .int .i64 t145, .int .i64 t146, .int .i64 t147, .int .i64 t148, .int .i64 t149, .int .i64 t150, .int .i64 t151, .int .i64 t152, .int .i64 t153, .int .i64 t154, .int .i64 t155] 31 (0, 0)) (by (with_reducible repeat (first | refine blk_drewN ?_ _ | refine blk_drew ?_ | refine blk_alloc ?_ _)); exact BK157.out) hb)
        have n3_ := Aside0.mk (below_step (by repeat (first | (with_reducible first | exact HB.out | apply below_alloc | apply pw_below_drewN | apply below_drew1 | refine below_set ?_ (IsS80.ge HI137.out) | refine below_set ?_ GE157.out) | exact HB.out)) hb)
        have n4_ := Aside0.mk (hbox)
        have n5_ := Aside0.mk ((by rw [hg]; exact (below_size (by repeat (first | (with_reducible first | exact HB.out | apply below_alloc | apply pw_below_drewN | apply below_drew1 | refine below_set ?_ (IsS80.ge HI137.out) | refine below_set ?_ GE157.out) | exact HB.out))) : w.heap.size ≤ gb176))
        have n6_ := Aside0.mk ((by rw [hg]; exact (below_size (by repeat (first | (with_reducible first | exact HB.out | apply below_alloc | apply pw_below_drewN | apply below_drew1 | refine below_set ?_ (IsS80.ge HI137.out) | refine below_set ?_ GE157.out) | exact HB.out))) : w.heap.size ≤ gb176))
        have n7_ := Aside0.mk ((by rw [hg]; exact Nat.ne_of_lt (blk_lt (g := gb157) (o := .cells #[.int .i64 t143, .int .i64 t144, .int .i64 t145, .int .i64 t146, .int .i64 t147, .int .i64 t148, .int .i64 t149, .int .i64 t150, .int .i64 t151, .int .i64 t152, .int .i64 t153, .int .i64 t154, .int .i64 t155] 31 (0, 0)) (by (with_reducible repeat (first | refine blk_drewN ?_ _ | refine blk_drew ?_ | refine blk_alloc ?_ _)); exact BK157.out)) : gb157 ≠ gb176))
        have n8_ := Aside0.mk ((by rw [hg]; exact Nat.ne_of_gt (blk_lt (g := gb157) (o := .cells #[.int .i64 t143, .int .i64 t144, .int .i64 t145, .int .i64 t146, .int .i64 t147, .int .i64 t148, .int .i64 t149, .int .i64 t150, .int .i64 t151, .int .i64 t152, .int .i64 t153, .int .i64 t154, .int .i64 t155] 31 (0, 0)) (by (with_reducible repeat (first | refine blk_drewN ?_ _ | refine blk_drew ?_ | refine blk_alloc ?_ _)); exact BK157.out)) : gb176 ≠ gb157))
        have n9_ := Aside0.mk ((by rw [hg]; exact Nat.ne_of_lt (IsS80.lt (show IsS80 w _ g137 t161 from by repeat (first | (with_reducible first | exact HI137.out | apply IsS80.alloc | apply IsS80.drewN | apply IsS80.drew | apply IsS80.set_0 | (focus (refine IsS80.far ?_ ?_ _; rotate_left; (focus ((repeat (first | (with_reducible exact Nsty.of BK157.out rfl) | apply Nsty.set | apply Nsty.drewN | apply Nsty.drew | apply Nsty.alloc)); done))))) | exact HI137.out))) : g137 ≠ gb176))
        have n10_ := Aside0.mk ((by rw [hg]; exact Nat.ne_of_gt (IsS80.lt (show IsS80 w _ g137 t161 from by repeat (first | (with_reducible first | exact HI137.out | apply IsS80.alloc | apply IsS80.drewN | apply IsS80.drew | apply IsS80.set_0 | (focus (refine IsS80.far ?_ ?_ _; rotate_left; (focus ((repeat (first | (with_reducible exact Nsty.of BK157.out rfl) | apply Nsty.set | apply Nsty.drewN | apply Nsty.drew | apply Nsty.alloc)); done))))) | exact HI137.out))) : gb176 ≠ g137))
        clear HO140
        clear HI137
        clear BK157
        clear HB
        have HO140 := n0_
        have HI137 := n1_
        have BK157 := n2_
        have HB := n3_
        have BK176 := n4_
        have GW176 := n5_
        have GE176 := n6_
        have NB157_176 := n7_
        have NB176_157 := n8_
        have NB137_176 := n9_
        have NB176_137 := n10_
        clear n0_ n1_ n2_ n3_ n4_ n5_ n6_ n7_ n8_ n9_ n10_
        clear hb hbox hg
        refine hK.out _ _ ⟨(blk_cell BK157.out 0).trans rfl, (blk_cell BK157.out 1).trans rfl, (blk_cell BK157.out 2).trans rfl, (blk_cell BK157.out 3).trans rfl, (blk_cell BK157.out 4).trans rfl, (blk_cell BK157.out 5).trans rfl, (blk_cell BK157.out 6).trans rfl, (blk_cell BK157.out 7).trans rfl, (blk_cell BK157.out 8).trans rfl, (blk_cell BK157.out 9).trans rfl, (blk_cell BK157.out 10).trans rfl, (blk_cell BK157.out 11).trans rfl, (blk_cell BK157.out 12).trans rfl⟩ (fun hHeld => ?_)
        clear hK K
        refine norm_ (a' := ?_) ?_ ?_
        rotate_left
        ·
         show Act.put _ (some 4) _ = _
         simp only [Act.put, List.setIfInBounds_toArray, List.set_cons_zero, List.set_cons_succ, i64_w, i32_w]
         rfl
        refine one_ (i := 7) (N := some 23) #[true,true,true,true,true,true,true,true,true,false] rfl rfl (one_of HT_.out (by kernel_rfl)) (by decide) (fun K hK => ?_)
        refine goes_ Tryd.func12 (by kernel_rfl) rfl #[.pointer (some ⟨g137, 0, none⟩), .int .i64 t143, .int .i64 t160, .int .i64 4] (by rfl) rfl rfl (by (try simp only [List.map_toArray, List.map_cons, List.map_nil]); first | done | rfl | (simp only [List.length_drop, List.length_take]; rfl)) ?_
        with_reducible refine (schedule_Join.calls g137 t161 t143 t160 4 t162 t163 t164 t165 t166 t167 t168 t169 t170 t171 t172 t173 t174 t175 w _ ?side1 ?side2 A6.out).mono ?_
        (case side1 => repeat (first | (with_reducible first | exact HI137.out | apply IsS80.alloc | apply IsS80.drewN | apply IsS80.drew | apply IsS80.set_0 | (focus (refine IsS80.far ?_ ?_ _; rotate_left; (focus ((repeat (first | (with_reducible exact Nsty.of BK157.out rfl) | apply Nsty.set | apply Nsty.drewN | apply Nsty.drew | apply Nsty.alloc)); done)))) | (focus (refine IsS80.far ?_ ?_ _; rotate_left; (focus ((repeat (first | (with_reducible exact Nsty.of BK176.out rfl) | apply Nsty.set | apply Nsty.drewN | apply Nsty.drew | apply Nsty.alloc)); done))))) | exact HI137.out))
        (case side2 => repeat (first | (with_reducible first | exact HB.out | apply below_alloc | apply pw_below_drewN | apply below_drew1 | refine below_set ?_ (IsS80.ge HI137.out) | refine below_set ?_ GE157.out | refine below_set ?_ GE176.out) | exact HB.out))
        rintro e w56 ⟨rfl, hi, hb, hk⟩
        refine ⟨_, rfl, ?_⟩
        have n0_ := Aside0.mk (Kd.R_mono (Kd.R_keepSt (IsS80.apart (show IsS80 w _ g137 t161 from by repeat (first | (with_reducible first | exact HI137.out | apply IsS80.alloc | apply IsS80.drewN | apply IsS80.drew | apply IsS80.set_0 | (focus (refine IsS80.far ?_ ?_ _; rotate_left; (focus ((repeat (first | (with_reducible exact Nsty.of BK157.out rfl) | apply Nsty.set | apply Nsty.drewN | apply Nsty.drew | apply Nsty.alloc)); done)))) | (focus (refine IsS80.far ?_ ?_ _; rotate_left; (focus ((repeat (first | (with_reducible exact Nsty.of BK176.out rfl) | apply Nsty.set | apply Nsty.drewN | apply Nsty.drew | apply Nsty.alloc)); done))))) | exact HI137.out)) (by (with_reducible repeat (first | apply Kd.R_alloc | apply Kd.R_drewN | apply Kd.R_drew)); exact HO140.out) (by decide)) hk (fun _ h => h.2)) (fun _ h => h.1))
        have n1_ := Aside0.mk (KeepSt.blk hk (g' := gb157) (o := .cells #[.int .i64 t143, .int .i64 t144, .int .i64 t145, .int .i64 t146, .int .i64 t147, .int .i64 t148, .int .i64 t149, .int .i64 t150, .int .i64 t151, .int .i64 t152, .int .i64 t153, .int .i64 t154, .int .i64 t155] 31 (0, 0)) (by (with_reducible repeat (first | refine blk_drewN ?_ _ | refine blk_drew ?_ | refine blk_alloc ?_ _)); exact BK157.out) NB157_137.out rfl)
        have n2_ := Aside0.mk (KeepSt.blk hk (g' := gb176) (o := .cells #[.int .i64 0, .int .i64 0, .int .i64 0, .int .i64 0, .int .i64 0, .int .i64 0, .int .i64 0, .int .i64 0, .int .i64 0, .int .i64 0, .int .i64 0, .int .i64 0, .int .i64 0] 31 (0, 0)) (by (with_reducible repeat (first | refine blk_drewN ?_ _ | refine blk_drew ?_ | refine blk_alloc ?_ _)); exact BK176.out) NB176_137.out rfl)
        have n3_ := Aside0.mk (hb)
        have n4_ := Aside0.mk (hi)
        clear HO140
        clear BK157
        clear BK176
        clear HB
        clear HI137
        have HO140 := n0_
        have BK157 := n1_
        have BK176 := n2_
        have HB := n3_
        have HI137 := n4_
        clear n0_ n1_ n2_ n3_ n4_
        (try clear hb)
        (try clear hb2)
        (try clear hk)
        (try clear hi)
        refine hK.out _ _ ⟨(blk_cell BK157.out 0).trans rfl, (blk_cell BK157.out 1).trans rfl, (blk_cell BK157.out 2).trans rfl, (blk_cell BK157.out 3).trans rfl, (blk_cell BK157.out 4).trans rfl, (blk_cell BK157.out 5).trans rfl, (blk_cell BK157.out 6).trans rfl, (blk_cell BK157.out 7).trans rfl, (blk_cell BK157.out 8).trans rfl, (blk_cell BK157.out 9).trans rfl, (blk_cell BK157.out 10).trans rfl, (blk_cell BK157.out 11).trans rfl, (blk_cell BK157.out 12).trans rfl⟩ (fun hHeld => ?_)
        clear hK K
        refine norm_ (a' := ?_) ?_ ?_
        rotate_left
        ·
         show Act.put _ (some 23) _ = _
         simp only [Act.put, List.setIfInBounds_toArray, List.set_cons_zero, List.set_cons_succ, i64_w, i32_w]
         rfl
        exact norm_ (by simp only [putAll, Act.put, List.setIfInBounds_toArray, List.set_cons_zero, List.set_cons_succ]) (hCont (gb176) _ ⟨hHeld, (by (with_reducible repeat (first | apply Kd.R_alloc | apply Kd.R_drewN | apply Kd.R_drew)); exact HO140.out), (by (with_reducible repeat (first | refine blk_drewN ?_ _ | refine blk_drew ?_ | refine blk_alloc ?_ _)); exact BK157.out), (by (with_reducible repeat (first | refine blk_drewN ?_ _ | refine blk_drew ?_ | refine blk_alloc ?_ _)); exact BK176.out), GW176.out, GE176.out, NB137_176.out, NB176_137.out, NB157_176.out, NB176_157.out, (by repeat (first | (with_reducible first | exact HI137.out | apply IsS80.alloc | apply IsS80.drewN | apply IsS80.drew | apply IsS80.set_0 | (focus (refine IsS80.far ?_ ?_ _; rotate_left; (focus ((repeat (first | (with_reducible exact Nsty.of BK157.out rfl) | apply Nsty.set | apply Nsty.drewN | apply Nsty.drew | apply Nsty.alloc)); done)))) | (focus (refine IsS80.far ?_ ?_ _; rotate_left; (focus ((repeat (first | (with_reducible exact Nsty.of BK176.out rfl) | apply Nsty.set | apply Nsty.drewN | apply Nsty.drew | apply Nsty.alloc)); done))))) | exact HI137.out)), (by repeat (first | (with_reducible first | exact HB.out | apply below_alloc | apply pw_below_drewN | apply below_drew1 | refine below_set ?_ (IsS80.ge HI137.out) | refine below_set ?_ GE157.out | refine below_set ?_ GE176.out) | exact HB.out))⟩)
      ·
       skip
       refine box_step ?hg (N := 4) ?hd (cs := #[.int .i64 0, .int .i64 0, .int .i64 0, .int .i64 0, .int .i64 0, .int .i64 0, .int .i64 0, .int .i64 0, .int .i64 0, .int .i64 0, .int .i64 0, .int .i64 0, .int .i64 0]) (t := 31) ?hr ?_; (case hd => rfl); (case hg => rfl); (case hr => first | (go_simp; done) | (go_simp; rfl))
       intro gb176 hg w54 hbox hb
       have n0_ := Aside0.mk (Kd.R_below (by (with_reducible repeat (first | apply Kd.R_alloc | apply Kd.R_drewN | apply Kd.R_drew)); exact HO140.out) hb)
       have n1_ := Aside0.mk (IsS80.below (by repeat (first | (with_reducible first | exact HI137.out | apply IsS80.alloc | apply IsS80.drewN | apply IsS80.drew | apply IsS80.set_0 | (focus (refine IsS80.far ?_ ?_ _; rotate_left; (focus ((repeat (first | (with_reducible exact Nsty.of BK157.out rfl) | apply Nsty.set | apply Nsty.drewN | apply Nsty.drew | apply Nsty.alloc)); done))))) | exact HI137.out)) hb)
       have n2_ := Aside0.mk (blk_below (g := gb157) (o := .cells #[.int .i64 t143, .int .i64 t144, .int .i64 t145, .int .i64 t146, .int .i64 t147, .int .i64 t148, .int .i64 t149, .int .i64 t150, .int .i64 t151, .int .i64 t152, .int .i64 t153, .int .i64 t154, .int .i64 t155] 31 (0, 0)) (by (with_reducible repeat (first | refine blk_drewN ?_ _ | refine blk_drew ?_ | refine blk_alloc ?_ _)); exact BK157.out) hb)
       have n3_ := Aside0.mk (below_step (by repeat (first | (with_reducible first | exact HB.out | apply below_alloc | apply pw_below_drewN | apply below_drew1 | refine below_set ?_ (IsS80.ge HI137.out) | refine below_set ?_ GE157.out) | exact HB.out)) hb)
       have n4_ := Aside0.mk (hbox)
       have n5_ := Aside0.mk ((by rw [hg]; exact (below_size (by repeat (first | (with_reducible first | exact HB.out | apply below_alloc | apply pw_below_drewN | apply below_drew1 | refine below_set ?_ (IsS80.ge HI137.out) | refine below_set ?_ GE157.out) | exact HB.out))) : w.heap.size ≤ gb176))
       have n6_ := Aside0.mk ((by rw [hg]; exact (below_size (by repeat (first | (with_reducible first | exact HB.out | apply below_alloc | apply pw_below_drewN | apply below_drew1 | refine below_set ?_ (IsS80.ge HI137.out) | refine below_set ?_ GE157.out) | exact HB.out))) : w.heap.size ≤ gb176))
       have n7_ := Aside0.mk ((by rw [hg]; exact Nat.ne_of_lt (blk_lt (g := gb157) (o := .cells #[.int .i64 t143, .int .i64 t144, .int .i64 t145, .int .i64 t146, .int .i64 t147, .int .i64 t148, .int .i64 t149, .int .i64 t150, .int .i64 t151, .int .i64 t152, .int .i64 t153, .int .i64 t154, .int .i64 t155] 31 (0, 0)) (by (with_reducible repeat (first | refine blk_drewN ?_ _ | refine blk_drew ?_ | refine blk_alloc ?_ _)); exact BK157.out)) : gb157 ≠ gb176))
       have n8_ := Aside0.mk ((by rw [hg]; exact Nat.ne_of_gt (blk_lt (g := gb157) (o := .cells #[.int .i64 t143, .int .i64 t144, .int .i64 t145, .int .i64 t146, .int .i64 t147, .int .i64 t148, .int .i64 t149, .int .i64 t150, .int .i64 t151, .int .i64 t152, .int .i64 t153, .int .i64 t154, .int .i64 t155] 31 (0, 0)) (by (with_reducible repeat (first | refine blk_drewN ?_ _ | refine blk_drew ?_ | refine blk_alloc ?_ _)); exact BK157.out)) : gb176 ≠ gb157))
       have n9_ := Aside0.mk ((by rw [hg]; exact Nat.ne_of_lt (IsS80.lt (show IsS80 w _ g137 t159 from by repeat (first | (with_reducible first | exact HI137.out | apply IsS80.alloc | apply IsS80.drewN | apply IsS80.drew | apply IsS80.set_0 | (focus (refine IsS80.far ?_ ?_ _; rotate_left; (focus ((repeat (first | (with_reducible exact Nsty.of BK157.out rfl) | apply Nsty.set | apply Nsty.drewN | apply Nsty.drew | apply Nsty.alloc)); done))))) | exact HI137.out))) : g137 ≠ gb176))
       have n10_ := Aside0.mk ((by rw [hg]; exact Nat.ne_of_gt (IsS80.lt (show IsS80 w _ g137 t159 from by repeat (first | (with_reducible first | exact HI137.out | apply IsS80.alloc | apply IsS80.drewN | apply IsS80.drew | apply IsS80.set_0 | (focus (refine IsS80.far ?_ ?_ _; rotate_left; (focus ((repeat (first | (with_reducible exact Nsty.of BK157.out rfl) | apply Nsty.set | apply Nsty.drewN | apply Nsty.drew | apply Nsty.alloc)); done))))) | exact HI137.out))) : gb176 ≠ g137))
       clear HO140
       clear HI137
       clear BK157
       clear HB
       have HO140 := n0_
       have HI137 := n1_
       have BK157 := n2_
       have HB := n3_
       have BK176 := n4_
       have GW176 := n5_
       have GE176 := n6_
       have NB157_176 := n7_
       have NB176_157 := n8_
       have NB137_176 := n9_
       have NB176_137 := n10_
       clear n0_ n1_ n2_ n3_ n4_ n5_ n6_ n7_ n8_ n9_ n10_
       clear hb hbox hg
       refine hK.out _ _ ⟨(blk_cell BK157.out 0).trans rfl, (blk_cell BK157.out 1).trans rfl, (blk_cell BK157.out 2).trans rfl, (blk_cell BK157.out 3).trans rfl, (blk_cell BK157.out 4).trans rfl, (blk_cell BK157.out 5).trans rfl, (blk_cell BK157.out 6).trans rfl, (blk_cell BK157.out 7).trans rfl, (blk_cell BK157.out 8).trans rfl, (blk_cell BK157.out 9).trans rfl, (blk_cell BK157.out 10).trans rfl, (blk_cell BK157.out 11).trans rfl, (blk_cell BK157.out 12).trans rfl⟩ (fun hHeld => ?_)
       clear hK K
       refine norm_ (a' := ?_) ?_ ?_
       rotate_left
       ·
        show Act.put _ (some 4) _ = _
        simp only [Act.put, List.setIfInBounds_toArray, List.set_cons_zero, List.set_cons_succ, i64_w, i32_w]
        rfl
       refine one_ (i := 6) (N := some 22) #[true,true,true,true,true,true,true,false,true,false] rfl rfl (one_of HT_.out (by kernel_rfl)) (by decide) (fun K hK => ?_)
       refine goes_ Tryd.func13 (by kernel_rfl) rfl #[.pointer (some ⟨g137, 0, none⟩), .string (⟨#[112, 115, 107]⟩ : ByteArray), .int .i64 t158, .int .i64 3] (by rfl) rfl rfl (by (try simp only [List.map_toArray, List.map_cons, List.map_nil]); first | done | rfl | (simp only [List.length_drop, List.length_take]; rfl)) ?_
       with_reducible refine (term_Store_Kdf.calls g137 t159 (⟨#[112, 115, 107]⟩ : ByteArray) t158 3 t160 t161 w _ ?side1 ?side2 A5.out).mono ?_
       (case side1 => repeat (first | (with_reducible first | exact HI137.out | apply IsS80.alloc | apply IsS80.drewN | apply IsS80.drew | apply IsS80.set_0 | (focus (refine IsS80.far ?_ ?_ _; rotate_left; (focus ((repeat (first | (with_reducible exact Nsty.of BK157.out rfl) | apply Nsty.set | apply Nsty.drewN | apply Nsty.drew | apply Nsty.alloc)); done)))) | (focus (refine IsS80.far ?_ ?_ _; rotate_left; (focus ((repeat (first | (with_reducible exact Nsty.of BK176.out rfl) | apply Nsty.set | apply Nsty.drewN | apply Nsty.drew | apply Nsty.alloc)); done))))) | exact HI137.out))
       (case side2 => repeat (first | (with_reducible first | exact HB.out | apply below_alloc | apply pw_below_drewN | apply below_drew1 | refine below_set ?_ (IsS80.ge HI137.out) | refine below_set ?_ GE157.out | refine below_set ?_ GE176.out) | exact HB.out))
       rintro e w55 ⟨rfl, hi, hb, hk⟩
       refine ⟨_, rfl, ?_⟩
       have n0_ := Aside0.mk (Kd.R_mono (Kd.R_keepSt (IsS80.apart (show IsS80 w _ g137 t159 from by repeat (first | (with_reducible first | exact HI137.out | apply IsS80.alloc | apply IsS80.drewN | apply IsS80.drew | apply IsS80.set_0 | (focus (refine IsS80.far ?_ ?_ _; rotate_left; (focus ((repeat (first | (with_reducible exact Nsty.of BK157.out rfl) | apply Nsty.set | apply Nsty.drewN | apply Nsty.drew | apply Nsty.alloc)); done)))) | (focus (refine IsS80.far ?_ ?_ _; rotate_left; (focus ((repeat (first | (with_reducible exact Nsty.of BK176.out rfl) | apply Nsty.set | apply Nsty.drewN | apply Nsty.drew | apply Nsty.alloc)); done))))) | exact HI137.out)) (by (with_reducible repeat (first | apply Kd.R_alloc | apply Kd.R_drewN | apply Kd.R_drew)); exact HO140.out) (by decide)) hk (fun _ h => h.2)) (fun _ h => h.1))
       have n1_ := Aside0.mk (KeepSt.blk hk (g' := gb157) (o := .cells #[.int .i64 t143, .int .i64 t144, .int .i64 t145, .int .i64 t146, .int .i64 t147, .int .i64 t148, .int .i64 t149, .int .i64 t150, .int .i64 t151, .int .i64 t152, .int .i64 t153, .int .i64 t154, .int .i64 t155] 31 (0, 0)) (by (with_reducible repeat (first | refine blk_drewN ?_ _ | refine blk_drew ?_ | refine blk_alloc ?_ _)); exact BK157.out) NB157_137.out rfl)
       have n2_ := Aside0.mk (KeepSt.blk hk (g' := gb176) (o := .cells #[.int .i64 0, .int .i64 0, .int .i64 0, .int .i64 0, .int .i64 0, .int .i64 0, .int .i64 0, .int .i64 0, .int .i64 0, .int .i64 0, .int .i64 0, .int .i64 0, .int .i64 0] 31 (0, 0)) (by (with_reducible repeat (first | refine blk_drewN ?_ _ | refine blk_drew ?_ | refine blk_alloc ?_ _)); exact BK176.out) NB176_137.out rfl)
       have n3_ := Aside0.mk (hb)
       have n4_ := Aside0.mk (hi)
       clear HO140
       clear BK157
       clear BK176
       clear HB
       clear HI137
       have HO140 := n0_
       have BK157 := n1_
       have BK176 := n2_
       have HB := n3_
       have HI137 := n4_
       clear n0_ n1_ n2_ n3_ n4_
       (try clear hb)
       (try clear hb2)
       (try clear hk)
       (try clear hi)
       refine hK.out _ _ ⟨(blk_cell BK157.out 0).trans rfl, (blk_cell BK157.out 1).trans rfl, (blk_cell BK157.out 2).trans rfl, (blk_cell BK157.out 3).trans rfl, (blk_cell BK157.out 4).trans rfl, (blk_cell BK157.out 5).trans rfl, (blk_cell BK157.out 6).trans rfl, (blk_cell BK157.out 7).trans rfl, (blk_cell BK157.out 8).trans rfl, (blk_cell BK157.out 9).trans rfl, (blk_cell BK157.out 10).trans rfl, (blk_cell BK157.out 11).trans rfl, (blk_cell BK157.out 12).trans rfl⟩ (fun hHeld => ?_)
       clear hK K
       refine norm_ (a' := ?_) ?_ ?_
       rotate_left
       ·
        show Act.put _ (some 22) _ = _
        simp only [Act.put, List.setIfInBounds_toArray, List.set_cons_zero, List.set_cons_succ, i64_w, i32_w]
        rfl
       refine one_ (i := 7) (N := some 23) #[true,true,true,true,true,true,true,true,true,false] rfl rfl (one_of HT_.out (by kernel_rfl)) (by decide) (fun K hK => ?_)
       refine goes_ Tryd.func12 (by kernel_rfl) rfl #[.pointer (some ⟨g137, 0, none⟩), .int .i64 t143, .int .i64 t160, .int .i64 4] (by rfl) rfl rfl (by (try simp only [List.map_toArray, List.map_cons, List.map_nil]); first | done | rfl | (simp only [List.length_drop, List.length_take]; rfl)) ?_
       with_reducible refine (schedule_Join.calls g137 t161 t143 t160 4 t162 t163 t164 t165 t166 t167 t168 t169 t170 t171 t172 t173 t174 t175 w _ ?side1 ?side2 A6.out).mono ?_
       (case side1 => repeat (first | (with_reducible first | exact HI137.out | apply IsS80.alloc | apply IsS80.drewN | apply IsS80.drew | apply IsS80.set_0 | (focus (refine IsS80.far ?_ ?_ _; rotate_left; (focus ((repeat (first | (with_reducible exact Nsty.of BK157.out rfl) | apply Nsty.set | apply Nsty.drewN | apply Nsty.drew | apply Nsty.alloc)); done)))) | (focus (refine IsS80.far ?_ ?_ _; rotate_left; (focus ((repeat (first | (with_reducible exact Nsty.of BK176.out rfl) | apply Nsty.set | apply Nsty.drewN | apply Nsty.drew | apply Nsty.alloc)); done))))) | exact HI137.out))
       (case side2 => repeat (first | (with_reducible first | exact HB.out | apply below_alloc | apply pw_below_drewN | apply below_drew1 | refine below_set ?_ (IsS80.ge HI137.out) | refine below_set ?_ GE157.out | refine below_set ?_ GE176.out) | exact HB.out))
       rintro e w56 ⟨rfl, hi, hb, hk⟩
       refine ⟨_, rfl, ?_⟩
       have n0_ := Aside0.mk (Kd.R_mono (Kd.R_keepSt (IsS80.apart (show IsS80 w _ g137 t161 from by repeat (first | (with_reducible first | exact HI137.out | apply IsS80.alloc | apply IsS80.drewN | apply IsS80.drew | apply IsS80.set_0 | (focus (refine IsS80.far ?_ ?_ _; rotate_left; (focus ((repeat (first | (with_reducible exact Nsty.of BK157.out rfl) | apply Nsty.set | apply Nsty.drewN | apply Nsty.drew | apply Nsty.alloc)); done)))) | (focus (refine IsS80.far ?_ ?_ _; rotate_left; (focus ((repeat (first | (with_reducible exact Nsty.of BK176.out rfl) | apply Nsty.set | apply Nsty.drewN | apply Nsty.drew | apply Nsty.alloc)); done))))) | exact HI137.out)) (by (with_reducible repeat (first | apply Kd.R_alloc | apply Kd.R_drewN | apply Kd.R_drew)); exact HO140.out) (by decide)) hk (fun _ h => h.2)) (fun _ h => h.1))
       have n1_ := Aside0.mk (KeepSt.blk hk (g' := gb157) (o := .cells #[.int .i64 t143, .int .i64 t144, .int .i64 t145, .int .i64 t146, .int .i64 t147, .int .i64 t148, .int .i64 t149, .int .i64 t150, .int .i64 t151, .int .i64 t152, .int .i64 t153, .int .i64 t154, .int .i64 t155] 31 (0, 0)) (by (with_reducible repeat (first | refine blk_drewN ?_ _ | refine blk_drew ?_ | refine blk_alloc ?_ _)); exact BK157.out) NB157_137.out rfl)
       have n2_ := Aside0.mk (KeepSt.blk hk (g' := gb176) (o := .cells #[.int .i64 0, .int .i64 0, .int .i64 0, .int .i64 0, .int .i64 0, .int .i64 0, .int .i64 0, .int .i64 0, .int .i64 0, .int .i64 0, .int .i64 0, .int .i64 0, .int .i64 0] 31 (0, 0)) (by (with_reducible repeat (first | refine blk_drewN ?_ _ | refine blk_drew ?_ | refine blk_alloc ?_ _)); exact BK176.out) NB176_137.out rfl)
       have n3_ := Aside0.mk (hb)
       have n4_ := Aside0.mk (hi)
       clear HO140
       clear BK157
       clear BK176
       clear HB
       clear HI137
       have HO140 := n0_
       have BK157 := n1_
       have BK176 := n2_
       have HB := n3_
       have HI137 := n4_
       clear n0_ n1_ n2_ n3_ n4_
       (try clear hb)
       (try clear hb2)
       (try clear hk)
       (try clear hi)
       refine hK.out _ _ ⟨(blk_cell BK157.out 0).trans rfl, (blk_cell BK157.out 1).trans rfl, (blk_cell BK157.out 2).trans rfl, (blk_cell BK157.out 3).trans rfl, (blk_cell BK157.out 4).trans rfl, (blk_cell BK157.out 5).trans rfl, (blk_cell BK157.out 6).trans rfl, (blk_cell BK157.out 7).trans rfl, (blk_cell BK157.out 8).trans rfl, (blk_cell BK157.out 9).trans rfl, (blk_cell BK157.out 10).trans rfl, (blk_cell BK157.out 11).trans rfl, (blk_cell BK157.out 12).trans rfl⟩ (fun hHeld => ?_)
       clear hK K
       refine norm_ (a' := ?_) ?_ ?_
       rotate_left
       ·
        show Act.put _ (some 23) _ = _
        simp only [Act.put, List.setIfInBounds_toArray, List.set_cons_zero, List.set_cons_succ, i64_w, i32_w]
        rfl
       exact norm_ (by simp only [putAll, Act.put, List.setIfInBounds_toArray, List.set_cons_zero, List.set_cons_succ]) (hCont (gb176) _ ⟨hHeld, (by (with_reducible repeat (first | apply Kd.R_alloc | apply Kd.R_drewN | apply Kd.R_drew)); exact HO140.out), (by (with_reducible repeat (first | refine blk_drewN ?_ _ | refine blk_drew ?_ | refine blk_alloc ?_ _)); exact BK157.out), (by (with_reducible repeat (first | refine blk_drewN ?_ _ | refine blk_drew ?_ | refine blk_alloc ?_ _)); exact BK176.out), GW176.out, GE176.out, NB137_176.out, NB176_137.out, NB157_176.out, NB176_157.out, (by repeat (first | (with_reducible first | exact HI137.out | apply IsS80.alloc | apply IsS80.drewN | apply IsS80.drew | apply IsS80.set_0 | (focus (refine IsS80.far ?_ ?_ _; rotate_left; (focus ((repeat (first | (with_reducible exact Nsty.of BK157.out rfl) | apply Nsty.set | apply Nsty.drewN | apply Nsty.drew | apply Nsty.alloc)); done)))) | (focus (refine IsS80.far ?_ ?_ _; rotate_left; (focus ((repeat (first | (with_reducible exact Nsty.of BK176.out rfl) | apply Nsty.set | apply Nsty.drewN | apply Nsty.drew | apply Nsty.alloc)); done))))) | exact HI137.out)), (by repeat (first | (with_reducible first | exact HB.out | apply below_alloc | apply pw_below_drewN | apply below_drew1 | refine below_set ?_ (IsS80.ge HI137.out) | refine below_set ?_ GE157.out | refine below_set ?_ GE176.out) | exact HB.out))⟩)
     ·
      skip
      refine box_step ?hg (N := 4) ?hd (cs := #[.int .i64 0, .int .i64 0, .int .i64 0, .int .i64 0, .int .i64 0, .int .i64 0, .int .i64 0, .int .i64 0, .int .i64 0, .int .i64 0, .int .i64 0, .int .i64 0, .int .i64 0]) (t := 31) ?hr ?_; (case hd => rfl); (case hg => rfl); (case hr => first | (go_simp; done) | (go_simp; rfl))
      intro gb176 hg w53 hbox hb
      have n0_ := Aside0.mk (Kd.R_below (by (with_reducible repeat (first | apply Kd.R_alloc | apply Kd.R_drewN | apply Kd.R_drew)); exact HO140.out) hb)
      have n1_ := Aside0.mk (IsS80.below (by repeat (first | (with_reducible first | exact HI137.out | apply IsS80.alloc | apply IsS80.drewN | apply IsS80.drew | apply IsS80.set_0 | (focus (refine IsS80.far ?_ ?_ _; rotate_left; (focus ((repeat (first | (with_reducible exact Nsty.of BK157.out rfl) | apply Nsty.set | apply Nsty.drewN | apply Nsty.drew | apply Nsty.alloc)); done))))) | exact HI137.out)) hb)
      have n2_ := Aside0.mk (blk_below (g := gb157) (o := .cells #[.int .i64 t143, .int .i64 t144, .int .i64 t145, .int .i64 t146, .int .i64 t147, .int .i64 t148, .int .i64 t149, .int .i64 t150, .int .i64 t151, .int .i64 t152, .int .i64 t153, .int .i64 t154, .int .i64 t155] 31 (0, 0)) (by (with_reducible repeat (first | refine blk_drewN ?_ _ | refine blk_drew ?_ | refine blk_alloc ?_ _)); exact BK157.out) hb)
      have n3_ := Aside0.mk (below_step (by repeat (first | (with_reducible first | exact HB.out | apply below_alloc | apply pw_below_drewN | apply below_drew1 | refine below_set ?_ (IsS80.ge HI137.out) | refine below_set ?_ GE157.out) | exact HB.out)) hb)
      have n4_ := Aside0.mk (hbox)
      have n5_ := Aside0.mk ((by rw [hg]; exact (below_size (by repeat (first | (with_reducible first | exact HB.out | apply below_alloc | apply pw_below_drewN | apply below_drew1 | refine below_set ?_ (IsS80.ge HI137.out) | refine below_set ?_ GE157.out) | exact HB.out))) : w.heap.size ≤ gb176))
      have n6_ := Aside0.mk ((by rw [hg]; exact (below_size (by repeat (first | (with_reducible first | exact HB.out | apply below_alloc | apply pw_below_drewN | apply below_drew1 | refine below_set ?_ (IsS80.ge HI137.out) | refine below_set ?_ GE157.out) | exact HB.out))) : w.heap.size ≤ gb176))
      have n7_ := Aside0.mk ((by rw [hg]; exact Nat.ne_of_lt (blk_lt (g := gb157) (o := .cells #[.int .i64 t143, .int .i64 t144, .int .i64 t145, .int .i64 t146, .int .i64 t147, .int .i64 t148, .int .i64 t149, .int .i64 t150, .int .i64 t151, .int .i64 t152, .int .i64 t153, .int .i64 t154, .int .i64 t155] 31 (0, 0)) (by (with_reducible repeat (first | refine blk_drewN ?_ _ | refine blk_drew ?_ | refine blk_alloc ?_ _)); exact BK157.out)) : gb157 ≠ gb176))
      have n8_ := Aside0.mk ((by rw [hg]; exact Nat.ne_of_gt (blk_lt (g := gb157) (o := .cells #[.int .i64 t143, .int .i64 t144, .int .i64 t145, .int .i64 t146, .int .i64 t147, .int .i64 t148, .int .i64 t149, .int .i64 t150, .int .i64 t151, .int .i64 t152, .int .i64 t153, .int .i64 t154, .int .i64 t155] 31 (0, 0)) (by (with_reducible repeat (first | refine blk_drewN ?_ _ | refine blk_drew ?_ | refine blk_alloc ?_ _)); exact BK157.out)) : gb176 ≠ gb157))
      have n9_ := Aside0.mk ((by rw [hg]; exact Nat.ne_of_lt (IsS80.lt (show IsS80 w _ g137 t156 from by repeat (first | (with_reducible first | exact HI137.out | apply IsS80.alloc | apply IsS80.drewN | apply IsS80.drew | apply IsS80.set_0 | (focus (refine IsS80.far ?_ ?_ _; rotate_left; (focus ((repeat (first | (with_reducible exact Nsty.of BK157.out rfl) | apply Nsty.set | apply Nsty.drewN | apply Nsty.drew | apply Nsty.alloc)); done))))) | exact HI137.out))) : g137 ≠ gb176))
      have n10_ := Aside0.mk ((by rw [hg]; exact Nat.ne_of_gt (IsS80.lt (show IsS80 w _ g137 t156 from by repeat (first | (with_reducible first | exact HI137.out | apply IsS80.alloc | apply IsS80.drewN | apply IsS80.drew | apply IsS80.set_0 | (focus (refine IsS80.far ?_ ?_ _; rotate_left; (focus ((repeat (first | (with_reducible exact Nsty.of BK157.out rfl) | apply Nsty.set | apply Nsty.drewN | apply Nsty.drew | apply Nsty.alloc)); done))))) | exact HI137.out))) : gb176 ≠ g137))
      clear HO140
      clear HI137
      clear BK157
      clear HB
      have HO140 := n0_
      have HI137 := n1_
      have BK157 := n2_
      have HB := n3_
      have BK176 := n4_
      have GW176 := n5_
      have GE176 := n6_
      have NB157_176 := n7_
      have NB176_157 := n8_
      have NB137_176 := n9_
      have NB176_137 := n10_
      clear n0_ n1_ n2_ n3_ n4_ n5_ n6_ n7_ n8_ n9_ n10_
      clear hb hbox hg
      refine hK.out _ _ ⟨(blk_cell BK157.out 0).trans rfl, (blk_cell BK157.out 1).trans rfl, (blk_cell BK157.out 2).trans rfl, (blk_cell BK157.out 3).trans rfl, (blk_cell BK157.out 4).trans rfl, (blk_cell BK157.out 5).trans rfl, (blk_cell BK157.out 6).trans rfl, (blk_cell BK157.out 7).trans rfl, (blk_cell BK157.out 8).trans rfl, (blk_cell BK157.out 9).trans rfl, (blk_cell BK157.out 10).trans rfl, (blk_cell BK157.out 11).trans rfl, (blk_cell BK157.out 12).trans rfl⟩ (fun hHeld => ?_)
      clear hK K
      refine norm_ (a' := ?_) ?_ ?_
      rotate_left
      ·
       show Act.put _ (some 4) _ = _
       simp only [Act.put, List.setIfInBounds_toArray, List.set_cons_zero, List.set_cons_succ, i64_w, i32_w]
       rfl
      refine one_ (i := 5) (N := some 21) #[true,true,true,true,true,true,false,false,true,false] rfl rfl (one_of HT_.out (by kernel_rfl)) (by decide) (fun K hK => ?_)
      refine goes_ Tryd.func11 (by kernel_rfl) rfl #[.pointer (some ⟨g137, 0, none⟩), .string (⟨#[]⟩ : ByteArray)] (by rfl) rfl rfl (by (try simp only [List.map_toArray, List.map_cons, List.map_nil]); first | done | rfl | (simp only [List.length_drop, List.length_take]; rfl)) ?_
      with_reducible refine (term_Store_Text.calls g137 t156 (⟨#[]⟩ : ByteArray) t158 t159 w _ ?side1 ?side2 A4.out).mono ?_
      (case side1 => repeat (first | (with_reducible first | exact HI137.out | apply IsS80.alloc | apply IsS80.drewN | apply IsS80.drew | apply IsS80.set_0 | (focus (refine IsS80.far ?_ ?_ _; rotate_left; (focus ((repeat (first | (with_reducible exact Nsty.of BK157.out rfl) | apply Nsty.set | apply Nsty.drewN | apply Nsty.drew | apply Nsty.alloc)); done)))) | (focus (refine IsS80.far ?_ ?_ _; rotate_left; (focus ((repeat (first | (with_reducible exact Nsty.of BK176.out rfl) | apply Nsty.set | apply Nsty.drewN | apply Nsty.drew | apply Nsty.alloc)); done))))) | exact HI137.out))
      (case side2 => repeat (first | (with_reducible first | exact HB.out | apply below_alloc | apply pw_below_drewN | apply below_drew1 | refine below_set ?_ (IsS80.ge HI137.out) | refine below_set ?_ GE157.out | refine below_set ?_ GE176.out) | exact HB.out))
      rintro e w54 ⟨rfl, hi, hb, hk⟩
      refine ⟨_, rfl, ?_⟩
      have n0_ := Aside0.mk (Kd.R_mono (Kd.R_keepSt (IsS80.apart (show IsS80 w _ g137 t156 from by repeat (first | (with_reducible first | exact HI137.out | apply IsS80.alloc | apply IsS80.drewN | apply IsS80.drew | apply IsS80.set_0 | (focus (refine IsS80.far ?_ ?_ _; rotate_left; (focus ((repeat (first | (with_reducible exact Nsty.of BK157.out rfl) | apply Nsty.set | apply Nsty.drewN | apply Nsty.drew | apply Nsty.alloc)); done)))) | (focus (refine IsS80.far ?_ ?_ _; rotate_left; (focus ((repeat (first | (with_reducible exact Nsty.of BK176.out rfl) | apply Nsty.set | apply Nsty.drewN | apply Nsty.drew | apply Nsty.alloc)); done))))) | exact HI137.out)) (by (with_reducible repeat (first | apply Kd.R_alloc | apply Kd.R_drewN | apply Kd.R_drew)); exact HO140.out) (by decide)) hk (fun _ h => h.2)) (fun _ h => h.1))
      have n1_ := Aside0.mk (KeepSt.blk hk (g' := gb157) (o := .cells #[.int .i64 t143, .int .i64 t144, .int .i64 t145, .int .i64 t146, .int .i64 t147, .int .i64 t148, .int .i64 t149, .int .i64 t150, .int .i64 t151, .int .i64 t152, .int .i64 t153, .int .i64 t154, .int .i64 t155] 31 (0, 0)) (by (with_reducible repeat (first | refine blk_drewN ?_ _ | refine blk_drew ?_ | refine blk_alloc ?_ _)); exact BK157.out) NB157_137.out rfl)
      have n2_ := Aside0.mk (KeepSt.blk hk (g' := gb176) (o := .cells #[.int .i64 0, .int .i64 0, .int .i64 0, .int .i64 0, .int .i64 0, .int .i64 0, .int .i64 0, .int .i64 0, .int .i64 0, .int .i64 0, .int .i64 0, .int .i64 0, .int .i64 0] 31 (0, 0)) (by (with_reducible repeat (first | refine blk_drewN ?_ _ | refine blk_drew ?_ | refine blk_alloc ?_ _)); exact BK176.out) NB176_137.out rfl)
      have n3_ := Aside0.mk (hb)
      have n4_ := Aside0.mk (hi)
      clear HO140
      clear BK157
      clear BK176
      clear HB
      clear HI137
      have HO140 := n0_
      have BK157 := n1_
      have BK176 := n2_
      have HB := n3_
      have HI137 := n4_
      clear n0_ n1_ n2_ n3_ n4_
      (try clear hb)
      (try clear hb2)
      (try clear hk)
      (try clear hi)
      refine hK.out _ _ ⟨(blk_cell BK157.out 0).trans rfl, (blk_cell BK157.out 1).trans rfl, (blk_cell BK157.out 2).trans rfl, (blk_cell BK157.out 3).trans rfl, (blk_cell BK157.out 4).trans rfl, (blk_cell BK157.out 5).trans rfl, (blk_cell BK157.out 6).trans rfl, (blk_cell BK157.out 7).trans rfl, (blk_cell BK157.out 8).trans rfl, (blk_cell BK157.out 9).trans rfl, (blk_cell BK157.out 10).trans rfl, (blk_cell BK157.out 11).trans rfl, (blk_cell BK157.out 12).trans rfl⟩ (fun hHeld => ?_)
      clear hK K
      refine norm_ (a' := ?_) ?_ ?_
      rotate_left
      ·
       show Act.put _ (some 21) _ = _
       simp only [Act.put, List.setIfInBounds_toArray, List.set_cons_zero, List.set_cons_succ, i64_w, i32_w]
       rfl
      refine one_ (i := 6) (N := some 22) #[true,true,true,true,true,true,true,false,true,false] rfl rfl (one_of HT_.out (by kernel_rfl)) (by decide) (fun K hK => ?_)
      refine goes_ Tryd.func13 (by kernel_rfl) rfl #[.pointer (some ⟨g137, 0, none⟩), .string (⟨#[112, 115, 107]⟩ : ByteArray), .int .i64 t158, .int .i64 3] (by rfl) rfl rfl (by (try simp only [List.map_toArray, List.map_cons, List.map_nil]); first | done | rfl | (simp only [List.length_drop, List.length_take]; rfl)) ?_
      with_reducible refine (term_Store_Kdf.calls g137 t159 (⟨#[112, 115, 107]⟩ : ByteArray) t158 3 t160 t161 w _ ?side1 ?side2 A5.out).mono ?_
      (case side1 => repeat (first | (with_reducible first | exact HI137.out | apply IsS80.alloc | apply IsS80.drewN | apply IsS80.drew | apply IsS80.set_0 | (focus (refine IsS80.far ?_ ?_ _; rotate_left; (focus ((repeat (first | (with_reducible exact Nsty.of BK157.out rfl) | apply Nsty.set | apply Nsty.drewN | apply Nsty.drew | apply Nsty.alloc)); done)))) | (focus (refine IsS80.far ?_ ?_ _; rotate_left; (focus ((repeat (first | (with_reducible exact Nsty.of BK176.out rfl) | apply Nsty.set | apply Nsty.drewN | apply Nsty.drew | apply Nsty.alloc)); done))))) | exact HI137.out))
      (case side2 => repeat (first | (with_reducible first | exact HB.out | apply below_alloc | apply pw_below_drewN | apply below_drew1 | refine below_set ?_ (IsS80.ge HI137.out) | refine below_set ?_ GE157.out | refine below_set ?_ GE176.out) | exact HB.out))
      rintro e w55 ⟨rfl, hi, hb, hk⟩
      refine ⟨_, rfl, ?_⟩
      have n0_ := Aside0.mk (Kd.R_mono (Kd.R_keepSt (IsS80.apart (show IsS80 w _ g137 t159 from by repeat (first | (with_reducible first | exact HI137.out | apply IsS80.alloc | apply IsS80.drewN | apply IsS80.drew | apply IsS80.set_0 | (focus (refine IsS80.far ?_ ?_ _; rotate_left; (focus ((repeat (first | (with_reducible exact Nsty.of BK157.out rfl) | apply Nsty.set | apply Nsty.drewN | apply Nsty.drew | apply Nsty.alloc)); done)))) | (focus (refine IsS80.far ?_ ?_ _; rotate_left; (focus ((repeat (first | (with_reducible exact Nsty.of BK176.out rfl) | apply Nsty.set | apply Nsty.drewN | apply Nsty.drew | apply Nsty.alloc)); done))))) | exact HI137.out)) (by (with_reducible repeat (first | apply Kd.R_alloc | apply Kd.R_drewN | apply Kd.R_drew)); exact HO140.out) (by decide)) hk (fun _ h => h.2)) (fun _ h => h.1))
      have n1_ := Aside0.mk (KeepSt.blk hk (g' := gb157) (o := .cells #[.int .i64 t143, .int .i64 t144, .int .i64 t145, .int .i64 t146, .int .i64 t147, .int .i64 t148, .int .i64 t149, .int .i64 t150, .int .i64 t151, .int .i64 t152, .int .i64 t153, .int .i64 t154, .int .i64 t155] 31 (0, 0)) (by (with_reducible repeat (first | refine blk_drewN ?_ _ | refine blk_drew ?_ | refine blk_alloc ?_ _)); exact BK157.out) NB157_137.out rfl)
      have n2_ := Aside0.mk (KeepSt.blk hk (g' := gb176) (o := .cells #[.int .i64 0, .int .i64 0, .int .i64 0, .int .i64 0, .int .i64 0, .int .i64 0, .int .i64 0, .int .i64 0, .int .i64 0, .int .i64 0, .int .i64 0, .int .i64 0, .int .i64 0] 31 (0, 0)) (by (with_reducible repeat (first | refine blk_drewN ?_ _ | refine blk_drew ?_ | refine blk_alloc ?_ _)); exact BK176.out) NB176_137.out rfl)
      have n3_ := Aside0.mk (hb)
      have n4_ := Aside0.mk (hi)
      clear HO140
      clear BK157
      clear BK176
      clear HB
      clear HI137
      have HO140 := n0_
      have BK157 := n1_
      have BK176 := n2_
      have HB := n3_
      have HI137 := n4_
      clear n0_ n1_ n2_ n3_ n4_
      (try clear hb)
      (try clear hb2)
      (try clear hk)
      (try clear hi)
      refine hK.out _ _ ⟨(blk_cell BK157.out 0).trans rfl, (blk_cell BK157.out 1).trans rfl, (blk_cell BK157.out 2).trans rfl, (blk_cell BK157.out 3).trans rfl, (blk_cell BK157.out 4).trans rfl, (blk_cell BK157.out 5).trans rfl, (blk_cell BK157.out 6).trans rfl, (blk_cell BK157.out 7).trans rfl, (blk_cell BK157.out 8).trans rfl, (blk_cell BK157.out 9).trans rfl, (blk_cell BK157.out 10).trans rfl, (blk_cell BK157.out 11).trans rfl, (blk_cell BK157.out 12).trans rfl⟩ (fun hHeld => ?_)
      clear hK K
      refine norm_ (a' := ?_) ?_ ?_
      rotate_left
      ·
       show Act.put _ (some 22) _ = _
       simp only [Act.put, List.setIfInBounds_toArray, List.set_cons_zero, List.set_cons_succ, i64_w, i32_w]
       rfl
      refine one_ (i := 7) (N := some 23) #[true,true,true,true,true,true,true,true,true,false] rfl rfl (one_of HT_.out (by kernel_rfl)) (by decide) (fun K hK => ?_)
      refine goes_ Tryd.func12 (by kernel_rfl) rfl #[.pointer (some ⟨g137, 0, none⟩), .int .i64 t143, .int .i64 t160, .int .i64 4] (by rfl) rfl rfl (by (try simp only [List.map_toArray, List.map_cons, List.map_nil]); first | done | rfl | (simp only [List.length_drop, List.length_take]; rfl)) ?_
      with_reducible refine (schedule_Join.calls g137 t161 t143 t160 4 t162 t163 t164 t165 t166 t167 t168 t169 t170 t171 t172 t173 t174 t175 w _ ?side1 ?side2 A6.out).mono ?_
      (case side1 => repeat (first | (with_reducible first | exact HI137.out | apply IsS80.alloc | apply IsS80.drewN | apply IsS80.drew | apply IsS80.set_0 | (focus (refine IsS80.far ?_ ?_ _; rotate_left; (focus ((repeat (first | (with_reducible exact Nsty.of BK157.out rfl) | apply Nsty.set | apply Nsty.drewN | apply Nsty.drew | apply Nsty.alloc)); done)))) | (focus (refine IsS80.far ?_ ?_ _; rotate_left; (focus ((repeat (first | (with_reducible exact Nsty.of BK176.out rfl) | apply Nsty.set | apply Nsty.drewN | apply Nsty.drew | apply Nsty.alloc)); done))))) | exact HI137.out))
      (case side2 => repeat (first | (with_reducible first | exact HB.out | apply below_alloc | apply pw_below_drewN | apply below_drew1 | refine below_set ?_ (IsS80.ge HI137.out) | refine below_set ?_ GE157.out | refine below_set ?_ GE176.out) | exact HB.out))
      rintro e w56 ⟨rfl, hi, hb, hk⟩
      refine ⟨_, rfl, ?_⟩
      have n0_ := Aside0.mk (Kd.R_mono (Kd.R_keepSt (IsS80.apart (show IsS80 w _ g137 t161 from by repeat (first | (with_reducible first | exact HI137.out | apply IsS80.alloc | apply IsS80.drewN | apply IsS80.drew | apply IsS80.set_0 | (focus (refine IsS80.far ?_ ?_ _; rotate_left; (focus ((repeat (first | (with_reducible exact Nsty.of BK157.out rfl) | apply Nsty.set | apply Nsty.drewN | apply Nsty.drew | apply Nsty.alloc)); done)))) | (focus (refine IsS80.far ?_ ?_ _; rotate_left; (focus ((repeat (first | (with_reducible exact Nsty.of BK176.out rfl) | apply Nsty.set | apply Nsty.drewN | apply Nsty.drew | apply Nsty.alloc)); done))))) | exact HI137.out)) (by (with_reducible repeat (first | apply Kd.R_alloc | apply Kd.R_drewN | apply Kd.R_drew)); exact HO140.out) (by decide)) hk (fun _ h => h.2)) (fun _ h => h.1))
      have n1_ := Aside0.mk (KeepSt.blk hk (g' := gb157) (o := .cells #[.int .i64 t143, .int .i64 t144, .int .i64 t145, .int .i64 t146, .int .i64 t147, .int .i64 t148, .int .i64 t149, .int .i64 t150, .int .i64 t151, .int .i64 t152, .int .i64 t153, .int .i64 t154, .int .i64 t155] 31 (0, 0)) (by (with_reducible repeat (first | refine blk_drewN ?_ _ | refine blk_drew ?_ | refine blk_alloc ?_ _)); exact BK157.out) NB157_137.out rfl)
      have n2_ := Aside0.mk (KeepSt.blk hk (g' := gb176) (o := .cells #[.int .i64 0, .int .i64 0, .int .i64 0, .int .i64 0, .int .i64 0, .int .i64 0, .int .i64 0, .int .i64 0, .int .i64 0, .int .i64 0, .int .i64 0, .int .i64 0, .int .i64 0] 31 (0, 0)) (by (with_reducible repeat (first | refine blk_drewN ?_ _ | refine blk_drew ?_ | refine blk_alloc ?_ _)); exact BK176.out) NB176_137.out rfl)
      have n3_ := Aside0.mk (hb)
      have n4_ := Aside0.mk (hi)
      clear HO140
      clear BK157
      clear BK176
      clear HB
      clear HI137
      have HO140 := n0_
      have BK157 := n1_
      have BK176 := n2_
      have HB := n3_
      have HI137 := n4_
      clear n0_ n1_ n2_ n3_ n4_
      (try clear hb)
      (try clear hb2)
      (try clear hk)
      (try clear hi)
      refine hK.out _ _ ⟨(blk_cell BK157.out 0).trans rfl, (blk_cell BK157.out 1).trans rfl, (blk_cell BK157.out 2).trans rfl, (blk_cell BK157.out 3).trans rfl, (blk_cell BK157.out 4).trans rfl, (blk_cell BK157.out 5).trans rfl, (blk_cell BK157.out 6).trans rfl, (blk_cell BK157.out 7).trans rfl, (blk_cell BK157.out 8).trans rfl, (blk_cell BK157.out 9).trans rfl, (blk_cell BK157.out 10).trans rfl, (blk_cell BK157.out 11).trans rfl, (blk_cell BK157.out 12).trans rfl⟩ (fun hHeld => ?_)
      clear hK K
      refine norm_ (a' := ?_) ?_ ?_
      rotate_left
      ·
       show Act.put _ (some 23) _ = _
       simp only [Act.put, List.setIfInBounds_toArray, List.set_cons_zero, List.set_cons_succ, i64_w, i32_w]
       rfl
      exact norm_ (by simp only [putAll, Act.put, List.setIfInBounds_toArray, List.set_cons_zero, List.set_cons_succ]) (hCont (gb176) _ ⟨hHeld, (by (with_reducible repeat (first | apply Kd.R_alloc | apply Kd.R_drewN | apply Kd.R_drew)); exact HO140.out), (by (with_reducible repeat (first | refine blk_drewN ?_ _ | refine blk_drew ?_ | refine blk_alloc ?_ _)); exact BK157.out), (by (with_reducible repeat (first | refine blk_drewN ?_ _ | refine blk_drew ?_ | refine blk_alloc ?_ _)); exact BK176.out), GW176.out, GE176.out, NB137_176.out, NB176_137.out, NB157_176.out, NB176_157.out, (by repeat (first | (with_reducible first | exact HI137.out | apply IsS80.alloc | apply IsS80.drewN | apply IsS80.drew | apply IsS80.set_0 | (focus (refine IsS80.far ?_ ?_ _; rotate_left; (focus ((repeat (first | (with_reducible exact Nsty.of BK157.out rfl) | apply Nsty.set | apply Nsty.drewN | apply Nsty.drew | apply Nsty.alloc)); done)))) | (focus (refine IsS80.far ?_ ?_ _; rotate_left; (focus ((repeat (first | (with_reducible exact Nsty.of BK176.out rfl) | apply Nsty.set | apply Nsty.drewN | apply Nsty.drew | apply Nsty.alloc)); done))))) | exact HI137.out)), (by repeat (first | (with_reducible first | exact HB.out | apply below_alloc | apply pw_below_drewN | apply below_drew1 | refine below_set ?_ (IsS80.ge HI137.out) | refine below_set ?_ GE157.out | refine below_set ?_ GE176.out) | exact HB.out))⟩)
    rintro gb176 w57 ⟨hS_, h0_, h1_, h2_, h3_, h4_, h5_, h6_, h7_, h8_, h9_, h10_⟩
    have n0_ : Aside0 (Kd.R (Kd.int .i64) 3 w57 w.heap.size (fun _ => True) (.slice Ao45 y138.length co45) y138) := ⟨h0_⟩
    have n1_ : Aside0 (w57.heap[gb157]? = some (.cells #[.int .i64 t143, .int .i64 t144, .int .i64 t145, .int .i64 t146, .int .i64 t147, .int .i64 t148, .int .i64 t149, .int .i64 t150, .int .i64 t151, .int .i64 t152, .int .i64 t153, .int .i64 t154, .int .i64 t155] 31 (0, 0))) := ⟨h1_⟩
    have n2_ : Aside0 (w57.heap[gb176]? = some (.cells #[.int .i64 0, .int .i64 0, .int .i64 0, .int .i64 0, .int .i64 0, .int .i64 0, .int .i64 0, .int .i64 0, .int .i64 0, .int .i64 0, .int .i64 0, .int .i64 0, .int .i64 0] 31 (0, 0))) := ⟨h2_⟩
    have n3_ : Aside0 (w.heap.size ≤ gb176) := ⟨h3_⟩
    have n4_ : Aside0 (w.heap.size ≤ gb176) := ⟨h4_⟩
    have n5_ : Aside0 (g137 ≠ gb176) := ⟨h5_⟩
    have n6_ : Aside0 (gb176 ≠ g137) := ⟨h6_⟩
    have n7_ : Aside0 (gb157 ≠ gb176) := ⟨h7_⟩
    have n8_ : Aside0 (gb176 ≠ gb157) := ⟨h8_⟩
    have n9_ : Aside0 (IsS80 w w57 g137 t175) := ⟨h9_⟩
    have n10_ : Aside0 (Below w.heap.size w w57) := ⟨h10_⟩
    clear HO140
    clear BK157
    clear HI137
    clear HB
    clear h0_ h1_ h2_ h3_ h4_ h5_ h6_ h7_ h8_ h9_ h10_
    have HO140 := n0_
    have BK157 := n1_
    have BK176 := n2_
    have GW176 := n3_
    have GE176 := n4_
    have NB137_176 := n5_
    have NB176_137 := n6_
    have NB157_176 := n7_
    have NB176_157 := n8_
    have HI137 := n9_
    have HB := n10_
    clear n0_ n1_ n2_ n3_ n4_ n5_ n6_ n7_ n8_ n9_ n10_
    have hHeld : w57.cell? ⟨gb157, 0, none⟩ = some (.int .i64 t143) ∧ w57.cell? ⟨gb157, 1, none⟩ = some (.int .i64 t144) ∧ w57.cell? ⟨gb157, 2, none⟩ = some (.int .i64 t145) ∧ w57.cell? ⟨gb157, 3, none⟩ = some (.int .i64 t146) ∧ w57.cell? ⟨gb157, 4, none⟩ = some (.int .i64 t147) ∧ w57.cell? ⟨gb157, 5, none⟩ = some (.int .i64 t148) ∧ w57.cell? ⟨gb157, 6, none⟩ = some (.int .i64 t149) ∧ w57.cell? ⟨gb157, 7, none⟩ = some (.int .i64 t150) ∧ w57.cell? ⟨gb157, 8, none⟩ = some (.int .i64 t151) ∧ w57.cell? ⟨gb157, 9, none⟩ = some (.int .i64 t152) ∧ w57.cell? ⟨gb157, 10, none⟩ = some (.int .i64 t153) ∧ w57.cell? ⟨gb157, 11, none⟩ = some (.int .i64 t154) ∧ w57.cell? ⟨gb157, 12, none⟩ = some (.int .i64 t155) := hS_
    refine norm_ (a' := ?_) ?_ ?_
    rotate_left
    ·
     simp only [putAll, Act.put, List.setIfInBounds_toArray, List.set_cons_zero, List.set_cons_succ]
     rfl
    refine one_ (i := 9) (N := none) #[true,true,true,true,true,true,true,true,true,true] rfl rfl (one_of HT_.out (by kernel_rfl)) (by decide) (fun K hK => ?_)
    have hs58 : w57.cell? ⟨gb176, 0, none⟩ = some (.int .i64 0) := (blk_cell BK176.out 0).trans rfl
    have hfs58 := blk_frozen BK176.out 0
    have hns58_0 := NB157_176.out
    have hms58_0 := NB176_157.out
    have hs59 : w57.cell? ⟨gb176, 1, none⟩ = some (.int .i64 0) := (blk_cell BK176.out 1).trans rfl
    have hfs59 := blk_frozen BK176.out 1
    have hns59_0 := NB157_176.out
    have hms59_0 := NB176_157.out
    have hs60 : w57.cell? ⟨gb176, 2, none⟩ = some (.int .i64 0) := (blk_cell BK176.out 2).trans rfl
    have hfs60 := blk_frozen BK176.out 2
    have hns60_0 := NB157_176.out
    have hms60_0 := NB176_157.out
    have hs61 : w57.cell? ⟨gb176, 3, none⟩ = some (.int .i64 0) := (blk_cell BK176.out 3).trans rfl
    have hfs61 := blk_frozen BK176.out 3
    have hns61_0 := NB157_176.out
    have hms61_0 := NB176_157.out
    have hs62 : w57.cell? ⟨gb176, 4, none⟩ = some (.int .i64 0) := (blk_cell BK176.out 4).trans rfl
    have hfs62 := blk_frozen BK176.out 4
    have hns62_0 := NB157_176.out
    have hms62_0 := NB176_157.out
    have hs63 : w57.cell? ⟨gb176, 5, none⟩ = some (.int .i64 0) := (blk_cell BK176.out 5).trans rfl
    have hfs63 := blk_frozen BK176.out 5
    have hns63_0 := NB157_176.out
    have hms63_0 := NB176_157.out
    have hs64 : w57.cell? ⟨gb176, 6, none⟩ = some (.int .i64 0) := (blk_cell BK176.out 6).trans rfl
    have hfs64 := blk_frozen BK176.out 6
    have hns64_0 := NB157_176.out
    have hms64_0 := NB176_157.out
    have hs65 : w57.cell? ⟨gb176, 7, none⟩ = some (.int .i64 0) := (blk_cell BK176.out 7).trans rfl
    have hfs65 := blk_frozen BK176.out 7
    have hns65_0 := NB157_176.out
    have hms65_0 := NB176_157.out
    have hs66 : w57.cell? ⟨gb176, 8, none⟩ = some (.int .i64 0) := (blk_cell BK176.out 8).trans rfl
    have hfs66 := blk_frozen BK176.out 8
    have hns66_0 := NB157_176.out
    have hms66_0 := NB176_157.out
    have hs67 : w57.cell? ⟨gb176, 9, none⟩ = some (.int .i64 0) := (blk_cell BK176.out 9).trans rfl
    have hfs67 := blk_frozen BK176.out 9
    have hns67_0 := NB157_176.out
    have hms67_0 := NB176_157.out
    have hs68 : w57.cell? ⟨gb176, 10, none⟩ = some (.int .i64 0) := (blk_cell BK176.out 10).trans rfl
    have hfs68 := blk_frozen BK176.out 10
    have hns68_0 := NB157_176.out
    have hms68_0 := NB176_157.out
    have hs69 : w57.cell? ⟨gb176, 11, none⟩ = some (.int .i64 0) := (blk_cell BK176.out 11).trans rfl
    have hfs69 := blk_frozen BK176.out 11
    have hns69_0 := NB157_176.out
    have hms69_0 := NB176_157.out
    have hs70 : w57.cell? ⟨gb176, 12, none⟩ = some (.int .i64 0) := (blk_cell BK176.out 12).trans rfl
    have hfs70 := blk_frozen BK176.out 12
    have hns70_0 := NB157_176.out
    have hms70_0 := NB176_157.out
    refine skip_ (w1 := ?_) (by rfl) rfl ?_ ?_
    rotate_left
    ·
     go_simp
     rfl
    refine hK.out _ _ ⟨((cell_far (p := ⟨gb176, _, none⟩) NB157_176.out _).trans (((cell_far (p := ⟨gb176, _, none⟩) NB157_176.out _).trans (((cell_far (p := ⟨gb176, _, none⟩) NB157_176.out _).trans (((cell_far (p := ⟨gb176, _, none⟩) NB157_176.out _).trans (((cell_far (p := ⟨gb176, _, none⟩) NB157_176.out _).trans (((cell_far (p := ⟨gb176, _, none⟩) NB157_176.out _).trans (((cell_far (p := ⟨gb176, _, none⟩) NB157_176.out _).trans (((cell_far (p := ⟨gb176, _, none⟩) NB157_176.out _).trans (((cell_far (p := ⟨gb176, _, none⟩) NB157_176.out _).trans (((cell_far (p := ⟨gb176, _, none⟩) NB157_176.out _).trans (((cell_far (p := ⟨gb176, _, none⟩) NB157_176.out _).trans (((cell_far (p := ⟨gb176, _, none⟩) NB157_176.out _).trans (((cell_far (p := ⟨gb176, _, none⟩) NB157_176.out _).trans (hHeld.1)))))))))))))))))))))))))), ((cell_far (p := ⟨gb176, _, none⟩) NB157_176.out _).trans (((cell_far (p := ⟨gb176, _, none⟩) NB157_176.out _).trans (((cell_far (p := ⟨gb176, _, none⟩) NB157_176.out _).trans (((cell_far (p := ⟨gb176, _, none⟩) NB157_176.out _).trans (((cell_far (p := ⟨gb176, _, none⟩) NB157_176.out _).trans (((cell_far (p := ⟨gb176, _, none⟩) NB157_176.out _).trans (((cell_far (p := ⟨gb176, _, none⟩) NB157_176.out _).trans (((cell_far (p := ⟨gb176, _, none⟩) NB157_176.out _).trans (((cell_far (p := ⟨gb176, _, none⟩) NB157_176.out _).trans (((cell_far (p := ⟨gb176, _, none⟩) NB157_176.out _).trans (((cell_far (p := ⟨gb176, _, none⟩) NB157_176.out _).trans (((cell_far (p := ⟨gb176, _, none⟩) NB157_176.out _).trans (((cell_far (p := ⟨gb176, _, none⟩) NB157_176.out _).trans (hHeld.2.1)))))))))))))))))))))))))), ((cell_far (p := ⟨gb176, _, none⟩) NB157_176.out _).trans (((cell_far (p := ⟨gb176, _, none⟩) NB157_176.out _).trans (((cell_far (p := ⟨gb176, _, none⟩) NB157_176.out _).trans (((cell_far (p := ⟨gb176, _, none⟩) NB157_176.out _).trans (((cell_far (p := ⟨gb176, _, none⟩) NB157_176.out _).trans (((cell_far (p := ⟨gb176, _, none⟩) NB157_176.out _).trans (((cell_far (p := ⟨gb176, _, none⟩) NB157_176.out _).trans (((cell_far (p := ⟨gb176, _, none⟩) NB157_176.out _).trans (((cell_far (p := ⟨gb176, _, none⟩) NB157_176.out _).trans (((cell_far (p := ⟨gb176, _, none⟩) NB157_176.out _).trans (((cell_far (p := ⟨gb176, _, none⟩) NB157_176.out _).trans (((cell_far (p := ⟨gb176, _, none⟩) NB157_176.out _).trans (((cell_far (p := ⟨gb176, _, none⟩) NB157_176.out _).trans (hHeld.2.2.1)))))))))))))))))))))))))), ((cell_far (p := ⟨gb176, _, none⟩) NB157_176.out _).trans (((cell_far (p := ⟨gb176, _, none⟩) NB157_176.out _).trans (((cell_far (p := ⟨gb176, _, none⟩) NB157_176.out _).trans (((cell_far (p := ⟨gb176, _, none⟩) NB157_176.out _).trans (((cell_far (p := ⟨gb176, _, none⟩) NB157_176.out _).trans (((cell_far (p := ⟨gb176, _, none⟩) NB157_176.out _).trans (((cell_far (p := ⟨gb176, _, none⟩) NB157_176.out _).trans (((cell_far (p := ⟨gb176, _, none⟩) NB157_176.out _).trans (((cell_far (p := ⟨gb176, _, none⟩) NB157_176.out _).trans (((cell_far (p := ⟨gb176, _, none⟩) NB157_176.out _).trans (((cell_far (p := ⟨gb176, _, none⟩) NB157_176.out _).trans (((cell_far (p := ⟨gb176, _, none⟩) NB157_176.out _).trans (((cell_far (p := ⟨gb176, _, none⟩) NB157_176.out _).trans (hHeld.2.2.2.1)))))))))))))))))))))))))), ((cell_far (p := ⟨gb176, _, none⟩) NB157_176.out _).trans (((cell_far (p := ⟨gb176, _, none⟩) NB157_176.out _).trans (((cell_far (p := ⟨gb176, _, none⟩) NB157_176.out _).trans (((cell_far (p := ⟨gb176, _, none⟩) NB157_176.out _).trans (((cell_far (p := ⟨gb176, _, none⟩) NB157_176.out _).trans (((cell_far (p := ⟨gb176, _, none⟩) NB157_176.out _).trans (((cell_far (p := ⟨gb176, _, none⟩) NB157_176.out _).trans (((cell_far (p := ⟨gb176, _, none⟩) NB157_176.out _).trans (((cell_far (p := ⟨gb176, _, none⟩) NB157_176.out _).trans (((cell_far (p := ⟨gb176, _, none⟩) NB157_176.out _).trans (((cell_far (p := ⟨gb176, _, none⟩) NB157_176.out _).trans (((cell_far (p := ⟨gb176, _, none⟩) NB157_176.out _).trans (((cell_far (p := ⟨gb176, _, none⟩) NB157_176.out _).trans (hHeld.2.2.2.2.1)))))))))))))))))))))))))), ((cell_far (p := ⟨gb176, _, none⟩) NB157_176.out _).trans (((cell_far (p := ⟨gb176, _, none⟩) NB157_176.out _).trans (((cell_far (p := ⟨gb176, _, none⟩) NB157_176.out _).trans (((cell_far (p := ⟨gb176, _, none⟩) NB157_176.out _).trans (((cell_far (p := ⟨gb176, _, none⟩) NB157_176.out _).trans (((cell_far (p := ⟨gb176, _, none⟩) NB157_176.out _).trans (((cell_far (p := ⟨gb176, _, none⟩) NB157_176.out _).trans (((cell_far (p := ⟨gb176, _, none⟩) NB157_176.out _).trans (((cell_far (p := ⟨gb176, _, none⟩) NB157_176.out _).trans (((cell_far (p := ⟨gb176, _, none⟩) NB157_176.out _).trans (((cell_far (p := ⟨gb176, _, none⟩) NB157_176.out _).trans (((cell_far (p := ⟨gb176, _, none⟩) NB157_176.out _).trans (((cell_far (p := ⟨gb176, _, none⟩) NB157_176.out _).trans (hHeld.2.2.2.2.2.1)))))))))))))))))))))))))), ((cell_far (p := ⟨gb176, _, none⟩) NB157_176.out _).trans (((cell_far (p := ⟨gb176, _, none⟩) NB157_176.out _).trans (((cell_far (p := ⟨gb176, _, none⟩) NB157_176.out _).trans (((cell_far (p := ⟨gb176, _, none⟩) NB157_176.out _).trans (((cell_far (p := ⟨gb176, _, none⟩) NB157_176.out _).trans (((cell_far (p := ⟨gb176, _, none⟩) NB157_176.out _).trans (((cell_far (p := ⟨gb176, _, none⟩) NB157_176.out _).trans (((cell_far (p := ⟨gb176, _, none⟩) NB157_176.out _).trans (((cell_far (p := ⟨gb176, _, none⟩) NB157_176.out _).trans (((cell_far (p := ⟨gb176, _, none⟩) NB157_176.out _).trans (((cell_far (p := ⟨gb176, _, none⟩) NB157_176.out _).trans (((cell_far (p := ⟨gb176, _, none⟩) NB157_176.out _).trans (((cell_far (p := ⟨gb176, _, none⟩) NB157_176.out _).trans (hHeld.2.2.2.2.2.2.1)))))))))))))))))))))))))), ((cell_far (p := ⟨gb176, _, none⟩) NB157_176.out _).trans (((cell_far (p := ⟨gb176, _, none⟩) NB157_176.out _).trans (((cell_far (p := ⟨gb176, _, none⟩) NB157_176.out _).trans (((cell_far (p := ⟨gb176, _, none⟩) NB157_176.out _).trans (((cell_far (p := ⟨gb176, _, none⟩) NB157_176.out _).trans (((cell_far (p := ⟨gb176, _, none⟩) NB157_176.out _).trans (((cell_far (p := ⟨gb176, _, none⟩) NB157_176.out _).trans (((cell_far (p := ⟨gb176, _, none⟩) NB157_176.out _).trans (((cell_far (p := ⟨gb176, _, none⟩) NB157_176.out _).trans (((cell_far (p := ⟨gb176, _, none⟩) NB157_176.out _).trans (((cell_far (p := ⟨gb176, _, none⟩) NB157_176.out _).trans (((cell_far (p := ⟨gb176, _, none⟩) NB157_176.out _).trans (((cell_far (p := ⟨gb176, _, none⟩) NB157_176.out _).trans (hHeld.2.2.2.2.2.2.2.1)))))))))))))))))))))))))), ((cell_far (p := ⟨gb176, _, none⟩) NB157_176.out _).trans (((cell_far (p := ⟨gb176, _, none⟩) NB157_176.out _).trans (((cell_far (p := ⟨gb176, _, none⟩) NB157_176.out _).trans (((cell_far (p := ⟨gb176, _, none⟩) NB157_176.out _).trans (((cell_far (p := ⟨gb176, _, none⟩) NB157_176.out _).trans (((cell_far (p := ⟨gb176, _, none⟩) NB157_176.out _).trans (((cell_far (p := ⟨gb176, _, none⟩) NB157_176.out _).trans (((cell_far (p := ⟨gb176, _, none⟩) NB157_176.out _).trans (((cell_far (p := ⟨gb176, _, none⟩) NB157_176.out _).trans (((cell_far (p := ⟨gb176, _, none⟩) NB157_176.out _).trans (((cell_far (p := ⟨gb176, _, none⟩) NB157_176.out _).trans (((cell_far (p := ⟨gb176, _, none⟩) NB157_176.out _).trans (((cell_far (p := ⟨gb176, _, none⟩) NB157_176.out _).trans (hHeld.2.2.2.2.2.2.2.2.1)))))))))))))))))))))))))), ((cell_far (p := ⟨gb176, _, none⟩) NB157_176.out _).trans (((cell_far (p := ⟨gb176, _, none⟩) NB157_176.out _).trans (((cell_far (p := ⟨gb176, _, none⟩) NB157_176.out _).trans (((cell_far (p := ⟨gb176, _, none⟩) NB157_176.out _).trans (((cell_far (p := ⟨gb176, _, none⟩) NB157_176.out _).trans (((cell_far (p := ⟨gb176, _, none⟩) NB157_176.out _).trans (((cell_far (p := ⟨gb176, _, none⟩) NB157_176.out _).trans (((cell_far (p := ⟨gb176, _, none⟩) NB157_176.out _).trans (((cell_far (p := ⟨gb176, _, none⟩) NB157_176.out _).trans (((cell_far (p := ⟨gb176, _, none⟩) NB157_176.out _).trans (((cell_far (p := ⟨gb176, _, none⟩) NB157_176.out _).trans (((cell_far (p := ⟨gb176, _, none⟩) NB157_176.out _).trans (((cell_far (p := ⟨gb176, _, none⟩) NB157_176.out _).trans (hHeld.2.2.2.2.2.2.2.2.2.1)))))))))))))))))))))))))), ((cell_far (p := ⟨gb176, _, none⟩) NB157_176.out _).trans (((cell_far (p := ⟨gb176, _, none⟩) NB157_176.out _).trans (((cell_far (p := ⟨gb176, _, none⟩) NB157_176.out _).trans (((cell_far (p := ⟨gb176, _, none⟩) NB157_176.out _).trans (((cell_far (p := ⟨gb176, _, none⟩) NB157_176.out _).trans (((cell_far (p := ⟨gb176, _, none⟩) NB157_176.out _).trans (((cell_far (p := ⟨gb176, _, none⟩) NB157_176.out _).trans (((cell_far (p := ⟨gb176, _, none⟩) NB157_176.out _).trans (((cell_far (p := ⟨gb176, _, none⟩) NB157_176.out _).trans (((cell_far (p := ⟨gb176, _, none⟩) NB157_176.out _).trans (((cell_far (p := ⟨gb176, _, none⟩) NB157_176.out _).trans (((cell_far (p := ⟨gb176, _, none⟩) NB157_176.out _).trans (((cell_far (p := ⟨gb176, _, none⟩) NB157_176.out _).trans (hHeld.2.2.2.2.2.2.2.2.2.2.1)))))))))))))))))))))))))), ((cell_far (p := ⟨gb176, _, none⟩) NB157_176.out _).trans (((cell_far (p := ⟨gb176, _, none⟩) NB157_176.out _).trans (((cell_far (p := ⟨gb176, _, none⟩) NB157_176.out _).trans (((cell_far (p := ⟨gb176, _, none⟩) NB157_176.out _).trans (((cell_far (p := ⟨gb176, _, none⟩) NB157_176.out _).trans (((cell_far (p := ⟨gb176, _, none⟩) NB157_176.out _).trans (((cell_far (p := ⟨gb176, _, none⟩) NB157_176.out _).trans (((cell_far (p := ⟨gb176, _, none⟩) NB157_176.out _).trans (((cell_far (p := ⟨gb176, _, none⟩) NB157_176.out _).trans (((cell_far (p := ⟨gb176, _, none⟩) NB157_176.out _).trans (((cell_far (p := ⟨gb176, _, none⟩) NB157_176.out _).trans (((cell_far (p := ⟨gb176, _, none⟩) NB157_176.out _).trans (((cell_far (p := ⟨gb176, _, none⟩) NB157_176.out _).trans (hHeld.2.2.2.2.2.2.2.2.2.2.2.1)))))))))))))))))))))))))), ((cell_far (p := ⟨gb176, _, none⟩) NB157_176.out _).trans (((cell_far (p := ⟨gb176, _, none⟩) NB157_176.out _).trans (((cell_far (p := ⟨gb176, _, none⟩) NB157_176.out _).trans (((cell_far (p := ⟨gb176, _, none⟩) NB157_176.out _).trans (((cell_far (p := ⟨gb176, _, none⟩) NB157_176.out _).trans (((cell_far (p := ⟨gb176, _, none⟩) NB157_176.out _).trans (((cell_far (p := ⟨gb176, _, none⟩) NB157_176.out _).trans (((cell_far (p := ⟨gb176, _, none⟩) NB157_176.out _).trans (((cell_far (p := ⟨gb176, _, none⟩) NB157_176.out _).trans (((cell_far (p := ⟨gb176, _, none⟩) NB157_176.out _).trans (((cell_far (p := ⟨gb176, _, none⟩) NB157_176.out _).trans (((cell_far (p := ⟨gb176, _, none⟩) NB157_176.out _).trans (((cell_far (p := ⟨gb176, _, none⟩) NB157_176.out _).trans (hHeld.2.2.2.2.2.2.2.2.2.2.2.2))))))))))))))))))))))))))⟩ (fun hHeld => ?_)
    clear hK K
    refine done_ (done_of HT_.out (by kernel_rfl)) ?_
    have hnb71 := NB157_176.out
    have hnc71 := NB176_157.out
    have hcz72_0 : w57.cell? ⟨gb157, 0, none⟩ = some (.int .i64 t143) := (blk_cell BK157.out 0).trans rfl
    have hcz72_1 : w57.cell? ⟨gb157, 1, none⟩ = some (.int .i64 t144) := (blk_cell BK157.out 1).trans rfl
    have hcz72_2 : w57.cell? ⟨gb157, 2, none⟩ = some (.int .i64 t145) := (blk_cell BK157.out 2).trans rfl
    have hcz72_3 : w57.cell? ⟨gb157, 3, none⟩ = some (.int .i64 t146) := (blk_cell BK157.out 3).trans rfl
    have hcz72_4 : w57.cell? ⟨gb157, 4, none⟩ = some (.int .i64 t147) := (blk_cell BK157.out 4).trans rfl
    have hcz72_5 : w57.cell? ⟨gb157, 5, none⟩ = some (.int .i64 t148) := (blk_cell BK157.out 5).trans rfl
    have hcz72_6 : w57.cell? ⟨gb157, 6, none⟩ = some (.int .i64 t149) := (blk_cell BK157.out 6).trans rfl
    have hcz72_7 : w57.cell? ⟨gb157, 7, none⟩ = some (.int .i64 t150) := (blk_cell BK157.out 7).trans rfl
    have hcz72_8 : w57.cell? ⟨gb157, 8, none⟩ = some (.int .i64 t151) := (blk_cell BK157.out 8).trans rfl
    have hcz72_9 : w57.cell? ⟨gb157, 9, none⟩ = some (.int .i64 t152) := (blk_cell BK157.out 9).trans rfl
    have hcz72_10 : w57.cell? ⟨gb157, 10, none⟩ = some (.int .i64 t153) := (blk_cell BK157.out 10).trans rfl
    have hcz72_11 : w57.cell? ⟨gb157, 11, none⟩ = some (.int .i64 t154) := (blk_cell BK157.out 11).trans rfl
    have hcz72_12 : w57.cell? ⟨gb157, 12, none⟩ = some (.int .i64 t155) := (blk_cell BK157.out 12).trans rfl
    have hfz72_0 := blk_frozen BK157.out 0
    have hfz72_1 := blk_frozen BK157.out 1
    have hfz72_2 := blk_frozen BK157.out 2
    have hfz72_3 := blk_frozen BK157.out 3
    have hfz72_4 := blk_frozen BK157.out 4
    have hfz72_5 := blk_frozen BK157.out 5
    have hfz72_6 := blk_frozen BK157.out 6
    have hfz72_7 := blk_frozen BK157.out 7
    have hfz72_8 := blk_frozen BK157.out 8
    have hfz72_9 := blk_frozen BK157.out 9
    have hfz72_10 := blk_frozen BK157.out 10
    have hfz72_11 := blk_frozen BK157.out 11
    have hfz72_12 := blk_frozen BK157.out 12
    have hnb73 := NB176_137.out
    have hnc73 := NB137_176.out
    have hcz74_0 : w57.cell? ⟨gb176, 0, none⟩ = some (.int .i64 0) := (blk_cell BK176.out 0).trans rfl
    have hcz74_1 : w57.cell? ⟨gb176, 1, none⟩ = some (.int .i64 0) := (blk_cell BK176.out 1).trans rfl
    have hcz74_2 : w57.cell? ⟨gb176, 2, none⟩ = some (.int .i64 0) := (blk_cell BK176.out 2).trans rfl
    have hcz74_3 : w57.cell? ⟨gb176, 3, none⟩ = some (.int .i64 0) := (blk_cell BK176.out 3).trans rfl
    have hcz74_4 : w57.cell? ⟨gb176, 4, none⟩ = some (.int .i64 0) := (blk_cell BK176.out 4).trans rfl
    have hcz74_5 : w57.cell? ⟨gb176, 5, none⟩ = some (.int .i64 0) := (blk_cell BK176.out 5).trans rfl
    have hcz74_6 : w57.cell? ⟨gb176, 6, none⟩ = some (.int .i64 0) := (blk_cell BK176.out 6).trans rfl
    have hcz74_7 : w57.cell? ⟨gb176, 7, none⟩ = some (.int .i64 0) := (blk_cell BK176.out 7).trans rfl
    have hcz74_8 : w57.cell? ⟨gb176, 8, none⟩ = some (.int .i64 0) := (blk_cell BK176.out 8).trans rfl
    have hcz74_9 : w57.cell? ⟨gb176, 9, none⟩ = some (.int .i64 0) := (blk_cell BK176.out 9).trans rfl
    have hcz74_10 : w57.cell? ⟨gb176, 10, none⟩ = some (.int .i64 0) := (blk_cell BK176.out 10).trans rfl
    have hcz74_11 : w57.cell? ⟨gb176, 11, none⟩ = some (.int .i64 0) := (blk_cell BK176.out 11).trans rfl
    have hcz74_12 : w57.cell? ⟨gb176, 12, none⟩ = some (.int .i64 0) := (blk_cell BK176.out 12).trans rfl
    have hfz74_0 := blk_frozen BK176.out 0
    have hfz74_1 := blk_frozen BK176.out 1
    have hfz74_2 := blk_frozen BK176.out 2
    have hfz74_3 := blk_frozen BK176.out 3
    have hfz74_4 := blk_frozen BK176.out 4
    have hfz74_5 := blk_frozen BK176.out 5
    have hfz74_6 := blk_frozen BK176.out 6
    have hfz74_7 := blk_frozen BK176.out 7
    have hfz74_8 := blk_frozen BK176.out 8
    have hfz74_9 := blk_frozen BK176.out 9
    have hfz74_10 := blk_frozen BK176.out 10
    have hfz74_11 := blk_frozen BK176.out 11
    have hfz74_12 := blk_frozen BK176.out 12
    try go_wp2
    go_ret
    exact ⟨by first | rfl | (simp [errW_none, errW_some] <;> rfl) | (simp [*, errW_none, errW_some] <;> rfl), by repeat (first | (with_reducible first | exact HB.out | apply below_alloc | apply pw_below_drewN | apply below_drew1 | refine below_set ?_ (IsS80.ge HI137.out) | refine below_set ?_ GE157.out | refine below_set ?_ GE176.out) | exact HB.out)⟩
 ·
  rw [if_neg c7] at H
  exact absurd ((Option.some.inj H).trans hr) Bool.false_ne_true
end Go.Proofs.YteoamlnnaabomaaDoor.PSb
