/- What this claim reaches of a longer text of this session. -/
import Derived.Test.YteljmaebhjhedaaDoorPTwx0
import Derived.Test.YteljmaebhjhedaaDoorPTwx1
import Derived.Test.YteljmaebhjhedaaDoorPTwx2
import Derived.Test.YteljmaebhjhedaaDoorPTwx5
import Derived.Test.YteljmaebhjhedaaDoorPTwx6
import Derived.Test.YteljmaebhjhedaaDoorStW2
import Derived.Test.YteljmaebhjhedaaDoorRefLook
import Derived.Test.YteljmaebhjhedaaDoorStW2
import Derived.Test.YteljmaebhjhedaaDoorRef
import Derived.Test.YteljmaebhjhedaaDoorBase
import Derived.Shelf.Spec.TrailingZeros
import Derived.Lib.ItoaNum
import Derived.Lib.LaidTab
import Derived.Test.YteljmaebhjhedaaDoorShelf
import Derived.Test.YteljmaebhjhedaaDoorStW2
import Derived.Lib.ItoaNum
import Derived.Lib.LaidTab
namespace Go.Proofs.YteljmaebhjhedaaDoor.PTw
open Go.RowKit Go.Proofs.YteljmaebhjhedaaDoorW.PrintWords Go.Proofs.YteljmaebhjhedaaDoorW.PrintLast Go.Proofs.YteljmaebhjhedaaDoorW.PrintMore
attribute [local go_sem] max2_int min2_int max_two min_two max_three min_three max_four min_four   -- for this text's walks alone
set_option linter.unusedVariables false
set_option linter.unusedSimpArgs false
def conclaveref05_Number.f (k : Nat) (s0_0 : T2) (a1 : Int) : Option (Int × T2) := (conclaveref05_Digits.f k a1).bind fun t225 => ((conclaveref01_Store_Text.f s0_0 t225).bind fun bt226 => (some (bt226.1, bt226.2)))
theorem conclaveref05_Number.mono : ∀ a0 a1 k, LeO (conclaveref05_Number.f k a0 a1) (conclaveref05_Number.f (k + 1) a0 a1) := by
  intro a0 a1 k
  unfold conclaveref05_Number.f
  repeat' first
      | (with_reducible exact conclaveref05_Digits.mono _ _)
      | (with_reducible exact LeO.refl _)
      | (with_reducible exact LeO.none _)
      | (with_reducible refine LeO.ite ?_ ?_)
      | (with_reducible refine LeO.bind ?_ (fun _ => ?_))
      | exact conclaveref05_Digits.mono _ _
      | exact LeO.none _
      | refine LeO.ite ?_ ?_
      | refine LeO.bind ?_ (fun _ => ?_)
set_option maxHeartbeats 8000000 in
set_option maxRecDepth 100000 in
theorem conclaveref05_Number.calls (k : Nat) (g : Nat) (s0_0 : T2) (a1 : Int) (r1 : Int) (r2 : T2) (w0 w : World) (hI : IsS60 w0 w g s0_0) (hB : Below w0.heap.size w0 w) (h : conclaveref05_Number.f k s0_0 a1 = some (r1, r2)) :
    Calls Tryd.prog 44 #[.pointer (some ⟨g + 1, 0, none⟩), .int .i64 a1] w fun e w' => e = .returned (.int .i64 r1) ∧ IsS60 w0 w' g r2 ∧ Below w0.heap.size w0 w' ∧ KeepSt w w' w0 := by
  have HI0 := Aside0.mk hI
  have HK := Aside0.mk (KeepSt.refl w w0)
  have HL := Aside0.mk hB.size
  clear hI
  have HW0 := Aside0.mk hB.size
  have HB := Aside0.mk hB
  clear hB
  have H : ((conclaveref05_Digits.f k a1).bind fun t225 => ((conclaveref01_Store_Text.f s0_0 t225).bind fun bt226 => (some (bt226.1, bt226.2)))) = some (r1, r2) := h
  clear h
  replace H := Option.bind_eq_some_iff.mp H
  obtain ⟨t225, A30, H⟩ := H
  replace H : ((conclaveref01_Store_Text.f s0_0 t225).bind fun bt226 => (some (bt226.1, bt226.2))) = some (r1, r2) := H
  have A3 := Aside0.mk A30
  clear A30
  replace H := Option.bind_eq_some_iff.mp H
  obtain ⟨⟨t226, t227⟩, A40, H⟩ := H
  replace H : (some (t226, t227)) = some (r1, r2) := H
  have A4 := Aside0.mk A40
  clear A40
  simp only [Option.some.injEq, Prod.mk.injEq] at H
  obtain ⟨rfl, rfl⟩ := H
  go_enter Tryd.func44, Tryd.ntmps44
  go_wp2_with (first | ((with_reducible refine gate_callee (f := 51) rfl ?_); refine goesL_ (some 7) rfl rfl Tryd.func51 (by kernel_rfl) rfl #[.int .i64 a1] rfl (by (try simp only [List.map_toArray, List.map_cons, List.map_nil]); first | done | rfl | (simp only [List.length_drop, List.length_take]; rfl)) ?_; (with_reducible refine (conclaveref05_Digits.calls k a1 t225 _ A3.out).mono ?_); rintro e w5 ⟨rfl, hb⟩; refine ⟨_, rfl, ?_⟩; have n0_ := Aside0.mk (IsS60.below (by repeat (first | (with_reducible first | exact HI0.out | apply IsS60.alloc | apply IsS60.drewN | apply IsS60.drew | apply IsS60.set_0) | exact HI0.out)) hb); have n1_ := Aside0.mk (KeepSt.trans (by repeat (first | (with_reducible first | exact HK.out | apply KeepSt.drewN | apply KeepSt.drew | apply KeepSt.alloc) | exact HK.out)) (KeepSt.of_below hb w0)); have n2_ := Aside0.mk (below_step (by repeat (first | (with_reducible first | exact HB.out | apply below_alloc | apply pw_below_drewN | apply below_drew1 | refine below_set ?_ (IsS60.ge HI0.out)) | exact HB.out)) hb); clear HI0; clear HK; clear HB; have HI0 := n0_; have HK := n1_; have HB := n2_; clear n0_ n1_ n2_; (try clear hb); (try clear hb2); (try clear hk); (try clear hi)) | ((with_reducible refine gate_callee (f := 50) rfl ?_); refine goesL_ (some 8) rfl rfl Tryd.func50 (by kernel_rfl) rfl #[.pointer (some ⟨g + 1, 0, none⟩), .string t225] rfl (by (try simp only [List.map_toArray, List.map_cons, List.map_nil]); first | done | rfl | (simp only [List.length_drop, List.length_take]; rfl)) ?_; (with_reducible refine (conclaveref01_Store_Text.calls g s0_0 t225 t226 t227 w0 _ ?side1 ?side2 A4.out).mono ?_); (case side1 => repeat (first | (with_reducible first | exact HI0.out | apply IsS60.alloc | apply IsS60.drewN | apply IsS60.drew | apply IsS60.set_0) | exact HI0.out)); (case side2 => repeat (first | (with_reducible first | exact HB.out | apply below_alloc | apply pw_below_drewN | apply below_drew1 | refine below_set ?_ (IsS60.ge HI0.out)) | exact HB.out)); rintro e w6 ⟨rfl, hi, hb, hk⟩; refine ⟨_, rfl, ?_⟩; have n0_ := Aside0.mk (KeepSt.trans (by repeat (first | (with_reducible first | exact HK.out | apply KeepSt.drewN | apply KeepSt.drew | apply KeepSt.alloc) | exact HK.out)) hk); have n1_ := Aside0.mk (hb); have n2_ := Aside0.mk (hi); clear HK; clear HB; clear HI0; have HK := n0_; have HB := n1_; have HI0 := n2_; clear n0_ n1_ n2_; (try clear hb); (try clear hb2); (try clear hk); (try clear hi)))
  go_ret
  exact ⟨by first | rfl | (simp [errW_none, errW_some] <;> rfl) | (simp [*, errW_none, errW_some] <;> rfl), by repeat (first | (with_reducible first | exact HI0.out | apply IsS60.alloc | apply IsS60.drewN | apply IsS60.drew | apply IsS60.set_0) | exact HI0.out), by repeat (first | (with_reducible first | exact HB.out | apply below_alloc | apply pw_below_drewN | apply below_drew1 | refine below_set ?_ (IsS60.ge HI0.out)) | exact HB.out), by repeat (first | (with_reducible first | exact HK.out | apply KeepSt.drewN | apply KeepSt.drew | apply KeepSt.alloc) | exact HK.out)⟩
def conclaveref01_Store_Known.f (s0_0 : T2) (a1 : Int) : Option (Bool × T2) := some (knownB s0_0.r.nodes.length a1, s0_0)
theorem conclaveref01_Store_Known.calls (g : Nat) (s0_0 : T2) (a1 : Int) (r1 : Bool) (r2 : T2) (w0 w : World) (hI : IsS60 w0 w g s0_0) (hB : Below w0.heap.size w0 w) (h : conclaveref01_Store_Known.f s0_0 a1 = some (r1, r2)) :
    Calls Tryd.prog 31 #[.pointer (some ⟨g + 1, 0, none⟩), .int .i64 a1] w fun e w' => e = .returned (.bool r1) ∧ IsS60 w0 w' g r2 ∧ Below w0.heap.size w0 w' ∧ KeepSt w w' w0 := by
  cases h
  refine rt_look hI hB fun q h1 h2 h3 h4 => ?_
  have := rknown_calls h4 a1
  rw [Rf.ptr, h1, h2] at this
  refine this.mono ?_
  rintro e w' ⟨rfl, rfl⟩
  exact ⟨rfl, .refl _ _⟩
def conclaveref01_Store_Pair.f (s0_0 : T2) (a1 : Int) (a2 : Int) : Option (Int × T2) := some ((put s0_0.r ⟨3, ByteArray.empty, a1, a2⟩).1, ⟨s0_0.p, (put s0_0.r ⟨3, ByteArray.empty, a1, a2⟩).2⟩)
theorem conclaveref01_Store_Pair.calls (g : Nat) (s0_0 : T2) (a1 : Int) (a2 : Int) (r1 : Int) (r2 : T2) (w0 w : World) (hI : IsS60 w0 w g s0_0) (hB : Below w0.heap.size w0 w) (h : conclaveref01_Store_Pair.f s0_0 a1 a2 = some (r1, r2)) :
    Calls Tryd.prog 52 #[.pointer (some ⟨g + 1, 0, none⟩), .int .i64 a1, .int .i64 a2] w fun e w' => e = .returned (.int .i64 r1) ∧ IsS60 w0 w' g r2 ∧ Below w0.heap.size w0 w' ∧ KeepSt w w' w0 := by
  cases h
  refine rt_next (mkL_prefix _ _).length_le hI hB fun q h1 h2 h3 h4 => ?_
  have := rpair_calls h4 a1 a2
  rw [Rf.ptr, h1, h2, h3] at this
  exact this
mutual
def conclaveref01_Store_List.l0 : Nat → List Int → Int → T2 → Option (Int × T2)
  | 0, _, _, _ => none
  | k + 1, x1, x5, x1000 => if x5 < (x1.length : Int) then (if 0 ≤ x5 then ((conclaveref01_Store_Known.f x1000 (rd x1 x5)).bind fun bt229 => (if bt229.1 = true then (conclaveref01_Store_List.l0 k x1 (wrap64 (x5 + 1)) bt229.2) else (some (0, bt229.2)))) else (none)) else ((conclaveref01_Store_Text.f x1000 (⟨#[]⟩ : ByteArray)).bind fun bt231 => (conclaveref01_Store_List.l1 k x1 bt231.1 (wrap64 ((x1.length : Int) - 1)) bt231.2))
def conclaveref01_Store_List.l1 : Nat → List Int → Int → Int → T2 → Option (Int × T2)
  | 0, _, _, _, _ => none
  | k + 1, x1, x6, x7, x1000 => if x7 ≥ 0 then (if 0 ≤ x7 then (if x7 < (x1.length : Int) then ((conclaveref01_Store_Pair.f x1000 (rd x1 x7) x6).bind fun bt234 => (conclaveref01_Store_List.l1 k x1 bt234.1 (wrap64 (x7 - 1)) bt234.2)) else (none)) else (none)) else (some (x6, x1000))
end
def conclaveref01_Store_List.f (k : Nat) (s0_0 : T2) (l1 : List Int) : Option (Int × T2) := conclaveref01_Store_List.l0 k l1 0 s0_0
theorem conclaveref01_Store_List.mono_l : ∀ k, (∀ y0 y1 y2, LeO (conclaveref01_Store_List.l0 k y0 y1 y2) (conclaveref01_Store_List.l0 (k + 1) y0 y1 y2)) ∧ (∀ y0 y1 y2 y3, LeO (conclaveref01_Store_List.l1 k y0 y1 y2 y3) (conclaveref01_Store_List.l1 (k + 1) y0 y1 y2 y3))
  | 0 => ⟨fun _ _ _ r h => by simp [conclaveref01_Store_List.l0] at h, fun _ _ _ _ r h => by simp [conclaveref01_Store_List.l1] at h⟩
  | k + 1 => by
    obtain ⟨ih0, ih1⟩ := conclaveref01_Store_List.mono_l k
    refine ⟨?_, ?_⟩
    · intro y0 y1 y2
      unfold conclaveref01_Store_List.l0
      repeat' first
      | (with_reducible exact ih0 _ _ _)
      | (with_reducible exact ih1 _ _ _ _)
      | (with_reducible exact LeO.refl _)
      | (with_reducible exact LeO.none _)
      | (with_reducible refine LeO.ite ?_ ?_)
      | (with_reducible refine LeO.bind ?_ (fun _ => ?_))
      | exact ih0 _ _ _
      | exact ih1 _ _ _ _
      | exact LeO.none _
      | refine LeO.ite ?_ ?_
      | refine LeO.bind ?_ (fun _ => ?_)
    · intro y0 y1 y2 y3
      unfold conclaveref01_Store_List.l1
      repeat' first
      | (with_reducible exact ih0 _ _ _)
      | (with_reducible exact ih1 _ _ _ _)
      | (with_reducible exact LeO.refl _)
      | (with_reducible exact LeO.none _)
      | (with_reducible refine LeO.ite ?_ ?_)
      | (with_reducible refine LeO.bind ?_ (fun _ => ?_))
      | exact ih0 _ _ _
      | exact ih1 _ _ _ _
      | exact LeO.none _
      | refine LeO.ite ?_ ?_
      | refine LeO.bind ?_ (fun _ => ?_)
theorem conclaveref01_Store_List.mono : ∀ a0 a1 k, LeO (conclaveref01_Store_List.f k a0 a1) (conclaveref01_Store_List.f (k + 1) a0 a1) := by
  intro a0 a1 k
  obtain ⟨ih0, ih1⟩ := conclaveref01_Store_List.mono_l k
  unfold conclaveref01_Store_List.f
  repeat' first
      | (with_reducible exact ih0 _ _ _)
      | (with_reducible exact ih1 _ _ _ _)
      | (with_reducible exact LeO.refl _)
      | (with_reducible exact LeO.none _)
      | (with_reducible refine LeO.ite ?_ ?_)
      | (with_reducible refine LeO.bind ?_ (fun _ => ?_))
      | exact ih0 _ _ _
      | exact ih1 _ _ _ _
      | exact LeO.none _
      | refine LeO.ite ?_ ?_
      | refine LeO.bind ?_ (fun _ => ?_)
set_option maxHeartbeats 8000000 in
set_option maxRecDepth 100000 in
theorem conclaveref01_Store_List.calls (k : Nat) (g : Nat) (s0_0 : T2) (A1 : Option Addr) (c1 : Nat) (l1 : List Int) (r1 : Int) (r2 : T2) (w0 w : World) (hI : IsS60 w0 w g s0_0) (hB : Below w0.heap.size w0 w) (hr1 : Kd.C (Kd.int .i64) w A1 l1.length l1) (hc1 : l1.length ≤ c1) (hf1 : ∀ ad, A1 = some ad → 0 < l1.length → SepB w0 w ad.block) (h : conclaveref01_Store_List.f k s0_0 l1 = some (r1, r2)) :
    Calls Tryd.prog 45 #[.pointer (some ⟨g + 1, 0, none⟩), .slice A1 l1.length c1] w fun e w' => e = .returned (.int .i64 r1) ∧ IsS60 w0 w' g r2 ∧ Below w0.heap.size w0 w' ∧ KeepSt w w' w0 := by
  have HR1 := Aside0.mk hr1
  have HC1 := Aside0.mk hc1
  clear hr1 hc1
  have HI0 := Aside0.mk hI
  have HK := Aside0.mk (KeepSt.refl w w0)
  have HL := Aside0.mk hB.size
  clear hI
  have HW0 := Aside0.mk hB.size
  have HB := Aside0.mk hB
  clear hB
  have H : (conclaveref01_Store_List.l0 k l1 0 s0_0) = some (r1, r2) := h
  clear h
  have H' := Aside0.mk H
  clear H
  go_enter Tryd.func45, Tryd.ntmps45
  go_wp2
  go_loopg [5] k (fun kq v5 w' => ∃ (x5_1 : Int) (x1000_1 : T2), v5 = .int .i64 x5_1 ∧ Aside0 (conclaveref01_Store_List.l0 kq l1 x5_1 x1000_1 = some (r1, r2)) ∧ Aside0 (kq ≤ k) ∧ Aside0 (IsS60 w0 w' g x1000_1) ∧ Aside0 (KeepSt w w' w0) ∧ Aside0 (Below w0.heap.size w0 w'))
  case atStart => exact ⟨(0), (s0_0), (by first | rfl | (simp; done) | (simp [*]; done)), H', ⟨Nat.le_refl _⟩, ⟨by repeat (first | (with_reducible first | exact HI0.out | apply IsS60.alloc | apply IsS60.drewN | apply IsS60.drew | apply IsS60.set_0) | exact HI0.out)⟩, ⟨by repeat (first | (with_reducible first | exact HK.out | apply KeepSt.drewN | apply KeepSt.drew | apply KeepSt.alloc) | exact HK.out)⟩, ⟨by repeat (first | (with_reducible first | exact HB.out | apply below_alloc | apply pw_below_drewN | apply below_drew1 | refine below_set ?_ (IsS60.ge HI0.out)) | exact HB.out)⟩⟩
  case round =>
    clear H'
    try clear c1
    try clear p2
    obtain ⟨x5_1, x1000_1, rfl, HA, HK1, HI0, HK, HB⟩ := hrel
    cases gk with
    | zero => exact absurd HA.out (by simp [conclaveref01_Store_List.l0])
    | succ k1 =>
      have H := HA.out
      clear HA
      simp only [conclaveref01_Store_List.l0] at H
      by_cases c3 : x5_1 < (l1.length : Int)
      · rw [if_pos c3] at H
        have c3b0 : decide (x5_1 < (l1.length : Int)) = true := decide_eq_true c3
        clear c3
        by_cases c4 : 0 ≤ x5_1
        · rw [if_pos c4] at H
          have c4b0 : decide (0 ≤ x5_1) = true := decide_eq_true c4
          clear c4
          replace H := Option.bind_eq_some_iff.mp H
          obtain ⟨⟨t229, t230⟩, A50, H⟩ := H
          replace H : (if t229 = true then (conclaveref01_Store_List.l0 k1 l1 (wrap64 (x5_1 + 1)) t230) else (some (0, t230))) = some (r1, r2) := H
          have A5 := Aside0.mk A50
          clear A50
          by_cases c6 : t229 = true
          · subst c6
            have H1 : (conclaveref01_Store_List.l0 k1 l1 (wrap64 (x5_1 + 1)) t230) = some (r1, r2) := by rw [if_pos rfl] at H; exact H
            clear H
            have H := H1
            clear H1
            have H' := Aside0.mk H
            clear H
            have p228 : 0 ≤ (x5_1 : Int) := of_decide_eq_true (by first | (with_reducible assumption) | assumption)
            have q228 : x5_1 < (l1.length : Int) := of_decide_eq_true (by first | (with_reducible assumption) | assumption)
            obtain ⟨ad228, e228, hx228_0⟩ := Kd.at_int HR1.out x5_1 p228 q228
            cases e228
            replace hx228_0 := KeepSt.cell HK.out hx228_0 (by first | (rw [add_block]; exact hf1 _ rfl (by omega)) | exact hf1 _ rfl (by omega) | exact hf1 ad228 rfl (by omega))
            replace p228 := eq_true p228
            replace q228 := eq_true q228
            go_wp2_with (first | ((with_reducible refine gate_callee (f := 31) rfl ?_); refine goesL_ (some 19) rfl rfl Tryd.func31 (by kernel_rfl) rfl #[.pointer (some ⟨g + 1, 0, none⟩), .int .i64 (rd l1 x5_1)] rfl (by (try simp only [List.map_toArray, List.map_cons, List.map_nil]); first | done | rfl | (simp only [List.length_drop, List.length_take]; rfl)) ?_; (with_reducible refine (conclaveref01_Store_Known.calls g x1000_1 (rd l1 x5_1) true t230 w0 _ ?side1 ?side2 A5.out).mono ?_); (case side1 => repeat (first | (with_reducible first | exact HI0.out | apply IsS60.alloc | apply IsS60.drewN | apply IsS60.drew | apply IsS60.set_0) | exact HI0.out)); (case side2 => repeat (first | (with_reducible first | exact HB.out | apply below_alloc | apply pw_below_drewN | apply below_drew1 | refine below_set ?_ (IsS60.ge HI0.out)) | exact HB.out)); rintro e w7 ⟨rfl, hi, hb, hk⟩; refine ⟨_, rfl, ?_⟩; have n0_ := Aside0.mk (KeepSt.trans (by repeat (first | (with_reducible first | exact HK.out | apply KeepSt.drewN | apply KeepSt.drew | apply KeepSt.alloc) | exact HK.out)) hk); have n1_ := Aside0.mk (hb); have n2_ := Aside0.mk (hi); clear HK; clear HB; clear HI0; have HK := n0_; have HB := n1_; have HI0 := n2_; clear n0_ n1_ n2_; (try clear hb); (try clear hb2); (try clear hk); (try clear hi)))
            go_roundg k1
            case measure => have := HK1.out; omega
            case rel => exact ⟨(wrap64 (x5_1 + 1)), (t230), (by first | rfl | (simp; done) | (simp [*]; done)), H', ⟨by have := HK1.out; omega⟩, ⟨by repeat (first | (with_reducible first | exact HI0.out | apply IsS60.alloc | apply IsS60.drewN | apply IsS60.drew | apply IsS60.set_0) | exact HI0.out)⟩, ⟨by repeat (first | (with_reducible first | exact HK.out | apply KeepSt.drewN | apply KeepSt.drew | apply KeepSt.alloc) | exact HK.out)⟩, ⟨by repeat (first | (with_reducible first | exact HB.out | apply below_alloc | apply pw_below_drewN | apply below_drew1 | refine below_set ?_ (IsS60.ge HI0.out)) | exact HB.out)⟩⟩
          · replace c6 := Bool.eq_false_iff.mpr c6
            subst c6
            have H1 : (some (0, t230)) = some (r1, r2) := by rw [if_neg (show ¬ (false = true) by decide)] at H; exact H
            clear H
            have H := H1
            clear H1
            simp only [Option.some.injEq, Prod.mk.injEq] at H
            obtain ⟨rfl, rfl⟩ := H
            have p228 : 0 ≤ (x5_1 : Int) := of_decide_eq_true (by first | (with_reducible assumption) | assumption)
            have q228 : x5_1 < (l1.length : Int) := of_decide_eq_true (by first | (with_reducible assumption) | assumption)
            obtain ⟨ad228, e228, hx228_0⟩ := Kd.at_int HR1.out x5_1 p228 q228
            cases e228
            replace hx228_0 := KeepSt.cell HK.out hx228_0 (by first | (rw [add_block]; exact hf1 _ rfl (by omega)) | exact hf1 _ rfl (by omega) | exact hf1 ad228 rfl (by omega))
            replace p228 := eq_true p228
            replace q228 := eq_true q228
            go_wp2_with (first | ((with_reducible refine gate_callee (f := 31) rfl ?_); refine goesL_ (some 19) rfl rfl Tryd.func31 (by kernel_rfl) rfl #[.pointer (some ⟨g + 1, 0, none⟩), .int .i64 (rd l1 x5_1)] rfl (by (try simp only [List.map_toArray, List.map_cons, List.map_nil]); first | done | rfl | (simp only [List.length_drop, List.length_take]; rfl)) ?_; (with_reducible refine (conclaveref01_Store_Known.calls g x1000_1 (rd l1 x5_1) false t230 w0 _ ?side1 ?side2 A5.out).mono ?_); (case side1 => repeat (first | (with_reducible first | exact HI0.out | apply IsS60.alloc | apply IsS60.drewN | apply IsS60.drew | apply IsS60.set_0) | exact HI0.out)); (case side2 => repeat (first | (with_reducible first | exact HB.out | apply below_alloc | apply pw_below_drewN | apply below_drew1 | refine below_set ?_ (IsS60.ge HI0.out)) | exact HB.out)); rintro e w8 ⟨rfl, hi, hb, hk⟩; refine ⟨_, rfl, ?_⟩; have n0_ := Aside0.mk (KeepSt.trans (by repeat (first | (with_reducible first | exact HK.out | apply KeepSt.drewN | apply KeepSt.drew | apply KeepSt.alloc) | exact HK.out)) hk); have n1_ := Aside0.mk (hb); have n2_ := Aside0.mk (hi); clear HK; clear HB; clear HI0; have HK := n0_; have HB := n1_; have HI0 := n2_; clear n0_ n1_ n2_; (try clear hb); (try clear hb2); (try clear hk); (try clear hi)))
            go_ret
            exact ⟨by first | rfl | (simp [errW_none, errW_some] <;> rfl) | (simp [*, errW_none, errW_some] <;> rfl), by repeat (first | (with_reducible first | exact HI0.out | apply IsS60.alloc | apply IsS60.drewN | apply IsS60.drew | apply IsS60.set_0) | exact HI0.out), by repeat (first | (with_reducible first | exact HB.out | apply below_alloc | apply pw_below_drewN | apply below_drew1 | refine below_set ?_ (IsS60.ge HI0.out)) | exact HB.out), by repeat (first | (with_reducible first | exact HK.out | apply KeepSt.drewN | apply KeepSt.drew | apply KeepSt.alloc) | exact HK.out)⟩
        · rw [if_neg c4] at H
          exact absurd H (by simp)
      · rw [if_neg c3] at H
        have c3b0 : decide (x5_1 < (l1.length : Int)) = false := decide_eq_false c3
        clear c3
        replace H := Option.bind_eq_some_iff.mp H
        obtain ⟨⟨t231, t232⟩, A90, H⟩ := H
        replace H : (conclaveref01_Store_List.l1 k1 l1 t231 (wrap64 ((l1.length : Int) - 1)) t232) = some (r1, r2) := H
        have A9 := Aside0.mk A90
        clear A90
        have H' := Aside0.mk H
        clear H
        go_wp2_with (first | ((with_reducible refine gate_callee (f := 50) rfl ?_); refine goesL_ (some 22) rfl rfl Tryd.func50 (by kernel_rfl) rfl #[.pointer (some ⟨g + 1, 0, none⟩), .string (⟨#[]⟩ : ByteArray)] rfl (by (try simp only [List.map_toArray, List.map_cons, List.map_nil]); first | done | rfl | (simp only [List.length_drop, List.length_take]; rfl)) ?_; (with_reducible refine (conclaveref01_Store_Text.calls g x1000_1 (⟨#[]⟩ : ByteArray) t231 t232 w0 _ ?side1 ?side2 A9.out).mono ?_); (case side1 => repeat (first | (with_reducible first | exact HI0.out | apply IsS60.alloc | apply IsS60.drewN | apply IsS60.drew | apply IsS60.set_0) | exact HI0.out)); (case side2 => repeat (first | (with_reducible first | exact HB.out | apply below_alloc | apply pw_below_drewN | apply below_drew1 | refine below_set ?_ (IsS60.ge HI0.out)) | exact HB.out)); rintro e w10 ⟨rfl, hi, hb, hk⟩; refine ⟨_, rfl, ?_⟩; have n0_ := Aside0.mk (KeepSt.trans (by repeat (first | (with_reducible first | exact HK.out | apply KeepSt.drewN | apply KeepSt.drew | apply KeepSt.alloc) | exact HK.out)) hk); have n1_ := Aside0.mk (hb); have n2_ := Aside0.mk (hi); clear HK; clear HB; clear HI0; have HK := n0_; have HB := n1_; have HI0 := n2_; clear n0_ n1_ n2_; (try clear hb); (try clear hb2); (try clear hk); (try clear hi)))
        go_loopg [6, 7] k1 (fun kq v6 v7 w' => ∃ (x6_2 : Int) (x7_2 : Int) (x1000_2 : T2), v6 = .int .i64 x6_2 ∧ v7 = .int .i64 x7_2 ∧ Aside0 (conclaveref01_Store_List.l1 kq l1 x6_2 x7_2 x1000_2 = some (r1, r2)) ∧ Aside0 (kq ≤ k1) ∧ Aside0 (IsS60 w0 w' g x1000_2) ∧ Aside0 (KeepSt w w' w0) ∧ Aside0 (Below w0.heap.size w0 w'))
        case atStart => exact ⟨(t231), (wrap64 ((l1.length : Int) - 1)), (t232), (by first | rfl | (simp; done) | (simp [*]; done)), (by first | rfl | (simp; done) | (simp [*]; done)), H', ⟨Nat.le_refl _⟩, ⟨by repeat (first | (with_reducible first | exact HI0.out | apply IsS60.alloc | apply IsS60.drewN | apply IsS60.drew | apply IsS60.set_0) | exact HI0.out)⟩, ⟨by repeat (first | (with_reducible first | exact HK.out | apply KeepSt.drewN | apply KeepSt.drew | apply KeepSt.alloc) | exact HK.out)⟩, ⟨by repeat (first | (with_reducible first | exact HB.out | apply below_alloc | apply pw_below_drewN | apply below_drew1 | refine below_set ?_ (IsS60.ge HI0.out)) | exact HB.out)⟩⟩
        case round =>
          clear H'
          try clear c1
          try clear p2
          try clear q2
          try clear hx2
          try clear c3
          try clear c3b0
          try clear c4
          try clear c4b0
          try clear c5
          try clear c6
          try clear p6
          try clear hx228_0
          try clear p2
          try clear p228
          try clear q228
          obtain ⟨x6_2, x7_2, x1000_2, rfl, rfl, HA, HK2, HI0, HK, HB⟩ := hrel
          cases gk with
          | zero => exact absurd HA.out (by simp [conclaveref01_Store_List.l1])
          | succ k2 =>
            have H := HA.out
            clear HA
            simp only [conclaveref01_Store_List.l1] at H
            by_cases c11 : x7_2 ≥ 0
            · rw [if_pos c11] at H
              have c11b0 : decide (0 ≤ x7_2) = true := decide_eq_true c11
              clear c11
              by_cases c12 : 0 ≤ x7_2
              · rw [if_pos c12] at H
                have c12b0 : decide (0 ≤ x7_2) = true := decide_eq_true c12
                clear c12
                by_cases c13 : x7_2 < (l1.length : Int)
                · rw [if_pos c13] at H
                  have c13b0 : decide (x7_2 < (l1.length : Int)) = true := decide_eq_true c13
                  clear c13
                  replace H := Option.bind_eq_some_iff.mp H
                  obtain ⟨⟨t234, t235⟩, A140, H⟩ := H
                  replace H : (conclaveref01_Store_List.l1 k2 l1 t234 (wrap64 (x7_2 - 1)) t235) = some (r1, r2) := H
                  have A14 := Aside0.mk A140
                  clear A140
                  have H' := Aside0.mk H
                  clear H
                  have p233 : 0 ≤ (x7_2 : Int) := of_decide_eq_true (by first | (with_reducible assumption) | assumption)
                  have q233 : x7_2 < (l1.length : Int) := of_decide_eq_true (by first | (with_reducible assumption) | assumption)
                  obtain ⟨ad233, e233, hx233_0⟩ := Kd.at_int HR1.out x7_2 p233 q233
                  cases e233
                  replace hx233_0 := KeepSt.cell HK.out hx233_0 (by first | (rw [add_block]; exact hf1 _ rfl (by omega)) | exact hf1 _ rfl (by omega) | exact hf1 ad233 rfl (by omega))
                  replace p233 := eq_true p233
                  replace q233 := eq_true q233
                  go_wp2_with (first | ((with_reducible refine gate_callee (f := 52) rfl ?_); refine goesL_ (some 36) rfl rfl Tryd.func52 (by kernel_rfl) rfl #[.pointer (some ⟨g + 1, 0, none⟩), .int .i64 (rd l1 x7_2), .int .i64 x6_2] rfl (by (try simp only [List.map_toArray, List.map_cons, List.map_nil]); first | done | rfl | (simp only [List.length_drop, List.length_take]; rfl)) ?_; (with_reducible refine (conclaveref01_Store_Pair.calls g x1000_2 (rd l1 x7_2) x6_2 t234 t235 w0 _ ?side1 ?side2 A14.out).mono ?_); (case side1 => repeat (first | (with_reducible first | exact HI0.out | apply IsS60.alloc | apply IsS60.drewN | apply IsS60.drew | apply IsS60.set_0) | exact HI0.out)); (case side2 => repeat (first | (with_reducible first | exact HB.out | apply below_alloc | apply pw_below_drewN | apply below_drew1 | refine below_set ?_ (IsS60.ge HI0.out)) | exact HB.out)); rintro e w15 ⟨rfl, hi, hb, hk⟩; refine ⟨_, rfl, ?_⟩; have n0_ := Aside0.mk (KeepSt.trans (by repeat (first | (with_reducible first | exact HK.out | apply KeepSt.drewN | apply KeepSt.drew | apply KeepSt.alloc) | exact HK.out)) hk); have n1_ := Aside0.mk (hb); have n2_ := Aside0.mk (hi); clear HK; clear HB; clear HI0; have HK := n0_; have HB := n1_; have HI0 := n2_; clear n0_ n1_ n2_; (try clear hb); (try clear hb2); (try clear hk); (try clear hi)))
                  go_roundg k2
                  case measure => have := HK1.out; have := HK2.out; omega
                  case rel => exact ⟨(t234), (wrap64 (x7_2 - 1)), (t235), (by first | rfl | (simp; done) | (simp [*]; done)), (by first | rfl | (simp; done) | (simp [*]; done)), H', ⟨by have := HK1.out; have := HK2.out; omega⟩, ⟨by repeat (first | (with_reducible first | exact HI0.out | apply IsS60.alloc | apply IsS60.drewN | apply IsS60.drew | apply IsS60.set_0) | exact HI0.out)⟩, ⟨by repeat (first | (with_reducible first | exact HK.out | apply KeepSt.drewN | apply KeepSt.drew | apply KeepSt.alloc) | exact HK.out)⟩, ⟨by repeat (first | (with_reducible first | exact HB.out | apply below_alloc | apply pw_below_drewN | apply below_drew1 | refine below_set ?_ (IsS60.ge HI0.out)) | exact HB.out)⟩⟩
                · rw [if_neg c13] at H
                  exact absurd H (by simp)
              · rw [if_neg c12] at H
                exact absurd H (by simp)
            · rw [if_neg c11] at H
              have c11b0 : decide (0 ≤ x7_2) = false := decide_eq_false c11
              clear c11
              simp only [Option.some.injEq, Prod.mk.injEq] at H
              obtain ⟨rfl, rfl⟩ := H
              go_wp2
              go_ret
              exact ⟨by first | rfl | (simp [errW_none, errW_some] <;> rfl) | (simp [*, errW_none, errW_some] <;> rfl), by repeat (first | (with_reducible first | exact HI0.out | apply IsS60.alloc | apply IsS60.drewN | apply IsS60.drew | apply IsS60.set_0) | exact HI0.out), by repeat (first | (with_reducible first | exact HB.out | apply below_alloc | apply pw_below_drewN | apply below_drew1 | refine below_set ?_ (IsS60.ge HI0.out)) | exact HB.out), by repeat (first | (with_reducible first | exact HK.out | apply KeepSt.drewN | apply KeepSt.drew | apply KeepSt.alloc) | exact HK.out)⟩
def conclaveref09_Body.f (k : Nat) (s0_0 : T2) (a1_0 : Int) (a1_1 : Int) (a1_2 : Int) (a1_3 : Int) (a1_4 : Int) (a1_5 : Int) : Option (Int × T2) := (conclaveref05_Number.f k s0_0 a1_0).bind fun bt237 => ((conclaveref05_Number.f k bt237.2 a1_4).bind fun bt239 => ((conclaveref01_Store_List.f k bt239.2 (([bt237.1, a1_1, a1_2, a1_3, bt239.1] : List Int))).bind fun bt244 => (some (bt244.1, bt244.2))))
theorem conclaveref09_Body.mono : ∀ a0 a1 a2 a3 a4 a5 a6 k, LeO (conclaveref09_Body.f k a0 a1 a2 a3 a4 a5 a6) (conclaveref09_Body.f (k + 1) a0 a1 a2 a3 a4 a5 a6) := by
  intro a0 a1 a2 a3 a4 a5 a6 k
  unfold conclaveref09_Body.f
  repeat' first
      | (with_reducible exact conclaveref01_Store_List.mono _ _ _)
      | (with_reducible exact conclaveref05_Number.mono _ _ _)
      | (with_reducible exact LeO.refl _)
      | (with_reducible exact LeO.none _)
      | (with_reducible refine LeO.ite ?_ ?_)
      | (with_reducible refine LeO.bind ?_ (fun _ => ?_))
      | exact conclaveref01_Store_List.mono _ _ _
      | exact conclaveref05_Number.mono _ _ _
      | exact LeO.none _
      | refine LeO.ite ?_ ?_
      | refine LeO.bind ?_ (fun _ => ?_)
set_option maxHeartbeats 8000000 in
set_option maxRecDepth 100000 in
theorem conclaveref09_Body.calls (k : Nat) (g : Nat) (s0_0 : T2) (a1_0 : Int) (a1_1 : Int) (a1_2 : Int) (a1_3 : Int) (a1_4 : Int) (a1_5 : Int) (r1 : Int) (r2 : T2) (w0 w : World) (hI : IsS60 w0 w g s0_0) (hB : Below w0.heap.size w0 w) (h : conclaveref09_Body.f k s0_0 a1_0 a1_1 a1_2 a1_3 a1_4 a1_5 = some (r1, r2)) :
    Calls Tryd.prog 37 #[.pointer (some ⟨g + 1, 0, none⟩), .agg #[.int .i64 a1_0, .int .i64 a1_1, .int .i64 a1_2, .int .i64 a1_3, .int .i64 a1_4, .int .i64 a1_5]] w fun e w' => e = .returned (.int .i64 r1) ∧ IsS60 w0 w' g r2 ∧ Below w0.heap.size w0 w' ∧ KeepSt w w' w0 := by
  have hu36 := Tryd.underlying36
  have HI0 := Aside0.mk hI
  have HK := Aside0.mk (KeepSt.refl w w0)
  have HL := Aside0.mk hB.size
  clear hI
  have HW0 := Aside0.mk hB.size
  have HB := Aside0.mk hB
  clear hB
  have H : ((conclaveref05_Number.f k s0_0 a1_0).bind fun bt237 => ((conclaveref05_Number.f k bt237.2 a1_4).bind fun bt239 => ((conclaveref01_Store_List.f k bt239.2 (([bt237.1, a1_1, a1_2, a1_3, bt239.1] : List Int))).bind fun bt244 => (some (bt244.1, bt244.2))))) = some (r1, r2) := h
  clear h
  replace H := Option.bind_eq_some_iff.mp H
  obtain ⟨⟨t237, t238⟩, A30, H⟩ := H
  replace H : ((conclaveref05_Number.f k t238 a1_4).bind fun bt239 => ((conclaveref01_Store_List.f k bt239.2 (([t237, a1_1, a1_2, a1_3, bt239.1] : List Int))).bind fun bt244 => (some (bt244.1, bt244.2)))) = some (r1, r2) := H
  have A3 := Aside0.mk A30
  clear A30
  replace H := Option.bind_eq_some_iff.mp H
  obtain ⟨⟨t239, t240⟩, A40, H⟩ := H
  replace H : ((conclaveref01_Store_List.f k t240 (([t237, a1_1, a1_2, a1_3, t239] : List Int))).bind fun bt244 => (some (bt244.1, bt244.2))) = some (r1, r2) := H
  have A4 := Aside0.mk A40
  clear A40
  obtain ⟨y241, hy241⟩ : ∃ y_ : List Int, y_ = (([t237, a1_1, a1_2, a1_3, t239] : List Int)) := ⟨_, rfl⟩
  replace H : ((conclaveref01_Store_List.f k t240 y241).bind fun bt244 => (some (bt244.1, bt244.2))) = some (r1, r2) := by first | (rw [hy241]; with_reducible exact H) | (have H2_ := (Option.bind_some _ _).symm.trans H; rw [hy241]; with_reducible exact H2_) | (have H2_ := (Option.bind_some _ _).symm.trans H; with_reducible exact H2_) | with_reducible exact H | (rw [hy241]; exact H) | exact H
  have Ny241 := Aside0.mk hy241
  clear hy241
  replace H := Option.bind_eq_some_iff.mp H
  obtain ⟨⟨t244, t245⟩, A50, H⟩ := H
  replace H : (some (t244, t245)) = some (r1, r2) := H
  have A5 := Aside0.mk A50
  clear A50
  simp only [Option.some.injEq, Prod.mk.injEq] at H
  obtain ⟨rfl, rfl⟩ := H
  go_enter Tryd.func37, Tryd.ntmps37
  go_wp2_with (first | ((with_reducible refine gate_dst (N := 3) rfl ?_); refine box_event ?hg (N := 3) ?hd (cs := #[.int .i64 a1_0, .int .i64 a1_1, .int .i64 a1_2, .int .i64 a1_3, .int .i64 a1_4, .int .i64 a1_5]) (t := 36) ?hr ?_; (case hd => rfl); (case hg => rfl); (case hr => first | (go_simp; done) | (go_simp; rfl)); intro gb236 hg w6 hbox hb; have n0_ := Aside0.mk (IsS60.below (by repeat (first | (with_reducible first | exact HI0.out | apply IsS60.alloc | apply IsS60.drewN | apply IsS60.drew | apply IsS60.set_0) | exact HI0.out)) hb); have n1_ := Aside0.mk (KeepSt.trans (by repeat (first | (with_reducible first | exact HK.out | apply KeepSt.drewN | apply KeepSt.drew | apply KeepSt.alloc) | exact HK.out)) (KeepSt.of_below hb w0)); have n2_ := Aside0.mk (below_step (by repeat (first | (with_reducible first | exact HB.out | apply below_alloc | apply pw_below_drewN | apply below_drew1 | refine below_set ?_ (IsS60.ge HI0.out)) | exact HB.out)) hb); have n3_ := Aside0.mk (hbox); have n4_ := Aside0.mk ((by rw [hg]; exact (KeepSt.size (w := w) (w0 := w0) (by repeat (first | (with_reducible first | exact HK.out | apply KeepSt.drewN | apply KeepSt.drew | apply KeepSt.alloc) | exact HK.out))) : w.heap.size ≤ gb236)); have n5_ := Aside0.mk ((Nat.le_trans HW0.out (by rw [hg]; exact (KeepSt.size (w := w) (w0 := w0) (by repeat (first | (with_reducible first | exact HK.out | apply KeepSt.drewN | apply KeepSt.drew | apply KeepSt.alloc) | exact HK.out))) : w.heap.size ≤ gb236) : w0.heap.size ≤ gb236)); have n6_ := Aside0.mk ((by rw [hg]; exact Nat.ne_of_lt (IsS60.lt (show IsS60 w0 _ g s0_0 from by repeat (first | (with_reducible first | exact HI0.out | apply IsS60.alloc | apply IsS60.drewN | apply IsS60.drew | apply IsS60.set_0) | exact HI0.out))) : g ≠ gb236)); have n7_ := Aside0.mk ((by rw [hg]; exact Nat.ne_of_gt (IsS60.lt (show IsS60 w0 _ g s0_0 from by repeat (first | (with_reducible first | exact HI0.out | apply IsS60.alloc | apply IsS60.drewN | apply IsS60.drew | apply IsS60.set_0) | exact HI0.out))) : gb236 ≠ g)); clear HI0; clear HK; clear HB; have HI0 := n0_; have HK := n1_; have HB := n2_; have BK236 := n3_; have GW236 := n4_; have GE236 := n5_; have NB0_236 := n6_; have NB236_0 := n7_; clear n0_ n1_ n2_ n3_ n4_ n5_ n6_ n7_; clear hb hbox hg; have hnb7 := NB236_0.out; have hnc7 := NB0_236.out; have hcz8_0 : w6.cell? ⟨gb236, 0, none⟩ = some (.int .i64 a1_0) := (blk_cell BK236.out 0).trans rfl; have hcz8_1 : w6.cell? ⟨gb236, 1, none⟩ = some (.int .i64 a1_1) := (blk_cell BK236.out 1).trans rfl; have hcz8_2 : w6.cell? ⟨gb236, 2, none⟩ = some (.int .i64 a1_2) := (blk_cell BK236.out 2).trans rfl; have hcz8_3 : w6.cell? ⟨gb236, 3, none⟩ = some (.int .i64 a1_3) := (blk_cell BK236.out 3).trans rfl; have hcz8_4 : w6.cell? ⟨gb236, 4, none⟩ = some (.int .i64 a1_4) := (blk_cell BK236.out 4).trans rfl; have hcz8_5 : w6.cell? ⟨gb236, 5, none⟩ = some (.int .i64 a1_5) := (blk_cell BK236.out 5).trans rfl; have hfz8_0 := blk_frozen BK236.out 0; have hfz8_1 := blk_frozen BK236.out 1; have hfz8_2 := blk_frozen BK236.out 2; have hfz8_3 := blk_frozen BK236.out 3; have hfz8_4 := blk_frozen BK236.out 4; have hfz8_5 := blk_frozen BK236.out 5) | ((with_reducible refine gate_callee (f := 44) rfl ?_); refine goesL_ (some 10) rfl rfl Tryd.func44 (by kernel_rfl) rfl #[.pointer (some ⟨g + 1, 0, none⟩), .int .i64 a1_0] rfl (by (try simp only [List.map_toArray, List.map_cons, List.map_nil]); first | done | rfl | (simp only [List.length_drop, List.length_take]; rfl)) ?_; (with_reducible refine (conclaveref05_Number.calls k g s0_0 a1_0 t237 t238 w0 _ ?side1 ?side2 A3.out).mono ?_); (case side1 => repeat (first | (with_reducible first | exact HI0.out | apply IsS60.alloc | apply IsS60.drewN | apply IsS60.drew | apply IsS60.set_0 | (focus (refine IsS60.far ?_ ?_ _; rotate_left; (focus ((repeat (first | (with_reducible exact Nsty.of BK236.out rfl) | apply Nsty.set | apply Nsty.drewN | apply Nsty.drew | apply Nsty.alloc)); done))))) | exact HI0.out)); (case side2 => repeat (first | (with_reducible first | exact HB.out | apply below_alloc | apply pw_below_drewN | apply below_drew1 | refine below_set ?_ (IsS60.ge HI0.out) | refine below_set ?_ GE236.out) | exact HB.out)); rintro e w9 ⟨rfl, hi, hb, hk⟩; refine ⟨_, rfl, ?_⟩; have n0_ := Aside0.mk (KeepSt.blk hk (g' := gb236) (o := .cells #[.int .i64 a1_0, .int .i64 a1_1, .int .i64 a1_2, .int .i64 a1_3, .int .i64 a1_4, .int .i64 a1_5] 36 (0, 0)) (by (with_reducible repeat (first | refine blk_drewN ?_ _ | refine blk_drew ?_ | refine blk_alloc ?_ _)); exact BK236.out) NB236_0.out rfl); have n1_ := Aside0.mk (KeepSt.trans (by repeat (first | (with_reducible first | exact HK.out | apply KeepSt.drewN | apply KeepSt.drew | apply KeepSt.alloc | refine KeepSt.far ?_ GW236.out _) | exact HK.out)) hk); have n2_ := Aside0.mk (hb); have n3_ := Aside0.mk (hi); clear BK236; clear HK; clear HB; clear HI0; have BK236 := n0_; have HK := n1_; have HB := n2_; have HI0 := n3_; clear n0_ n1_ n2_ n3_; (try clear hb); (try clear hb2); (try clear hk); (try clear hi); have hcz10_0 : w9.cell? ⟨gb236, 0, none⟩ = some (.int .i64 a1_0) := (blk_cell BK236.out 0).trans rfl; have hcz10_1 : w9.cell? ⟨gb236, 1, none⟩ = some (.int .i64 a1_1) := (blk_cell BK236.out 1).trans rfl; have hcz10_2 : w9.cell? ⟨gb236, 2, none⟩ = some (.int .i64 a1_2) := (blk_cell BK236.out 2).trans rfl; have hcz10_3 : w9.cell? ⟨gb236, 3, none⟩ = some (.int .i64 a1_3) := (blk_cell BK236.out 3).trans rfl; have hcz10_4 : w9.cell? ⟨gb236, 4, none⟩ = some (.int .i64 a1_4) := (blk_cell BK236.out 4).trans rfl; have hcz10_5 : w9.cell? ⟨gb236, 5, none⟩ = some (.int .i64 a1_5) := (blk_cell BK236.out 5).trans rfl; have hfz10_0 := blk_frozen BK236.out 0; have hfz10_1 := blk_frozen BK236.out 1; have hfz10_2 := blk_frozen BK236.out 2; have hfz10_3 := blk_frozen BK236.out 3; have hfz10_4 := blk_frozen BK236.out 4; have hfz10_5 := blk_frozen BK236.out 5) | ((with_reducible refine gate_callee (f := 44) rfl ?_); refine goesL_ (some 14) rfl rfl Tryd.func44 (by kernel_rfl) rfl #[.pointer (some ⟨g + 1, 0, none⟩), .int .i64 a1_4] rfl (by (try simp only [List.map_toArray, List.map_cons, List.map_nil]); first | done | rfl | (simp only [List.length_drop, List.length_take]; rfl)) ?_; (with_reducible refine (conclaveref05_Number.calls k g t238 a1_4 t239 t240 w0 _ ?side1 ?side2 A4.out).mono ?_); (case side1 => repeat (first | (with_reducible first | exact HI0.out | apply IsS60.alloc | apply IsS60.drewN | apply IsS60.drew | apply IsS60.set_0 | (focus (refine IsS60.far ?_ ?_ _; rotate_left; (focus ((repeat (first | (with_reducible exact Nsty.of BK236.out rfl) | apply Nsty.set | apply Nsty.drewN | apply Nsty.drew | apply Nsty.alloc)); done))))) | exact HI0.out)); (case side2 => repeat (first | (with_reducible first | exact HB.out | apply below_alloc | apply pw_below_drewN | apply below_drew1 | refine below_set ?_ (IsS60.ge HI0.out) | refine below_set ?_ GE236.out) | exact HB.out)); rintro e w11 ⟨rfl, hi, hb, hk⟩; refine ⟨_, rfl, ?_⟩; have n0_ := Aside0.mk (KeepSt.blk hk (g' := gb236) (o := .cells #[.int .i64 a1_0, .int .i64 a1_1, .int .i64 a1_2, .int .i64 a1_3, .int .i64 a1_4, .int .i64 a1_5] 36 (0, 0)) (by (with_reducible repeat (first | refine blk_drewN ?_ _ | refine blk_drew ?_ | refine blk_alloc ?_ _)); exact BK236.out) NB236_0.out rfl); have n1_ := Aside0.mk (KeepSt.trans (by repeat (first | (with_reducible first | exact HK.out | apply KeepSt.drewN | apply KeepSt.drew | apply KeepSt.alloc | refine KeepSt.far ?_ GW236.out _) | exact HK.out)) hk); have n2_ := Aside0.mk (hb); have n3_ := Aside0.mk (hi); clear BK236; clear HK; clear HB; clear HI0; have BK236 := n0_; have HK := n1_; have HB := n2_; have HI0 := n3_; clear n0_ n1_ n2_ n3_; (try clear hb); (try clear hb2); (try clear hk); (try clear hi); have hcz12_0 : w11.cell? ⟨gb236, 0, none⟩ = some (.int .i64 a1_0) := (blk_cell BK236.out 0).trans rfl; have hcz12_1 : w11.cell? ⟨gb236, 1, none⟩ = some (.int .i64 a1_1) := (blk_cell BK236.out 1).trans rfl; have hcz12_2 : w11.cell? ⟨gb236, 2, none⟩ = some (.int .i64 a1_2) := (blk_cell BK236.out 2).trans rfl; have hcz12_3 : w11.cell? ⟨gb236, 3, none⟩ = some (.int .i64 a1_3) := (blk_cell BK236.out 3).trans rfl; have hcz12_4 : w11.cell? ⟨gb236, 4, none⟩ = some (.int .i64 a1_4) := (blk_cell BK236.out 4).trans rfl; have hcz12_5 : w11.cell? ⟨gb236, 5, none⟩ = some (.int .i64 a1_5) := (blk_cell BK236.out 5).trans rfl; have hfz12_0 := blk_frozen BK236.out 0; have hfz12_1 := blk_frozen BK236.out 1; have hfz12_2 := blk_frozen BK236.out 2; have hfz12_3 := blk_frozen BK236.out 3; have hfz12_4 := blk_frozen BK236.out 4; have hfz12_5 := blk_frozen BK236.out 5) | ((with_reducible refine gate_dst (N := 24) rfl ?_); refine Kd.R_lit (Kd.int .i64) _ 3 ?hg (N := 24) ?hd (xs := ([t237, a1_1, a1_2, a1_3, t239] : List Int)) (inner := [.int .i64 t237, .int .i64 a1_1, .int .i64 a1_2, .int .i64 a1_3, .int .i64 t239]) (ok := fun _ => True) (okp := fun _ => True) ?hr ?hp (fun _ hk => hk) trivial (Below.refl _ _) (Nat.le_refl _) (by simp) ?_; (case hd => rfl); (case hg => rfl); (case hr => first | (go_simp; done) | (go_simp; rfl)); (case hp => exact (Reps.one (show Kd.M (Kd.int .i64) _ _ _ t237 [.int .i64 t237] from rfl) (Reps.one (show Kd.M (Kd.int .i64) _ _ _ a1_1 [.int .i64 a1_1] from rfl) (Reps.one (show Kd.M (Kd.int .i64) _ _ _ a1_2 [.int .i64 a1_2] from rfl) (Reps.one (show Kd.M (Kd.int .i64) _ _ _ a1_3 [.int .i64 a1_3] from rfl) (Reps.one (show Kd.M (Kd.int .i64) _ _ _ t239 [.int .i64 t239] from rfl) (Reps.none _ _))))))); intro v242 w13 ho14 hb hg_ hnew_; clear hg_ hnew_; (first | rw [← Ny241.out] at ho14 | (simp only [Int.reduceToNat] at ho14; rw [← Ny241.out] at ho14)); have n0_ := Aside0.mk (Kd.R_lower ho14 (KeepSt.size (w := w) (w0 := w0) (by repeat (first | (with_reducible first | exact HK.out | apply KeepSt.drewN | apply KeepSt.drew | apply KeepSt.alloc | refine KeepSt.far ?_ GW236.out _) | exact HK.out)))); have n1_ := Aside0.mk (IsS60.below (by repeat (first | (with_reducible first | exact HI0.out | apply IsS60.alloc | apply IsS60.drewN | apply IsS60.drew | apply IsS60.set_0 | (focus (refine IsS60.far ?_ ?_ _; rotate_left; (focus ((repeat (first | (with_reducible exact Nsty.of BK236.out rfl) | apply Nsty.set | apply Nsty.drewN | apply Nsty.drew | apply Nsty.alloc)); done))))) | exact HI0.out)) hb); have n2_ := Aside0.mk (blk_below (g := gb236) (o := .cells #[.int .i64 a1_0, .int .i64 a1_1, .int .i64 a1_2, .int .i64 a1_3, .int .i64 a1_4, .int .i64 a1_5] 36 (0, 0)) (by (with_reducible repeat (first | refine blk_drewN ?_ _ | refine blk_drew ?_ | refine blk_alloc ?_ _)); exact BK236.out) hb); have n3_ := Aside0.mk (KeepSt.trans (by repeat (first | (with_reducible first | exact HK.out | apply KeepSt.drewN | apply KeepSt.drew | apply KeepSt.alloc | refine KeepSt.far ?_ GW236.out _) | exact HK.out)) (KeepSt.of_below hb w0)); have n4_ := Aside0.mk (below_step (by repeat (first | (with_reducible first | exact HB.out | apply below_alloc | apply pw_below_drewN | apply below_drew1 | refine below_set ?_ (IsS60.ge HI0.out) | refine below_set ?_ GE236.out) | exact HB.out)) hb); clear HI0; clear BK236; clear HK; clear HB; have HO243 := n0_; have HI0 := n1_; have BK236 := n2_; have HK := n3_; have HB := n4_; clear n0_ n1_ n2_ n3_ n4_; clear hb ho14; obtain ⟨Ao15, co15, eo15⟩ := Kd.R_slice HO243.out; subst eo15) | ((with_reducible refine gate_callee (f := 45) rfl ?_); refine goesL_ (some 25) rfl rfl Tryd.func45 (by kernel_rfl) rfl #[.pointer (some ⟨g + 1, 0, none⟩), .slice Ao15 y241.length co15] rfl (by (try simp only [List.map_toArray, List.map_cons, List.map_nil]); first | done | rfl | (simp only [List.length_drop, List.length_take]; rfl)) ?_; (with_reducible refine (conclaveref01_Store_List.calls k g t240 _ _ y241 t244 t245 w0 _ ?side1 ?side2 ?side3 ?side4 ?side5 A5.out).mono ?_); (case side1 => repeat (first | (with_reducible first | exact HI0.out | apply IsS60.alloc | apply IsS60.drewN | apply IsS60.drew | apply IsS60.set_0 | (focus (refine IsS60.far ?_ ?_ _; rotate_left; (focus ((repeat (first | (with_reducible exact Nsty.of BK236.out rfl) | apply Nsty.set | apply Nsty.drewN | apply Nsty.drew | apply Nsty.alloc)); done))))) | exact HI0.out)); (case side2 => repeat (first | (with_reducible first | exact HB.out | apply below_alloc | apply pw_below_drewN | apply below_drew1 | refine below_set ?_ (IsS60.ge HI0.out) | refine below_set ?_ GE236.out) | exact HB.out)); (case side3 => repeat (first | exact (Kd.R_reads' HO243.out).2.2 | (with_reducible refine Kd.C_alloc ?_ _) | (with_reducible refine Kd.C_drewN ?_ _) | (with_reducible refine Kd.C_drew ?_))); (case side4 => exact (Kd.R_reads' HO243.out).2.1); (case side5 => exact Kd.far_R (by (with_reducible repeat (first | apply Kd.R_alloc | apply Kd.R_drewN | apply Kd.R_drew)); exact HO243.out) (by decide)); rintro e w16 ⟨rfl, hi, hb, hk⟩; refine ⟨_, rfl, ?_⟩; have n0_ := Aside0.mk (KeepSt.blk hk (g' := gb236) (o := .cells #[.int .i64 a1_0, .int .i64 a1_1, .int .i64 a1_2, .int .i64 a1_3, .int .i64 a1_4, .int .i64 a1_5] 36 (0, 0)) (by (with_reducible repeat (first | refine blk_drewN ?_ _ | refine blk_drew ?_ | refine blk_alloc ?_ _)); exact BK236.out) NB236_0.out rfl); have n1_ := Aside0.mk (Kd.R_mono (Kd.R_keepSt (IsS60.apart (show IsS60 w0 _ g t240 from by repeat (first | (with_reducible first | exact HI0.out | apply IsS60.alloc | apply IsS60.drewN | apply IsS60.drew | apply IsS60.set_0 | (focus (refine IsS60.far ?_ ?_ _; rotate_left; (focus ((repeat (first | (with_reducible exact Nsty.of BK236.out rfl) | apply Nsty.set | apply Nsty.drewN | apply Nsty.drew | apply Nsty.alloc)); done))))) | exact HI0.out)) (by (with_reducible repeat (first | apply Kd.R_alloc | apply Kd.R_drewN | apply Kd.R_drew)); exact HO243.out) (by decide)) hk (fun _ h => h.2)) (fun _ h => h.1)); have n2_ := Aside0.mk (KeepSt.trans (by repeat (first | (with_reducible first | exact HK.out | apply KeepSt.drewN | apply KeepSt.drew | apply KeepSt.alloc | refine KeepSt.far ?_ GW236.out _) | exact HK.out)) hk); have n3_ := Aside0.mk (hb); have n4_ := Aside0.mk (hi); clear BK236; clear HO243; clear HK; clear HB; clear HI0; have BK236 := n0_; have HO243 := n1_; have HK := n2_; have HB := n3_; have HI0 := n4_; clear n0_ n1_ n2_ n3_ n4_; (try clear hb); (try clear hb2); (try clear hk); (try clear hi)))
  go_ret
  exact ⟨by first | rfl | (simp [errW_none, errW_some] <;> rfl) | (simp [*, errW_none, errW_some] <;> rfl), by repeat (first | (with_reducible first | exact HI0.out | apply IsS60.alloc | apply IsS60.drewN | apply IsS60.drew | apply IsS60.set_0 | (focus (refine IsS60.far ?_ ?_ _; rotate_left; (focus ((repeat (first | (with_reducible exact Nsty.of BK236.out rfl) | apply Nsty.set | apply Nsty.drewN | apply Nsty.drew | apply Nsty.alloc)); done))))) | exact HI0.out), by repeat (first | (with_reducible first | exact HB.out | apply below_alloc | apply pw_below_drewN | apply below_drew1 | refine below_set ?_ (IsS60.ge HI0.out) | refine below_set ?_ GE236.out) | exact HB.out), by repeat (first | (with_reducible first | exact HK.out | apply KeepSt.drewN | apply KeepSt.drew | apply KeepSt.alloc | refine KeepSt.far ?_ GW236.out _) | exact HK.out)⟩
def conclaveref01_Store_Hash.f (s0_0 : T2) (a1 : ByteArray) (a2 : Int) : Option (Int × T2) := some ((put s0_0.r ⟨4, a1, a2, 0⟩).1, ⟨s0_0.p, (put s0_0.r ⟨4, a1, a2, 0⟩).2⟩)
theorem conclaveref01_Store_Hash.calls (g : Nat) (s0_0 : T2) (a1 : ByteArray) (a2 : Int) (r1 : Int) (r2 : T2) (w0 w : World) (hI : IsS60 w0 w g s0_0) (hB : Below w0.heap.size w0 w) (h : conclaveref01_Store_Hash.f s0_0 a1 a2 = some (r1, r2)) :
    Calls Tryd.prog 38 #[.pointer (some ⟨g + 1, 0, none⟩), .string a1, .int .i64 a2] w fun e w' => e = .returned (.int .i64 r1) ∧ IsS60 w0 w' g r2 ∧ Below w0.heap.size w0 w' ∧ KeepSt w w' w0 := by
  cases h
  refine rt_next (mkL_prefix _ _).length_le hI hB fun q h1 h2 h3 h4 => ?_
  have := rhash_calls h4 a1 a2
  rw [Rf.ptr, h1, h2, h3] at this
  exact this
def conclaveref09_Signed.f (k : Nat) (s0_0 : T2) (a1_0 : Int) (a1_1 : Int) (a1_2 : Int) (a1_3 : Int) (a1_4 : Int) (a1_5 : Int) : Option (Int × T2) := (conclaveref09_Body.f k s0_0 a1_0 a1_1 a1_2 a1_3 a1_4 a1_5).bind fun bt247 => ((conclaveref01_Store_Hash.f bt247.2 (⟨#[99, 97, 114, 100]⟩ : ByteArray) bt247.1).bind fun bt249 => (some (bt249.1, bt249.2)))
theorem conclaveref09_Signed.mono : ∀ a0 a1 a2 a3 a4 a5 a6 k, LeO (conclaveref09_Signed.f k a0 a1 a2 a3 a4 a5 a6) (conclaveref09_Signed.f (k + 1) a0 a1 a2 a3 a4 a5 a6) := by
  intro a0 a1 a2 a3 a4 a5 a6 k
  unfold conclaveref09_Signed.f
  repeat' first
      | (with_reducible exact conclaveref09_Body.mono _ _ _ _ _ _ _ _)
      | (with_reducible exact LeO.refl _)
      | (with_reducible exact LeO.none _)
      | (with_reducible refine LeO.ite ?_ ?_)
      | (with_reducible refine LeO.bind ?_ (fun _ => ?_))
      | exact conclaveref09_Body.mono _ _ _ _ _ _ _ _
      | exact LeO.none _
      | refine LeO.ite ?_ ?_
      | refine LeO.bind ?_ (fun _ => ?_)
set_option maxHeartbeats 8000000 in
set_option maxRecDepth 100000 in
theorem conclaveref09_Signed.calls (k : Nat) (g : Nat) (s0_0 : T2) (a1_0 : Int) (a1_1 : Int) (a1_2 : Int) (a1_3 : Int) (a1_4 : Int) (a1_5 : Int) (r1 : Int) (r2 : T2) (w0 w : World) (hI : IsS60 w0 w g s0_0) (hB : Below w0.heap.size w0 w) (h : conclaveref09_Signed.f k s0_0 a1_0 a1_1 a1_2 a1_3 a1_4 a1_5 = some (r1, r2)) :
    Calls Tryd.prog 28 #[.pointer (some ⟨g + 1, 0, none⟩), .agg #[.int .i64 a1_0, .int .i64 a1_1, .int .i64 a1_2, .int .i64 a1_3, .int .i64 a1_4, .int .i64 a1_5]] w fun e w' => e = .returned (.int .i64 r1) ∧ IsS60 w0 w' g r2 ∧ Below w0.heap.size w0 w' ∧ KeepSt w w' w0 := by
  have hu36 := Tryd.underlying36
  have HI0 := Aside0.mk hI
  have HK := Aside0.mk (KeepSt.refl w w0)
  have HL := Aside0.mk hB.size
  clear hI
  have HW0 := Aside0.mk hB.size
  have HB := Aside0.mk hB
  clear hB
  have H : ((conclaveref09_Body.f k s0_0 a1_0 a1_1 a1_2 a1_3 a1_4 a1_5).bind fun bt247 => ((conclaveref01_Store_Hash.f bt247.2 (⟨#[99, 97, 114, 100]⟩ : ByteArray) bt247.1).bind fun bt249 => (some (bt249.1, bt249.2)))) = some (r1, r2) := h
  clear h
  replace H := Option.bind_eq_some_iff.mp H
  obtain ⟨⟨t247, t248⟩, A30, H⟩ := H
  replace H : ((conclaveref01_Store_Hash.f t248 (⟨#[99, 97, 114, 100]⟩ : ByteArray) t247).bind fun bt249 => (some (bt249.1, bt249.2))) = some (r1, r2) := H
  have A3 := Aside0.mk A30
  clear A30
  replace H := Option.bind_eq_some_iff.mp H
  obtain ⟨⟨t249, t250⟩, A40, H⟩ := H
  replace H : (some (t249, t250)) = some (r1, r2) := H
  have A4 := Aside0.mk A40
  clear A40
  simp only [Option.some.injEq, Prod.mk.injEq] at H
  obtain ⟨rfl, rfl⟩ := H
  go_enter Tryd.func28, Tryd.ntmps28
  go_wp2_with (first | ((with_reducible refine gate_dst (N := 3) rfl ?_); refine box_event ?hg (N := 3) ?hd (cs := #[.int .i64 a1_0, .int .i64 a1_1, .int .i64 a1_2, .int .i64 a1_3, .int .i64 a1_4, .int .i64 a1_5]) (t := 36) ?hr ?_; (case hd => rfl); (case hg => rfl); (case hr => first | (go_simp; done) | (go_simp; rfl)); intro gb246 hg w5 hbox hb; have n0_ := Aside0.mk (IsS60.below (by repeat (first | (with_reducible first | exact HI0.out | apply IsS60.alloc | apply IsS60.drewN | apply IsS60.drew | apply IsS60.set_0) | exact HI0.out)) hb); have n1_ := Aside0.mk (KeepSt.trans (by repeat (first | (with_reducible first | exact HK.out | apply KeepSt.drewN | apply KeepSt.drew | apply KeepSt.alloc) | exact HK.out)) (KeepSt.of_below hb w0)); have n2_ := Aside0.mk (below_step (by repeat (first | (with_reducible first | exact HB.out | apply below_alloc | apply pw_below_drewN | apply below_drew1 | refine below_set ?_ (IsS60.ge HI0.out)) | exact HB.out)) hb); have n3_ := Aside0.mk (hbox); have n4_ := Aside0.mk ((by rw [hg]; exact (KeepSt.size (w := w) (w0 := w0) (by repeat (first | (with_reducible first | exact HK.out | apply KeepSt.drewN | apply KeepSt.drew | apply KeepSt.alloc) | exact HK.out))) : w.heap.size ≤ gb246)); have n5_ := Aside0.mk ((Nat.le_trans HW0.out (by rw [hg]; exact (KeepSt.size (w := w) (w0 := w0) (by repeat (first | (with_reducible first | exact HK.out | apply KeepSt.drewN | apply KeepSt.drew | apply KeepSt.alloc) | exact HK.out))) : w.heap.size ≤ gb246) : w0.heap.size ≤ gb246)); have n6_ := Aside0.mk ((by rw [hg]; exact Nat.ne_of_lt (IsS60.lt (show IsS60 w0 _ g s0_0 from by repeat (first | (with_reducible first | exact HI0.out | apply IsS60.alloc | apply IsS60.drewN | apply IsS60.drew | apply IsS60.set_0) | exact HI0.out))) : g ≠ gb246)); have n7_ := Aside0.mk ((by rw [hg]; exact Nat.ne_of_gt (IsS60.lt (show IsS60 w0 _ g s0_0 from by repeat (first | (with_reducible first | exact HI0.out | apply IsS60.alloc | apply IsS60.drewN | apply IsS60.drew | apply IsS60.set_0) | exact HI0.out))) : gb246 ≠ g)); clear HI0; clear HK; clear HB; have HI0 := n0_; have HK := n1_; have HB := n2_; have BK246 := n3_; have GW246 := n4_; have GE246 := n5_; have NB0_246 := n6_; have NB246_0 := n7_; clear n0_ n1_ n2_ n3_ n4_ n5_ n6_ n7_; clear hb hbox hg; have hnb6 := NB246_0.out; have hnc6 := NB0_246.out; have hcz7_0 : w5.cell? ⟨gb246, 0, none⟩ = some (.int .i64 a1_0) := (blk_cell BK246.out 0).trans rfl; have hcz7_1 : w5.cell? ⟨gb246, 1, none⟩ = some (.int .i64 a1_1) := (blk_cell BK246.out 1).trans rfl; have hcz7_2 : w5.cell? ⟨gb246, 2, none⟩ = some (.int .i64 a1_2) := (blk_cell BK246.out 2).trans rfl; have hcz7_3 : w5.cell? ⟨gb246, 3, none⟩ = some (.int .i64 a1_3) := (blk_cell BK246.out 3).trans rfl; have hcz7_4 : w5.cell? ⟨gb246, 4, none⟩ = some (.int .i64 a1_4) := (blk_cell BK246.out 4).trans rfl; have hcz7_5 : w5.cell? ⟨gb246, 5, none⟩ = some (.int .i64 a1_5) := (blk_cell BK246.out 5).trans rfl; have hfz7_0 := blk_frozen BK246.out 0; have hfz7_1 := blk_frozen BK246.out 1; have hfz7_2 := blk_frozen BK246.out 2; have hfz7_3 := blk_frozen BK246.out 3; have hfz7_4 := blk_frozen BK246.out 4; have hfz7_5 := blk_frozen BK246.out 5) | ((with_reducible refine gate_callee (f := 37) rfl ?_); refine goesL_ (some 8) rfl rfl Tryd.func37 (by kernel_rfl) rfl #[.pointer (some ⟨g + 1, 0, none⟩), .agg #[.int .i64 a1_0, .int .i64 a1_1, .int .i64 a1_2, .int .i64 a1_3, .int .i64 a1_4, .int .i64 a1_5]] rfl (by (try simp only [List.map_toArray, List.map_cons, List.map_nil]); first | done | rfl | (simp only [List.length_drop, List.length_take]; rfl)) ?_; (with_reducible refine (conclaveref09_Body.calls k g s0_0 a1_0 a1_1 a1_2 a1_3 a1_4 a1_5 t247 t248 w0 _ ?side1 ?side2 A3.out).mono ?_); (case side1 => repeat (first | (with_reducible first | exact HI0.out | apply IsS60.alloc | apply IsS60.drewN | apply IsS60.drew | apply IsS60.set_0 | (focus (refine IsS60.far ?_ ?_ _; rotate_left; (focus ((repeat (first | (with_reducible exact Nsty.of BK246.out rfl) | apply Nsty.set | apply Nsty.drewN | apply Nsty.drew | apply Nsty.alloc)); done))))) | exact HI0.out)); (case side2 => repeat (first | (with_reducible first | exact HB.out | apply below_alloc | apply pw_below_drewN | apply below_drew1 | refine below_set ?_ (IsS60.ge HI0.out) | refine below_set ?_ GE246.out) | exact HB.out)); rintro e w8 ⟨rfl, hi, hb, hk⟩; refine ⟨_, rfl, ?_⟩; have n0_ := Aside0.mk (KeepSt.blk hk (g' := gb246) (o := .cells #[.int .i64 a1_0, .int .i64 a1_1, .int .i64 a1_2, .int .i64 a1_3, .int .i64 a1_4, .int .i64 a1_5] 36 (0, 0)) (by (with_reducible repeat (first | refine blk_drewN ?_ _ | refine blk_drew ?_ | refine blk_alloc ?_ _)); exact BK246.out) NB246_0.out rfl); have n1_ := Aside0.mk (KeepSt.trans (by repeat (first | (with_reducible first | exact HK.out | apply KeepSt.drewN | apply KeepSt.drew | apply KeepSt.alloc | refine KeepSt.far ?_ GW246.out _) | exact HK.out)) hk); have n2_ := Aside0.mk (hb); have n3_ := Aside0.mk (hi); clear BK246; clear HK; clear HB; clear HI0; have BK246 := n0_; have HK := n1_; have HB := n2_; have HI0 := n3_; clear n0_ n1_ n2_ n3_; (try clear hb); (try clear hb2); (try clear hk); (try clear hi)) | ((with_reducible refine gate_callee (f := 38) rfl ?_); refine goesL_ (some 11) rfl rfl Tryd.func38 (by kernel_rfl) rfl #[.pointer (some ⟨g + 1, 0, none⟩), .string (⟨#[99, 97, 114, 100]⟩ : ByteArray), .int .i64 t247] rfl (by (try simp only [List.map_toArray, List.map_cons, List.map_nil]); first | done | rfl | (simp only [List.length_drop, List.length_take]; rfl)) ?_; (with_reducible refine (conclaveref01_Store_Hash.calls g t248 (⟨#[99, 97, 114, 100]⟩ : ByteArray) t247 t249 t250 w0 _ ?side1 ?side2 A4.out).mono ?_); (case side1 => repeat (first | (with_reducible first | exact HI0.out | apply IsS60.alloc | apply IsS60.drewN | apply IsS60.drew | apply IsS60.set_0 | (focus (refine IsS60.far ?_ ?_ _; rotate_left; (focus ((repeat (first | (with_reducible exact Nsty.of BK246.out rfl) | apply Nsty.set | apply Nsty.drewN | apply Nsty.drew | apply Nsty.alloc)); done))))) | exact HI0.out)); (case side2 => repeat (first | (with_reducible first | exact HB.out | apply below_alloc | apply pw_below_drewN | apply below_drew1 | refine below_set ?_ (IsS60.ge HI0.out) | refine below_set ?_ GE246.out) | exact HB.out)); rintro e w9 ⟨rfl, hi, hb, hk⟩; refine ⟨_, rfl, ?_⟩; have n0_ := Aside0.mk (KeepSt.blk hk (g' := gb246) (o := .cells #[.int .i64 a1_0, .int .i64 a1_1, .int .i64 a1_2, .int .i64 a1_3, .int .i64 a1_4, .int .i64 a1_5] 36 (0, 0)) (by (with_reducible repeat (first | refine blk_drewN ?_ _ | refine blk_drew ?_ | refine blk_alloc ?_ _)); exact BK246.out) NB246_0.out rfl); have n1_ := Aside0.mk (KeepSt.trans (by repeat (first | (with_reducible first | exact HK.out | apply KeepSt.drewN | apply KeepSt.drew | apply KeepSt.alloc | refine KeepSt.far ?_ GW246.out _) | exact HK.out)) hk); have n2_ := Aside0.mk (hb); have n3_ := Aside0.mk (hi); clear BK246; clear HK; clear HB; clear HI0; have BK246 := n0_; have HK := n1_; have HB := n2_; have HI0 := n3_; clear n0_ n1_ n2_ n3_; (try clear hb); (try clear hb2); (try clear hk); (try clear hi)))
  go_ret
  exact ⟨by first | rfl | (simp [errW_none, errW_some] <;> rfl) | (simp [*, errW_none, errW_some] <;> rfl), by repeat (first | (with_reducible first | exact HI0.out | apply IsS60.alloc | apply IsS60.drewN | apply IsS60.drew | apply IsS60.set_0 | (focus (refine IsS60.far ?_ ?_ _; rotate_left; (focus ((repeat (first | (with_reducible exact Nsty.of BK246.out rfl) | apply Nsty.set | apply Nsty.drewN | apply Nsty.drew | apply Nsty.alloc)); done))))) | exact HI0.out), by repeat (first | (with_reducible first | exact HB.out | apply below_alloc | apply pw_below_drewN | apply below_drew1 | refine below_set ?_ (IsS60.ge HI0.out) | refine below_set ?_ GE246.out) | exact HB.out), by repeat (first | (with_reducible first | exact HK.out | apply KeepSt.drewN | apply KeepSt.drew | apply KeepSt.alloc | refine KeepSt.far ?_ GW246.out _) | exact HK.out)⟩
def conclaveref01_Store_Sign.f (s0_0 : T2) (a1 : Int) (a2 : Int) : Option (Int × T2) := some ((put s0_0.r ⟨9, ByteArray.empty, a1, a2⟩).1, ⟨s0_0.p, (put s0_0.r ⟨9, ByteArray.empty, a1, a2⟩).2⟩)
theorem conclaveref01_Store_Sign.calls (g : Nat) (s0_0 : T2) (a1 : Int) (a2 : Int) (r1 : Int) (r2 : T2) (w0 w : World) (hI : IsS60 w0 w g s0_0) (hB : Below w0.heap.size w0 w) (h : conclaveref01_Store_Sign.f s0_0 a1 a2 = some (r1, r2)) :
    Calls Tryd.prog 29 #[.pointer (some ⟨g + 1, 0, none⟩), .int .i64 a1, .int .i64 a2] w fun e w' => e = .returned (.int .i64 r1) ∧ IsS60 w0 w' g r2 ∧ Below w0.heap.size w0 w' ∧ KeepSt w w' w0 := by
  cases h
  refine rt_next (mkL_prefix _ _).length_le hI hB fun q h1 h2 h3 h4 => ?_
  have := rsign_calls h4 a1 a2
  rw [Rf.ptr, h1, h2, h3] at this
  exact this
def conclaveref09_Make.f (k : Nat) (s0_0 : T2) (a1 : Int) (a2 : Int) (a3 : Int) (a4 : Int) (a5 : Int) : Option (Int × Int × Int × Int × Int × Int × T2) := (conclaveref01_Store_Pub.f s0_0 a3).bind fun bt253 => ((conclaveref01_Store_Pub.f bt253.2 a4).bind fun bt255 => ((conclaveref01_Store_Pub.f bt255.2 a2).bind fun bt257 => ((conclaveref09_Signed.f k bt257.2 a1 bt253.1 bt255.1 bt257.1 a5 0).bind fun bt259 => ((conclaveref01_Store_Sign.f bt259.2 a2 bt259.1).bind fun bt261 => (some (a1, bt253.1, bt255.1, bt257.1, a5, bt261.1, bt261.2))))))
theorem conclaveref09_Make.mono : ∀ a0 a1 a2 a3 a4 a5 k, LeO (conclaveref09_Make.f k a0 a1 a2 a3 a4 a5) (conclaveref09_Make.f (k + 1) a0 a1 a2 a3 a4 a5) := by
  intro a0 a1 a2 a3 a4 a5 k
  unfold conclaveref09_Make.f
  repeat' first
      | (with_reducible exact conclaveref09_Signed.mono _ _ _ _ _ _ _ _)
      | (with_reducible exact LeO.refl _)
      | (with_reducible exact LeO.none _)
      | (with_reducible refine LeO.ite ?_ ?_)
      | (with_reducible refine LeO.bind ?_ (fun _ => ?_))
      | exact conclaveref09_Signed.mono _ _ _ _ _ _ _ _
      | exact LeO.none _
      | refine LeO.ite ?_ ?_
      | refine LeO.bind ?_ (fun _ => ?_)
set_option maxHeartbeats 8000000 in
set_option maxRecDepth 100000 in
theorem conclaveref09_Make.calls (k : Nat) (g : Nat) (s0_0 : T2) (a1 : Int) (a2 : Int) (a3 : Int) (a4 : Int) (a5 : Int) (r1 : Int) (r2 : Int) (r3 : Int) (r4 : Int) (r5 : Int) (r6 : Int) (r7 : T2) (w0 w : World) (hI : IsS60 w0 w g s0_0) (hB : Below w0.heap.size w0 w) (h : conclaveref09_Make.f k s0_0 a1 a2 a3 a4 a5 = some (r1, r2, r3, r4, r5, r6, r7)) :
    Calls Tryd.prog 12 #[.pointer (some ⟨g + 1, 0, none⟩), .int .i64 a1, .int .i64 a2, .int .i64 a3, .int .i64 a4, .int .i64 a5] w fun e w' => e = .returned (.agg #[.int .i64 r1, .int .i64 r2, .int .i64 r3, .int .i64 r4, .int .i64 r5, .int .i64 r6]) ∧ IsS60 w0 w' g r7 ∧ Below w0.heap.size w0 w' ∧ KeepSt w w' w0 := by
  have hu36 := Tryd.underlying36
  have HI0 := Aside0.mk hI
  have HK := Aside0.mk (KeepSt.refl w w0)
  have HL := Aside0.mk hB.size
  clear hI
  have HW0 := Aside0.mk hB.size
  have HB := Aside0.mk hB
  clear hB
  have H : ((conclaveref01_Store_Pub.f s0_0 a3).bind fun bt253 => ((conclaveref01_Store_Pub.f bt253.2 a4).bind fun bt255 => ((conclaveref01_Store_Pub.f bt255.2 a2).bind fun bt257 => ((conclaveref09_Signed.f k bt257.2 a1 bt253.1 bt255.1 bt257.1 a5 0).bind fun bt259 => ((conclaveref01_Store_Sign.f bt259.2 a2 bt259.1).bind fun bt261 => (some (a1, bt253.1, bt255.1, bt257.1, a5, bt261.1, bt261.2))))))) = some (r1, r2, r3, r4, r5, r6, r7) := h
  clear h
  replace H := Option.bind_eq_some_iff.mp H
  obtain ⟨⟨t253, t254⟩, A70, H⟩ := H
  replace H : ((conclaveref01_Store_Pub.f t254 a4).bind fun bt255 => ((conclaveref01_Store_Pub.f bt255.2 a2).bind fun bt257 => ((conclaveref09_Signed.f k bt257.2 a1 t253 bt255.1 bt257.1 a5 0).bind fun bt259 => ((conclaveref01_Store_Sign.f bt259.2 a2 bt259.1).bind fun bt261 => (some (a1, t253, bt255.1, bt257.1, a5, bt261.1, bt261.2)))))) = some (r1, r2, r3, r4, r5, r6, r7) := H
  have A7 := Aside0.mk A70
  clear A70
  replace H := Option.bind_eq_some_iff.mp H
  obtain ⟨⟨t255, t256⟩, A80, H⟩ := H
  replace H : ((conclaveref01_Store_Pub.f t256 a2).bind fun bt257 => ((conclaveref09_Signed.f k bt257.2 a1 t253 t255 bt257.1 a5 0).bind fun bt259 => ((conclaveref01_Store_Sign.f bt259.2 a2 bt259.1).bind fun bt261 => (some (a1, t253, t255, bt257.1, a5, bt261.1, bt261.2))))) = some (r1, r2, r3, r4, r5, r6, r7) := H
  have A8 := Aside0.mk A80
  clear A80
  replace H := Option.bind_eq_some_iff.mp H
  obtain ⟨⟨t257, t258⟩, A90, H⟩ := H
  replace H : ((conclaveref09_Signed.f k t258 a1 t253 t255 t257 a5 0).bind fun bt259 => ((conclaveref01_Store_Sign.f bt259.2 a2 bt259.1).bind fun bt261 => (some (a1, t253, t255, t257, a5, bt261.1, bt261.2)))) = some (r1, r2, r3, r4, r5, r6, r7) := H
  have A9 := Aside0.mk A90
  clear A90
  replace H := Option.bind_eq_some_iff.mp H
  obtain ⟨⟨t259, t260⟩, A100, H⟩ := H
  replace H : ((conclaveref01_Store_Sign.f t260 a2 t259).bind fun bt261 => (some (a1, t253, t255, t257, a5, bt261.1, bt261.2))) = some (r1, r2, r3, r4, r5, r6, r7) := H
  have A10 := Aside0.mk A100
  clear A100
  replace H := Option.bind_eq_some_iff.mp H
  obtain ⟨⟨t261, t262⟩, A110, H⟩ := H
  replace H : (some (a1, t253, t255, t257, a5, t261, t262)) = some (r1, r2, r3, r4, r5, r6, r7) := H
  have A11 := Aside0.mk A110
  clear A110
  simp only [Option.some.injEq, Prod.mk.injEq] at H
  obtain ⟨rfl, rfl, rfl, rfl, rfl, rfl, rfl⟩ := H
  go_enter Tryd.func12, Tryd.ntmps12
  go_wp2_with (first | ((with_reducible refine gate_dst (N := 12) rfl ?_); refine box_event ?hg (N := 12) ?hd (cs := #[.int .i64 0, .int .i64 0, .int .i64 0, .int .i64 0, .int .i64 0, .int .i64 0]) (t := 36) ?hr ?_; (case hd => rfl); (case hg => rfl); (case hr => first | (go_simp; done) | (go_simp; rfl)); intro gb251 hg w12 hbox hb; have n0_ := Aside0.mk (IsS60.below (by repeat (first | (with_reducible first | exact HI0.out | apply IsS60.alloc | apply IsS60.drewN | apply IsS60.drew | apply IsS60.set_0) | exact HI0.out)) hb); have n1_ := Aside0.mk (KeepSt.trans (by repeat (first | (with_reducible first | exact HK.out | apply KeepSt.drewN | apply KeepSt.drew | apply KeepSt.alloc) | exact HK.out)) (KeepSt.of_below hb w0)); have n2_ := Aside0.mk (below_step (by repeat (first | (with_reducible first | exact HB.out | apply below_alloc | apply pw_below_drewN | apply below_drew1 | refine below_set ?_ (IsS60.ge HI0.out)) | exact HB.out)) hb); have n3_ := Aside0.mk (hbox); have n4_ := Aside0.mk ((by rw [hg]; exact (KeepSt.size (w := w) (w0 := w0) (by repeat (first | (with_reducible first | exact HK.out | apply KeepSt.drewN | apply KeepSt.drew | apply KeepSt.alloc) | exact HK.out))) : w.heap.size ≤ gb251)); have n5_ := Aside0.mk ((Nat.le_trans HW0.out (by rw [hg]; exact (KeepSt.size (w := w) (w0 := w0) (by repeat (first | (with_reducible first | exact HK.out | apply KeepSt.drewN | apply KeepSt.drew | apply KeepSt.alloc) | exact HK.out))) : w.heap.size ≤ gb251) : w0.heap.size ≤ gb251)); have n6_ := Aside0.mk ((by rw [hg]; exact Nat.ne_of_lt (IsS60.lt (show IsS60 w0 _ g s0_0 from by repeat (first | (with_reducible first | exact HI0.out | apply IsS60.alloc | apply IsS60.drewN | apply IsS60.drew | apply IsS60.set_0) | exact HI0.out))) : g ≠ gb251)); have n7_ := Aside0.mk ((by rw [hg]; exact Nat.ne_of_gt (IsS60.lt (show IsS60 w0 _ g s0_0 from by repeat (first | (with_reducible first | exact HI0.out | apply IsS60.alloc | apply IsS60.drewN | apply IsS60.drew | apply IsS60.set_0) | exact HI0.out))) : gb251 ≠ g)); clear HI0; clear HK; clear HB; have HI0 := n0_; have HK := n1_; have HB := n2_; have BK251 := n3_; have GW251 := n4_; have GE251 := n5_; have NB0_251 := n6_; have NB251_0 := n7_; clear n0_ n1_ n2_ n3_ n4_ n5_ n6_ n7_; clear hb hbox hg) | ((with_reducible refine gate_dst (N := 13) rfl ?_); refine box_event ?hg (N := 13) ?hd (cs := #[.int .i64 0, .int .i64 0, .int .i64 0, .int .i64 0, .int .i64 0, .int .i64 0]) (t := 36) ?hr ?_; (case hd => rfl); (case hg => rfl); (case hr => first | (go_simp; done) | (go_simp; rfl)); intro gb252 hg w13 hbox hb; have n0_ := Aside0.mk (IsS60.below (by repeat (first | (with_reducible first | exact HI0.out | apply IsS60.alloc | apply IsS60.drewN | apply IsS60.drew | apply IsS60.set_0 | (focus (refine IsS60.far ?_ ?_ _; rotate_left; (focus ((repeat (first | (with_reducible exact Nsty.of BK251.out rfl) | apply Nsty.set | apply Nsty.drewN | apply Nsty.drew | apply Nsty.alloc)); done))))) | exact HI0.out)) hb); have n1_ := Aside0.mk (blk_below (g := gb251) (o := .cells #[.int .i64 0, .int .i64 0, .int .i64 0, .int .i64 0, .int .i64 0, .int .i64 0] 36 (0, 0)) (by (with_reducible repeat (first | refine blk_drewN ?_ _ | refine blk_drew ?_ | refine blk_alloc ?_ _)); exact BK251.out) hb); have n2_ := Aside0.mk (KeepSt.trans (by repeat (first | (with_reducible first | exact HK.out | apply KeepSt.drewN | apply KeepSt.drew | apply KeepSt.alloc | refine KeepSt.far ?_ GW251.out _) | exact HK.out)) (KeepSt.of_below hb w0)); have n3_ := Aside0.mk (below_step (by repeat (first | (with_reducible first | exact HB.out | apply below_alloc | apply pw_below_drewN | apply below_drew1 | refine below_set ?_ (IsS60.ge HI0.out) | refine below_set ?_ GE251.out) | exact HB.out)) hb); have n4_ := Aside0.mk (hbox); have n5_ := Aside0.mk ((by rw [hg]; exact (KeepSt.size (w := w) (w0 := w0) (by repeat (first | (with_reducible first | exact HK.out | apply KeepSt.drewN | apply KeepSt.drew | apply KeepSt.alloc | refine KeepSt.far ?_ GW251.out _) | exact HK.out))) : w.heap.size ≤ gb252)); have n6_ := Aside0.mk ((Nat.le_trans HW0.out (by rw [hg]; exact (KeepSt.size (w := w) (w0 := w0) (by repeat (first | (with_reducible first | exact HK.out | apply KeepSt.drewN | apply KeepSt.drew | apply KeepSt.alloc | refine KeepSt.far ?_ GW251.out _) | exact HK.out))) : w.heap.size ≤ gb252) : w0.heap.size ≤ gb252)); have n7_ := Aside0.mk ((by rw [hg]; exact Nat.ne_of_lt (blk_lt (g := gb251) (o := .cells #[.int .i64 0, .int .i64 0, .int .i64 0, .int .i64 0, .int .i64 0, .int .i64 0] 36 (0, 0)) (by (with_reducible repeat (first | refine blk_drewN ?_ _ | refine blk_drew ?_ | refine blk_alloc ?_ _)); exact BK251.out)) : gb251 ≠ gb252)); have n8_ := Aside0.mk ((by rw [hg]; exact Nat.ne_of_gt (blk_lt (g := gb251) (o := .cells #[.int .i64 0, .int .i64 0, .int .i64 0, .int .i64 0, .int .i64 0, .int .i64 0] 36 (0, 0)) (by (with_reducible repeat (first | refine blk_drewN ?_ _ | refine blk_drew ?_ | refine blk_alloc ?_ _)); exact BK251.out)) : gb252 ≠ gb251)); have n9_ := Aside0.mk ((by rw [hg]; exact Nat.ne_of_lt (IsS60.lt (show IsS60 w0 _ g s0_0 from by repeat (first | (with_reducible first | exact HI0.out | apply IsS60.alloc | apply IsS60.drewN | apply IsS60.drew | apply IsS60.set_0 | (focus (refine IsS60.far ?_ ?_ _; rotate_left; (focus ((repeat (first | (with_reducible exact Nsty.of BK251.out rfl) | apply Nsty.set | apply Nsty.drewN | apply Nsty.drew | apply Nsty.alloc)); done))))) | exact HI0.out))) : g ≠ gb252)); have n10_ := Aside0.mk ((by rw [hg]; exact Nat.ne_of_gt (IsS60.lt (show IsS60 w0 _ g s0_0 from by repeat (first | (with_reducible first | exact HI0.out | apply IsS60.alloc | apply IsS60.drewN | apply IsS60.drew | apply IsS60.set_0 | (focus (refine IsS60.far ?_ ?_ _; rotate_left; (focus ((repeat (first | (with_reducible exact Nsty.of BK251.out rfl) | apply Nsty.set | apply Nsty.drewN | apply Nsty.drew | apply Nsty.alloc)); done))))) | exact HI0.out))) : gb252 ≠ g)); clear HI0; clear BK251; clear HK; clear HB; have HI0 := n0_; have BK251 := n1_; have HK := n2_; have HB := n3_; have BK252 := n4_; have GW252 := n5_; have GE252 := n6_; have NB251_252 := n7_; have NB252_251 := n8_; have NB0_252 := n9_; have NB252_0 := n10_; clear n0_ n1_ n2_ n3_ n4_ n5_ n6_ n7_ n8_ n9_ n10_; clear hb hbox hg; have hnb14 := NB252_251.out; have hnc14 := NB251_252.out; have hnb15 := NB252_0.out; have hnc15 := NB0_252.out; have hcz16_0 : w13.cell? ⟨gb252, 0, none⟩ = some (.int .i64 0) := (blk_cell BK252.out 0).trans rfl; have hcz16_1 : w13.cell? ⟨gb252, 1, none⟩ = some (.int .i64 0) := (blk_cell BK252.out 1).trans rfl; have hcz16_2 : w13.cell? ⟨gb252, 2, none⟩ = some (.int .i64 0) := (blk_cell BK252.out 2).trans rfl; have hcz16_3 : w13.cell? ⟨gb252, 3, none⟩ = some (.int .i64 0) := (blk_cell BK252.out 3).trans rfl; have hcz16_4 : w13.cell? ⟨gb252, 4, none⟩ = some (.int .i64 0) := (blk_cell BK252.out 4).trans rfl; have hcz16_5 : w13.cell? ⟨gb252, 5, none⟩ = some (.int .i64 0) := (blk_cell BK252.out 5).trans rfl; have hfz16_0 := blk_frozen BK252.out 0; have hfz16_1 := blk_frozen BK252.out 1; have hfz16_2 := blk_frozen BK252.out 2; have hfz16_3 := blk_frozen BK252.out 3; have hfz16_4 := blk_frozen BK252.out 4; have hfz16_5 := blk_frozen BK252.out 5) | ((with_reducible refine gate_callee (f := 21) rfl ?_); refine goesL_ (some 20) rfl rfl Tryd.func21 (by kernel_rfl) rfl #[.pointer (some ⟨g + 1, 0, none⟩), .int .i64 a3] rfl (by (try simp only [List.map_toArray, List.map_cons, List.map_nil]); first | done | rfl | (simp only [List.length_drop, List.length_take]; rfl)) ?_; (with_reducible refine (conclaveref01_Store_Pub.calls g s0_0 a3 t253 t254 w0 _ ?side1 ?side2 A7.out).mono ?_); (case side1 => repeat (first | (with_reducible first | exact HI0.out | apply IsS60.alloc | apply IsS60.drewN | apply IsS60.drew | apply IsS60.set_0 | (focus (refine IsS60.far ?_ ?_ _; rotate_left; (focus ((repeat (first | (with_reducible exact Nsty.of BK251.out rfl) | apply Nsty.set | apply Nsty.drewN | apply Nsty.drew | apply Nsty.alloc)); done)))) | (focus (refine IsS60.far ?_ ?_ _; rotate_left; (focus ((repeat (first | (with_reducible exact Nsty.of BK252.out rfl) | apply Nsty.set | apply Nsty.drewN | apply Nsty.drew | apply Nsty.alloc)); done))))) | exact HI0.out)); (case side2 => repeat (first | (with_reducible first | exact HB.out | apply below_alloc | apply pw_below_drewN | apply below_drew1 | refine below_set ?_ (IsS60.ge HI0.out) | refine below_set ?_ GE251.out | refine below_set ?_ GE252.out) | exact HB.out)); rintro e w17 ⟨rfl, hi, hb, hk⟩; refine ⟨_, rfl, ?_⟩; have n0_ := Aside0.mk (KeepSt.blk hk (g' := gb251) (o := .cells #[.int .i64 0, .int .i64 0, .int .i64 0, .int .i64 0, .int .i64 0, .int .i64 0] 36 (0, 0)) (by (with_reducible repeat (first | refine blk_drewN ?_ _ | refine blk_drew ?_ | refine blk_alloc ?_ _)); refine blk_far ?_ NB251_252.out _; (with_reducible repeat (first | refine blk_drewN ?_ _ | refine blk_drew ?_ | refine blk_alloc ?_ _)); refine blk_far ?_ NB251_252.out _; (with_reducible repeat (first | refine blk_drewN ?_ _ | refine blk_drew ?_ | refine blk_alloc ?_ _)); refine blk_far ?_ NB251_252.out _; (with_reducible repeat (first | refine blk_drewN ?_ _ | refine blk_drew ?_ | refine blk_alloc ?_ _)); refine blk_far ?_ NB251_252.out _; (with_reducible repeat (first | refine blk_drewN ?_ _ | refine blk_drew ?_ | refine blk_alloc ?_ _)); refine blk_far ?_ NB251_252.out _; (with_reducible repeat (first | refine blk_drewN ?_ _ | refine blk_drew ?_ | refine blk_alloc ?_ _)); refine blk_far ?_ NB251_252.out _; (with_reducible repeat (first | refine blk_drewN ?_ _ | refine blk_drew ?_ | refine blk_alloc ?_ _)); exact BK251.out) NB251_0.out rfl); have n1_ := Aside0.mk (KeepSt.blk hk (g' := gb252) (o := .cells #[.int .i64 a1, .int .i64 0, .int .i64 0, .int .i64 0, .int .i64 a5, .int .i64 0] 36 (0, 0)) (by (with_reducible repeat (first | refine blk_drewN ?_ _ | refine blk_drew ?_ | refine blk_alloc ?_ _)); refine blk_put (cs := #[.int .i64 a1, .int .i64 0, .int .i64 0, .int .i64 0, .int .i64 a5, .int .i64 0]) ?_ 5 _ rfl; (with_reducible repeat (first | refine blk_drewN ?_ _ | refine blk_drew ?_ | refine blk_alloc ?_ _)); refine blk_put (cs := #[.int .i64 a1, .int .i64 0, .int .i64 0, .int .i64 0, .int .i64 0, .int .i64 0]) ?_ 4 _ rfl; (with_reducible repeat (first | refine blk_drewN ?_ _ | refine blk_drew ?_ | refine blk_alloc ?_ _)); refine blk_put (cs := #[.int .i64 a1, .int .i64 0, .int .i64 0, .int .i64 0, .int .i64 0, .int .i64 0]) ?_ 3 _ rfl; (with_reducible repeat (first | refine blk_drewN ?_ _ | refine blk_drew ?_ | refine blk_alloc ?_ _)); refine blk_put (cs := #[.int .i64 a1, .int .i64 0, .int .i64 0, .int .i64 0, .int .i64 0, .int .i64 0]) ?_ 2 _ rfl; (with_reducible repeat (first | refine blk_drewN ?_ _ | refine blk_drew ?_ | refine blk_alloc ?_ _)); refine blk_put (cs := #[.int .i64 a1, .int .i64 0, .int .i64 0, .int .i64 0, .int .i64 0, .int .i64 0]) ?_ 1 _ rfl; (with_reducible repeat (first | refine blk_drewN ?_ _ | refine blk_drew ?_ | refine blk_alloc ?_ _)); refine blk_put (cs := #[.int .i64 0, .int .i64 0, .int .i64 0, .int .i64 0, .int .i64 0, .int .i64 0]) ?_ 0 _ rfl; (with_reducible repeat (first | refine blk_drewN ?_ _ | refine blk_drew ?_ | refine blk_alloc ?_ _)); exact BK252.out) NB252_0.out rfl); have n2_ := Aside0.mk (KeepSt.trans (by repeat (first | (with_reducible first | exact HK.out | apply KeepSt.drewN | apply KeepSt.drew | apply KeepSt.alloc | refine KeepSt.far ?_ GW251.out _ | refine KeepSt.far ?_ GW252.out _) | exact HK.out)) hk); have n3_ := Aside0.mk (hb); have n4_ := Aside0.mk (hi); clear BK251; clear BK252; clear HK; clear HB; clear HI0; have BK251 := n0_; have BK252 := n1_; have HK := n2_; have HB := n3_; have HI0 := n4_; clear n0_ n1_ n2_ n3_ n4_; (try clear hb); (try clear hb2); (try clear hk); (try clear hi); have hcz18_0 : w17.cell? ⟨gb252, 0, none⟩ = some (.int .i64 a1) := (blk_cell BK252.out 0).trans rfl; have hcz18_1 : w17.cell? ⟨gb252, 1, none⟩ = some (.int .i64 0) := (blk_cell BK252.out 1).trans rfl; have hcz18_2 : w17.cell? ⟨gb252, 2, none⟩ = some (.int .i64 0) := (blk_cell BK252.out 2).trans rfl; have hcz18_3 : w17.cell? ⟨gb252, 3, none⟩ = some (.int .i64 0) := (blk_cell BK252.out 3).trans rfl; have hcz18_4 : w17.cell? ⟨gb252, 4, none⟩ = some (.int .i64 a5) := (blk_cell BK252.out 4).trans rfl; have hcz18_5 : w17.cell? ⟨gb252, 5, none⟩ = some (.int .i64 0) := (blk_cell BK252.out 5).trans rfl; have hfz18_0 := blk_frozen BK252.out 0; have hfz18_1 := blk_frozen BK252.out 1; have hfz18_2 := blk_frozen BK252.out 2; have hfz18_3 := blk_frozen BK252.out 3; have hfz18_4 := blk_frozen BK252.out 4; have hfz18_5 := blk_frozen BK252.out 5) | ((with_reducible refine gate_callee (f := 21) rfl ?_); refine goesL_ (some 24) rfl rfl Tryd.func21 (by kernel_rfl) rfl #[.pointer (some ⟨g + 1, 0, none⟩), .int .i64 a4] rfl (by (try simp only [List.map_toArray, List.map_cons, List.map_nil]); first | done | rfl | (simp only [List.length_drop, List.length_take]; rfl)) ?_; (with_reducible refine (conclaveref01_Store_Pub.calls g t254 a4 t255 t256 w0 _ ?side1 ?side2 A8.out).mono ?_); (case side1 => repeat (first | (with_reducible first | exact HI0.out | apply IsS60.alloc | apply IsS60.drewN | apply IsS60.drew | apply IsS60.set_0 | (focus (refine IsS60.far ?_ ?_ _; rotate_left; (focus ((repeat (first | (with_reducible exact Nsty.of BK251.out rfl) | apply Nsty.set | apply Nsty.drewN | apply Nsty.drew | apply Nsty.alloc)); done)))) | (focus (refine IsS60.far ?_ ?_ _; rotate_left; (focus ((repeat (first | (with_reducible exact Nsty.of BK252.out rfl) | apply Nsty.set | apply Nsty.drewN | apply Nsty.drew | apply Nsty.alloc)); done))))) | exact HI0.out)); (case side2 => repeat (first | (with_reducible first | exact HB.out | apply below_alloc | apply pw_below_drewN | apply below_drew1 | refine below_set ?_ (IsS60.ge HI0.out) | refine below_set ?_ GE251.out | refine below_set ?_ GE252.out) | exact HB.out)); rintro e w19 ⟨rfl, hi, hb, hk⟩; refine ⟨_, rfl, ?_⟩; have n0_ := Aside0.mk (KeepSt.blk hk (g' := gb251) (o := .cells #[.int .i64 0, .int .i64 0, .int .i64 0, .int .i64 0, .int .i64 0, .int .i64 0] 36 (0, 0)) (by (with_reducible repeat (first | refine blk_drewN ?_ _ | refine blk_drew ?_ | refine blk_alloc ?_ _)); refine blk_far ?_ NB251_252.out _; (with_reducible repeat (first | refine blk_drewN ?_ _ | refine blk_drew ?_ | refine blk_alloc ?_ _)); exact BK251.out) NB251_0.out rfl); have n1_ := Aside0.mk (KeepSt.blk hk (g' := gb252) (o := .cells #[.int .i64 a1, .int .i64 t253, .int .i64 0, .int .i64 0, .int .i64 a5, .int .i64 0] 36 (0, 0)) (by (with_reducible repeat (first | refine blk_drewN ?_ _ | refine blk_drew ?_ | refine blk_alloc ?_ _)); refine blk_put (cs := #[.int .i64 a1, .int .i64 0, .int .i64 0, .int .i64 0, .int .i64 a5, .int .i64 0]) ?_ 1 _ rfl; (with_reducible repeat (first | refine blk_drewN ?_ _ | refine blk_drew ?_ | refine blk_alloc ?_ _)); exact BK252.out) NB252_0.out rfl); have n2_ := Aside0.mk (KeepSt.trans (by repeat (first | (with_reducible first | exact HK.out | apply KeepSt.drewN | apply KeepSt.drew | apply KeepSt.alloc | refine KeepSt.far ?_ GW251.out _ | refine KeepSt.far ?_ GW252.out _) | exact HK.out)) hk); have n3_ := Aside0.mk (hb); have n4_ := Aside0.mk (hi); clear BK251; clear BK252; clear HK; clear HB; clear HI0; have BK251 := n0_; have BK252 := n1_; have HK := n2_; have HB := n3_; have HI0 := n4_; clear n0_ n1_ n2_ n3_ n4_; (try clear hb); (try clear hb2); (try clear hk); (try clear hi); have hcz20_0 : w19.cell? ⟨gb252, 0, none⟩ = some (.int .i64 a1) := (blk_cell BK252.out 0).trans rfl; have hcz20_1 : w19.cell? ⟨gb252, 1, none⟩ = some (.int .i64 t253) := (blk_cell BK252.out 1).trans rfl; have hcz20_2 : w19.cell? ⟨gb252, 2, none⟩ = some (.int .i64 0) := (blk_cell BK252.out 2).trans rfl; have hcz20_3 : w19.cell? ⟨gb252, 3, none⟩ = some (.int .i64 0) := (blk_cell BK252.out 3).trans rfl; have hcz20_4 : w19.cell? ⟨gb252, 4, none⟩ = some (.int .i64 a5) := (blk_cell BK252.out 4).trans rfl; have hcz20_5 : w19.cell? ⟨gb252, 5, none⟩ = some (.int .i64 0) := (blk_cell BK252.out 5).trans rfl; have hfz20_0 := blk_frozen BK252.out 0; have hfz20_1 := blk_frozen BK252.out 1; have hfz20_2 := blk_frozen BK252.out 2; have hfz20_3 := blk_frozen BK252.out 3; have hfz20_4 := blk_frozen BK252.out 4; have hfz20_5 := blk_frozen BK252.out 5) | ((with_reducible refine gate_callee (f := 21) rfl ?_); refine goesL_ (some 28) rfl rfl Tryd.func21 (by kernel_rfl) rfl #[.pointer (some ⟨g + 1, 0, none⟩), .int .i64 a2] rfl (by (try simp only [List.map_toArray, List.map_cons, List.map_nil]); first | done | rfl | (simp only [List.length_drop, List.length_take]; rfl)) ?_; (with_reducible refine (conclaveref01_Store_Pub.calls g t256 a2 t257 t258 w0 _ ?side1 ?side2 A9.out).mono ?_); (case side1 => repeat (first | (with_reducible first | exact HI0.out | apply IsS60.alloc | apply IsS60.drewN | apply IsS60.drew | apply IsS60.set_0 | (focus (refine IsS60.far ?_ ?_ _; rotate_left; (focus ((repeat (first | (with_reducible exact Nsty.of BK251.out rfl) | apply Nsty.set | apply Nsty.drewN | apply Nsty.drew | apply Nsty.alloc)); done)))) | (focus (refine IsS60.far ?_ ?_ _; rotate_left; (focus ((repeat (first | (with_reducible exact Nsty.of BK252.out rfl) | apply Nsty.set | apply Nsty.drewN | apply Nsty.drew | apply Nsty.alloc)); done))))) | exact HI0.out)); (case side2 => repeat (first | (with_reducible first | exact HB.out | apply below_alloc | apply pw_below_drewN | apply below_drew1 | refine below_set ?_ (IsS60.ge HI0.out) | refine below_set ?_ GE251.out | refine below_set ?_ GE252.out) | exact HB.out)); rintro e w21 ⟨rfl, hi, hb, hk⟩; refine ⟨_, rfl, ?_⟩; have n0_ := Aside0.mk (KeepSt.blk hk (g' := gb251) (o := .cells #[.int .i64 0, .int .i64 0, .int .i64 0, .int .i64 0, .int .i64 0, .int .i64 0] 36 (0, 0)) (by (with_reducible repeat (first | refine blk_drewN ?_ _ | refine blk_drew ?_ | refine blk_alloc ?_ _)); refine blk_far ?_ NB251_252.out _; (with_reducible repeat (first | refine blk_drewN ?_ _ | refine blk_drew ?_ | refine blk_alloc ?_ _)); exact BK251.out) NB251_0.out rfl); have n1_ := Aside0.mk (KeepSt.blk hk (g' := gb252) (o := .cells #[.int .i64 a1, .int .i64 t253, .int .i64 t255, .int .i64 0, .int .i64 a5, .int .i64 0] 36 (0, 0)) (by (with_reducible repeat (first | refine blk_drewN ?_ _ | refine blk_drew ?_ | refine blk_alloc ?_ _)); refine blk_put (cs := #[.int .i64 a1, .int .i64 t253, .int .i64 0, .int .i64 0, .int .i64 a5, .int .i64 0]) ?_ 2 _ rfl; (with_reducible repeat (first | refine blk_drewN ?_ _ | refine blk_drew ?_ | refine blk_alloc ?_ _)); exact BK252.out) NB252_0.out rfl); have n2_ := Aside0.mk (KeepSt.trans (by repeat (first | (with_reducible first | exact HK.out | apply KeepSt.drewN | apply KeepSt.drew | apply KeepSt.alloc | refine KeepSt.far ?_ GW251.out _ | refine KeepSt.far ?_ GW252.out _) | exact HK.out)) hk); have n3_ := Aside0.mk (hb); have n4_ := Aside0.mk (hi); clear BK251; clear BK252; clear HK; clear HB; clear HI0; have BK251 := n0_; have BK252 := n1_; have HK := n2_; have HB := n3_; have HI0 := n4_; clear n0_ n1_ n2_ n3_ n4_; (try clear hb); (try clear hb2); (try clear hk); (try clear hi); have hcz22_0 : w21.cell? ⟨gb252, 0, none⟩ = some (.int .i64 a1) := (blk_cell BK252.out 0).trans rfl; have hcz22_1 : w21.cell? ⟨gb252, 1, none⟩ = some (.int .i64 t253) := (blk_cell BK252.out 1).trans rfl; have hcz22_2 : w21.cell? ⟨gb252, 2, none⟩ = some (.int .i64 t255) := (blk_cell BK252.out 2).trans rfl; have hcz22_3 : w21.cell? ⟨gb252, 3, none⟩ = some (.int .i64 0) := (blk_cell BK252.out 3).trans rfl; have hcz22_4 : w21.cell? ⟨gb252, 4, none⟩ = some (.int .i64 a5) := (blk_cell BK252.out 4).trans rfl; have hcz22_5 : w21.cell? ⟨gb252, 5, none⟩ = some (.int .i64 0) := (blk_cell BK252.out 5).trans rfl; have hfz22_0 := blk_frozen BK252.out 0; have hfz22_1 := blk_frozen BK252.out 1; have hfz22_2 := blk_frozen BK252.out 2; have hfz22_3 := blk_frozen BK252.out 3; have hfz22_4 := blk_frozen BK252.out 4; have hfz22_5 := blk_frozen BK252.out 5) | ((with_reducible refine gate_callee (f := 28) rfl ?_); refine goesL_ (some 32) rfl rfl Tryd.func28 (by kernel_rfl) rfl #[.pointer (some ⟨g + 1, 0, none⟩), .agg #[.int .i64 a1, .int .i64 t253, .int .i64 t255, .int .i64 t257, .int .i64 a5, .int .i64 0]] rfl (by (try simp only [List.map_toArray, List.map_cons, List.map_nil]); first | done | rfl | (simp only [List.length_drop, List.length_take]; rfl)) ?_; (with_reducible refine (conclaveref09_Signed.calls k g t258 a1 t253 t255 t257 a5 0 t259 t260 w0 _ ?side1 ?side2 A10.out).mono ?_); (case side1 => repeat (first | (with_reducible first | exact HI0.out | apply IsS60.alloc | apply IsS60.drewN | apply IsS60.drew | apply IsS60.set_0 | (focus (refine IsS60.far ?_ ?_ _; rotate_left; (focus ((repeat (first | (with_reducible exact Nsty.of BK251.out rfl) | apply Nsty.set | apply Nsty.drewN | apply Nsty.drew | apply Nsty.alloc)); done)))) | (focus (refine IsS60.far ?_ ?_ _; rotate_left; (focus ((repeat (first | (with_reducible exact Nsty.of BK252.out rfl) | apply Nsty.set | apply Nsty.drewN | apply Nsty.drew | apply Nsty.alloc)); done))))) | exact HI0.out)); (case side2 => repeat (first | (with_reducible first | exact HB.out | apply below_alloc | apply pw_below_drewN | apply below_drew1 | refine below_set ?_ (IsS60.ge HI0.out) | refine below_set ?_ GE251.out | refine below_set ?_ GE252.out) | exact HB.out)); rintro e w23 ⟨rfl, hi, hb, hk⟩; refine ⟨_, rfl, ?_⟩; have n0_ := Aside0.mk (KeepSt.blk hk (g' := gb251) (o := .cells #[.int .i64 0, .int .i64 0, .int .i64 0, .int .i64 0, .int .i64 0, .int .i64 0] 36 (0, 0)) (by (with_reducible repeat (first | refine blk_drewN ?_ _ | refine blk_drew ?_ | refine blk_alloc ?_ _)); refine blk_far ?_ NB251_252.out _; (with_reducible repeat (first | refine blk_drewN ?_ _ | refine blk_drew ?_ | refine blk_alloc ?_ _)); exact BK251.out) NB251_0.out rfl); have n1_ := Aside0.mk (KeepSt.blk hk (g' := gb252) (o := .cells #[.int .i64 a1, .int .i64 t253, .int .i64 t255, .int .i64 t257, .int .i64 a5, .int .i64 0] 36 (0, 0)) (by (with_reducible repeat (first | refine blk_drewN ?_ _ | refine blk_drew ?_ | refine blk_alloc ?_ _)); refine blk_put (cs := #[.int .i64 a1, .int .i64 t253, .int .i64 t255, .int .i64 0, .int .i64 a5, .int .i64 0]) ?_ 3 _ rfl; (with_reducible repeat (first | refine blk_drewN ?_ _ | refine blk_drew ?_ | refine blk_alloc ?_ _)); exact BK252.out) NB252_0.out rfl); have n2_ := Aside0.mk (KeepSt.trans (by repeat (first | (with_reducible first | exact HK.out | apply KeepSt.drewN | apply KeepSt.drew | apply KeepSt.alloc | refine KeepSt.far ?_ GW251.out _ | refine KeepSt.far ?_ GW252.out _) | exact HK.out)) hk); have n3_ := Aside0.mk (hb); have n4_ := Aside0.mk (hi); clear BK251; clear BK252; clear HK; clear HB; clear HI0; have BK251 := n0_; have BK252 := n1_; have HK := n2_; have HB := n3_; have HI0 := n4_; clear n0_ n1_ n2_ n3_ n4_; (try clear hb); (try clear hb2); (try clear hk); (try clear hi)) | ((with_reducible refine gate_callee (f := 29) rfl ?_); refine goesL_ (some 36) rfl rfl Tryd.func29 (by kernel_rfl) rfl #[.pointer (some ⟨g + 1, 0, none⟩), .int .i64 a2, .int .i64 t259] rfl (by (try simp only [List.map_toArray, List.map_cons, List.map_nil]); first | done | rfl | (simp only [List.length_drop, List.length_take]; rfl)) ?_; (with_reducible refine (conclaveref01_Store_Sign.calls g t260 a2 t259 t261 t262 w0 _ ?side1 ?side2 A11.out).mono ?_); (case side1 => repeat (first | (with_reducible first | exact HI0.out | apply IsS60.alloc | apply IsS60.drewN | apply IsS60.drew | apply IsS60.set_0 | (focus (refine IsS60.far ?_ ?_ _; rotate_left; (focus ((repeat (first | (with_reducible exact Nsty.of BK251.out rfl) | apply Nsty.set | apply Nsty.drewN | apply Nsty.drew | apply Nsty.alloc)); done)))) | (focus (refine IsS60.far ?_ ?_ _; rotate_left; (focus ((repeat (first | (with_reducible exact Nsty.of BK252.out rfl) | apply Nsty.set | apply Nsty.drewN | apply Nsty.drew | apply Nsty.alloc)); done))))) | exact HI0.out)); (case side2 => repeat (first | (with_reducible first | exact HB.out | apply below_alloc | apply pw_below_drewN | apply below_drew1 | refine below_set ?_ (IsS60.ge HI0.out) | refine below_set ?_ GE251.out | refine below_set ?_ GE252.out) | exact HB.out)); rintro e w24 ⟨rfl, hi, hb, hk⟩; refine ⟨_, rfl, ?_⟩; have n0_ := Aside0.mk (KeepSt.blk hk (g' := gb251) (o := .cells #[.int .i64 0, .int .i64 0, .int .i64 0, .int .i64 0, .int .i64 0, .int .i64 0] 36 (0, 0)) (by (with_reducible repeat (first | refine blk_drewN ?_ _ | refine blk_drew ?_ | refine blk_alloc ?_ _)); exact BK251.out) NB251_0.out rfl); have n1_ := Aside0.mk (KeepSt.blk hk (g' := gb252) (o := .cells #[.int .i64 a1, .int .i64 t253, .int .i64 t255, .int .i64 t257, .int .i64 a5, .int .i64 0] 36 (0, 0)) (by (with_reducible repeat (first | refine blk_drewN ?_ _ | refine blk_drew ?_ | refine blk_alloc ?_ _)); exact BK252.out) NB252_0.out rfl); have n2_ := Aside0.mk (KeepSt.trans (by repeat (first | (with_reducible first | exact HK.out | apply KeepSt.drewN | apply KeepSt.drew | apply KeepSt.alloc | refine KeepSt.far ?_ GW251.out _ | refine KeepSt.far ?_ GW252.out _) | exact HK.out)) hk); have n3_ := Aside0.mk (hb); have n4_ := Aside0.mk (hi); clear BK251; clear BK252; clear HK; clear HB; clear HI0; have BK251 := n0_; have BK252 := n1_; have HK := n2_; have HB := n3_; have HI0 := n4_; clear n0_ n1_ n2_ n3_ n4_; (try clear hb); (try clear hb2); (try clear hk); (try clear hi); have hcz25_0 : w24.cell? ⟨gb252, 0, none⟩ = some (.int .i64 a1) := (blk_cell BK252.out 0).trans rfl; have hcz25_1 : w24.cell? ⟨gb252, 1, none⟩ = some (.int .i64 t253) := (blk_cell BK252.out 1).trans rfl; have hcz25_2 : w24.cell? ⟨gb252, 2, none⟩ = some (.int .i64 t255) := (blk_cell BK252.out 2).trans rfl; have hcz25_3 : w24.cell? ⟨gb252, 3, none⟩ = some (.int .i64 t257) := (blk_cell BK252.out 3).trans rfl; have hcz25_4 : w24.cell? ⟨gb252, 4, none⟩ = some (.int .i64 a5) := (blk_cell BK252.out 4).trans rfl; have hcz25_5 : w24.cell? ⟨gb252, 5, none⟩ = some (.int .i64 0) := (blk_cell BK252.out 5).trans rfl; have hfz25_0 := blk_frozen BK252.out 0; have hfz25_1 := blk_frozen BK252.out 1; have hfz25_2 := blk_frozen BK252.out 2; have hfz25_3 := blk_frozen BK252.out 3; have hfz25_4 := blk_frozen BK252.out 4; have hfz25_5 := blk_frozen BK252.out 5; have hnb26 := NB251_0.out; have hnc26 := NB0_251.out; have hcz27_0 : w24.cell? ⟨gb251, 0, none⟩ = some (.int .i64 0) := (blk_cell BK251.out 0).trans rfl; have hcz27_1 : w24.cell? ⟨gb251, 1, none⟩ = some (.int .i64 0) := (blk_cell BK251.out 1).trans rfl; have hcz27_2 : w24.cell? ⟨gb251, 2, none⟩ = some (.int .i64 0) := (blk_cell BK251.out 2).trans rfl; have hcz27_3 : w24.cell? ⟨gb251, 3, none⟩ = some (.int .i64 0) := (blk_cell BK251.out 3).trans rfl; have hcz27_4 : w24.cell? ⟨gb251, 4, none⟩ = some (.int .i64 0) := (blk_cell BK251.out 4).trans rfl; have hcz27_5 : w24.cell? ⟨gb251, 5, none⟩ = some (.int .i64 0) := (blk_cell BK251.out 5).trans rfl; have hfz27_0 := blk_frozen BK251.out 0; have hfz27_1 := blk_frozen BK251.out 1; have hfz27_2 := blk_frozen BK251.out 2; have hfz27_3 := blk_frozen BK251.out 3; have hfz27_4 := blk_frozen BK251.out 4; have hfz27_5 := blk_frozen BK251.out 5))
  refine bodyPost_ret (results_cell_row rfl _ _ gb251 36 #[.int .i64 a1, .int .i64 t253, .int .i64 t255, .int .i64 t257, .int .i64 a5, .int .i64 t261] (0, 0) _ rfl (by (with_reducible repeat (first | refine blk_drewN ?_ _ | refine blk_drew ?_ | refine blk_alloc ?_ _)); refine blk_put (cs := #[.int .i64 a1, .int .i64 t253, .int .i64 t255, .int .i64 t257, .int .i64 a5, .int .i64 0]) ?_ 5 _ rfl; (with_reducible repeat (first | refine blk_drewN ?_ _ | refine blk_drew ?_ | refine blk_alloc ?_ _)); refine blk_put (cs := #[.int .i64 a1, .int .i64 t253, .int .i64 t255, .int .i64 t257, .int .i64 0, .int .i64 0]) ?_ 4 _ rfl; (with_reducible repeat (first | refine blk_drewN ?_ _ | refine blk_drew ?_ | refine blk_alloc ?_ _)); refine blk_put (cs := #[.int .i64 a1, .int .i64 t253, .int .i64 t255, .int .i64 0, .int .i64 0, .int .i64 0]) ?_ 3 _ rfl; (with_reducible repeat (first | refine blk_drewN ?_ _ | refine blk_drew ?_ | refine blk_alloc ?_ _)); refine blk_put (cs := #[.int .i64 a1, .int .i64 t253, .int .i64 0, .int .i64 0, .int .i64 0, .int .i64 0]) ?_ 2 _ rfl; (with_reducible repeat (first | refine blk_drewN ?_ _ | refine blk_drew ?_ | refine blk_alloc ?_ _)); refine blk_put (cs := #[.int .i64 a1, .int .i64 0, .int .i64 0, .int .i64 0, .int .i64 0, .int .i64 0]) ?_ 1 _ rfl; (with_reducible repeat (first | refine blk_drewN ?_ _ | refine blk_drew ?_ | refine blk_alloc ?_ _)); refine blk_put (cs := #[.int .i64 0, .int .i64 0, .int .i64 0, .int .i64 0, .int .i64 0, .int .i64 0]) ?_ 0 _ rfl; (with_reducible repeat (first | refine blk_drewN ?_ _ | refine blk_drew ?_ | refine blk_alloc ?_ _)); refine blk_far ?_ NB251_252.out _; (with_reducible repeat (first | refine blk_drewN ?_ _ | refine blk_drew ?_ | refine blk_alloc ?_ _)); exact BK251.out) Tryd.underlying36 rfl (by kernel_rfl)) rfl ?_
  exact ⟨by first | rfl | (simp [errW_none, errW_some] <;> rfl) | (simp [*, errW_none, errW_some] <;> rfl), by repeat (first | (with_reducible first | exact HI0.out | apply IsS60.alloc | apply IsS60.drewN | apply IsS60.drew | apply IsS60.set_0 | (focus (refine IsS60.far ?_ ?_ _; rotate_left; (focus ((repeat (first | (with_reducible exact Nsty.of BK251.out rfl) | apply Nsty.set | apply Nsty.drewN | apply Nsty.drew | apply Nsty.alloc)); done)))) | (focus (refine IsS60.far ?_ ?_ _; rotate_left; (focus ((repeat (first | (with_reducible exact Nsty.of BK252.out rfl) | apply Nsty.set | apply Nsty.drewN | apply Nsty.drew | apply Nsty.alloc)); done))))) | exact HI0.out), by repeat (first | (with_reducible first | exact HB.out | apply below_alloc | apply pw_below_drewN | apply below_drew1 | refine below_set ?_ (IsS60.ge HI0.out) | refine below_set ?_ GE251.out | refine below_set ?_ GE252.out) | exact HB.out), by repeat (first | (with_reducible first | exact HK.out | apply KeepSt.drewN | apply KeepSt.drew | apply KeepSt.alloc | refine KeepSt.far ?_ GW251.out _ | refine KeepSt.far ?_ GW252.out _) | exact HK.out)⟩
def term_Store_Len.f (s0_0 : T2)  : Option (Int × T2) := some ((s0_0.p.nodes.length : Int), s0_0)
theorem term_Store_Len.calls (g : Nat) (s0_0 : T2)  (r1 : Int) (r2 : T2) (w0 w : World) (hI : IsS60 w0 w g s0_0) (hB : Below w0.heap.size w0 w) (h : term_Store_Len.f s0_0  = some (r1, r2)) :
    Calls Tryd.prog 13 #[.pointer (some ⟨g, 0, none⟩)] w fun e w' => e = .returned (.int .i64 r1) ∧ IsS60 w0 w' g r2 ∧ Below w0.heap.size w0 w' ∧ KeepSt w w' w0 := by
  cases h
  refine st_look hI hB fun q h1 h2 h3 h4 => ?_
  have := len_calls h4
  rw [St.ptr, h1, h2] at this
  refine this.mono ?_
  rintro e w' ⟨rfl, rfl⟩
  exact ⟨rfl, .refl _ _⟩
def conclaveref01_Store_Get.f (s0_0 : T2) (a1 : Int) : Option (Int × ByteArray × Int × Int × T2) := some ((getN s0_0.r.nodes a1).kind, (getN s0_0.r.nodes a1).label, (getN s0_0.r.nodes a1).a, (getN s0_0.r.nodes a1).b, s0_0)
theorem conclaveref01_Store_Get.calls (g : Nat) (s0_0 : T2) (a1 : Int) (r1 : Int) (r2 : ByteArray) (r3 : Int) (r4 : Int) (r5 : T2) (w0 w : World) (hI : IsS60 w0 w g s0_0) (hB : Below w0.heap.size w0 w) (h : conclaveref01_Store_Get.f s0_0 a1 = some (r1, r2, r3, r4, r5)) :
    Calls Tryd.prog 15 #[.pointer (some ⟨g + 1, 0, none⟩), .int .i64 a1] w fun e w' => e = .returned (.agg #[.int .i64 r1, .string r2, .int .i64 r3, .int .i64 r4]) ∧ IsS60 w0 w' g r5 ∧ Below w0.heap.size w0 w' ∧ KeepSt w w' w0 := by
  simp only [conclaveref01_Store_Get.f, Option.some.injEq, Prod.mk.injEq] at h
  obtain ⟨rfl, rfl, rfl, rfl, rfl⟩ := h
  refine rt_look hI hB fun q h1 h2 h3 h4 => ?_
  have := rget_calls h4 a1
  rw [Rf.ptr, h1, h2] at this
  exact this
def conclaveref01_Store_Verify.f (s0_0 : T2) (a1 : Int) (a2 : Int) (a3 : Int) : Option (Bool × T2) := some (rverifyOf (getN s0_0.r.nodes a3) (getN s0_0.r.nodes a1) a2, s0_0)
theorem conclaveref01_Store_Verify.calls (g : Nat) (s0_0 : T2) (a1 : Int) (a2 : Int) (a3 : Int) (r1 : Bool) (r2 : T2) (w0 w : World) (hI : IsS60 w0 w g s0_0) (hB : Below w0.heap.size w0 w) (h : conclaveref01_Store_Verify.f s0_0 a1 a2 a3 = some (r1, r2)) :
    Calls Tryd.prog 32 #[.pointer (some ⟨g + 1, 0, none⟩), .int .i64 a1, .int .i64 a2, .int .i64 a3] w fun e w' => e = .returned (.bool r1) ∧ IsS60 w0 w' g r2 ∧ Below w0.heap.size w0 w' ∧ KeepSt w w' w0 := by
  cases h
  refine rt_look hI hB fun q h1 h2 h3 h4 => ?_
  have := rverify_calls h4 a1 a2 a3
  rw [Rf.ptr, h1, h2] at this
  exact this
theorem node_field0 (k a b : Int) (l : ByteArray) (w : World) : Sem.run Tryd.prog (Instr.field 40 (.agg #[.int .i64 k, .string l, .int .i64 a, .int .i64 b]) 0) w = .ok (.int .i64 k) w := by
  have hu := Tryd.underlying40
  first | rfl | (simp [go_sem, Instr.field, hu]; rfl) | (simp [go_sem, hu]) | (go_simp; rfl)
theorem node_field1 (k a b : Int) (l : ByteArray) (w : World) : Sem.run Tryd.prog (Instr.field 40 (.agg #[.int .i64 k, .string l, .int .i64 a, .int .i64 b]) 1) w = .ok (.string l) w := by
  have hu := Tryd.underlying40
  first | rfl | (simp [go_sem, Instr.field, hu]; rfl) | (simp [go_sem, hu]) | (go_simp; rfl)
theorem node_field2 (k a b : Int) (l : ByteArray) (w : World) : Sem.run Tryd.prog (Instr.field 40 (.agg #[.int .i64 k, .string l, .int .i64 a, .int .i64 b]) 2) w = .ok (.int .i64 a) w := by
  have hu := Tryd.underlying40
  first | rfl | (simp [go_sem, Instr.field, hu]; rfl) | (simp [go_sem, hu]) | (go_simp; rfl)
theorem node_field3 (k a b : Int) (l : ByteArray) (w : World) : Sem.run Tryd.prog (Instr.field 40 (.agg #[.int .i64 k, .string l, .int .i64 a, .int .i64 b]) 3) w = .ok (.int .i64 b) w := by
  have hu := Tryd.underlying40
  first | rfl | (simp [go_sem, Instr.field, hu]; rfl) | (simp [go_sem, hu]) | (go_simp; rfl)
end Go.Proofs.YteljmaebhjhedaaDoor.PTw
