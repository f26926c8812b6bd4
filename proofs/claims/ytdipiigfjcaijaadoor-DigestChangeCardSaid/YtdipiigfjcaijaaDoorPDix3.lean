/- What this claim reaches of a longer text of this session. -/
import Derived.Test.YtdipiigfjcaijaaDoorPDix0
import Derived.Test.YtdipiigfjcaijaaDoorPDix1
import Derived.Test.YtdipiigfjcaijaaDoorPDix2
namespace Go.Proofs.YtdipiigfjcaijaaDoor.PDi
open Go.RowKit Go.Proofs.YtdipiigfjcaijaaDoorW.PrintWords Go.Proofs.YtdipiigfjcaijaaDoorW.PrintLast Go.Proofs.YtdipiigfjcaijaaDoorW.PrintMore
attribute [local go_sem] max2_int min2_int max_two min_two max_three min_three max_four min_four   -- for this text's walks alone
set_option linter.unusedVariables false
set_option linter.unusedSimpArgs false
mutual
def digest_Hash.j0 : Nat → List (S33) → Int → Bool → TS → Option (Int × TS)
 | 0, _, _, _, _ => none
 | k + 1, x1, x2, x23, x1000 => if x23 = true then (some (0, x1000)) else (if 0 ≤ x2 then (if x2 < (x1.length : Int) then ((tree_Leaves.f x1).bind fun t148 => ((heap_Children.f x2 t148).bind fun bt149 => (if bt149.2.2 = 0 then ((digest_Hash.f k x1000 x1 bt149.1).bind fun bt178 => ((digest_Hash.f k bt178.2 x1 bt149.2.1).bind fun bt180 => (if ((rd_T33 x1 x2).f0 = true) then (digest_Hash.l0 k bt178.1 bt180.1 ([] : List Int) ((rd_T33 x1 x2).f5) (((rd_T33 x1 x2).f5).length : Int) 0 bt180.2 ((rd_T33 x1 x2).f0) ((rd_T33 x1 x2).f1) ((rd_T33 x1 x2).f2) ((rd_T33 x1 x2).f3) ((rd_T33 x1 x2).f4) ((rd_T33 x1 x2).f5)) else ((term_Store_List.f k bt180.2 (([bt178.1, bt180.1] : List Int))).bind fun bt185 => ((term_Store_Hash.f bt185.2 (⟨#[98, 108, 97, 110, 107]⟩ : ByteArray) bt185.1).bind fun bt187 => (some (bt187.1, bt187.2))))))) else (if ((rd_T33 x1 x2).f0 = true) then ((digest_Number.f x1000 (wrap64 (Int.tdiv x2 2))).bind fun bt161 => ((digest_Number.f bt161.2 ((rd_T33 x1 x2).f2)).bind fun bt163 => ((digest_some.f bt163.2 ((rd_T33 x1 x2).f1)).bind fun bt165 => ((digest_some.f bt165.2 ((rd_T33 x1 x2).f3)).bind fun bt167 => ((digest_some.f bt167.2 ((rd_T33 x1 x2).f4)).bind fun bt169 => ((term_Store_List.f k bt169.2 (([bt161.1, bt163.1, bt165.1, bt167.1, bt169.1] : List Int))).bind fun bt174 => ((term_Store_Hash.f bt174.2 (⟨#[108, 101, 97, 102]⟩ : ByteArray) bt174.1).bind fun bt176 => (some (bt176.1, bt176.2))))))))) else ((digest_Number.f x1000 (wrap64 (Int.tdiv x2 2))).bind fun bt152 => ((term_Store_List.f k bt152.2 (([bt152.1] : List Int))).bind fun bt157 => ((term_Store_Hash.f bt157.2 (⟨#[108, 101, 97, 102]⟩ : ByteArray) bt157.1).bind fun bt159 => (some (bt159.1, bt159.2))))))))) else (none)) else (none))
def digest_Hash.l0 : Nat → Int → Int → List Int → List Int → Int → Int → TS → Bool → Int → Int → Int → Int → List Int → Option (Int × TS)
 | 0, _, _, _, _, _, _, _, _, _, _, _, _, _ => none
 | k + 1, x11, x12, x13, x94, x95, x96, x1000, x148000, x148001, x148002, x148003, x148004, x148005 => if x96 < x95 then (if 0 ≤ x96 then (if x96 < (x94.length : Int) then ((digest_Number.f x1000 (rd x94 x96)).bind fun bt190 => (if x13.length < 17592186044416 then (digest_Hash.l0 k x11 x12 (x13 ++ [bt190.1]) x94 x95 (wrap64 (x96 + 1)) bt190.2 x148000 x148001 x148002 x148003 x148004 x148005) else (none))) else (none)) else (none)) else ((digest_some.f x1000 x148001).bind fun bt195 => ((digest_some.f bt195.2 x148004).bind fun bt197 => ((term_Store_List.f k bt197.2 x13).bind fun bt199 => ((term_Store_List.f k bt199.2 (([bt195.1, bt197.1, bt199.1, x11, x12] : List Int))).bind fun bt204 => ((term_Store_Hash.f bt204.2 (⟨#[110, 111, 100, 101]⟩ : ByteArray) bt204.1).bind fun bt206 => (some (bt206.1, bt206.2)))))))
def digest_Hash.f : Nat → TS → List (S33) → Int → Option (Int × TS)
 | 0, _, _, _ => none
 | k + 1, s0_0, l1, a2 => if a2 < 0 then (digest_Hash.j0 k l1 a2 true s0_0) else (digest_Hash.j0 k l1 a2 (decide (a2 ≥ (l1.length : Int))) s0_0)
end
theorem digest_Hash.mono_l : ∀ k, (∀ y0 y1 y2, LeO (digest_Hash.f k y0 y1 y2) (digest_Hash.f (k + 1) y0 y1 y2)) ∧ (∀ y0 y1 y2 y3, LeO (digest_Hash.j0 k y0 y1 y2 y3) (digest_Hash.j0 (k + 1) y0 y1 y2 y3)) ∧ (∀ y0 y1 y2 y3 y4 y5 y6 y7 y8 y9 y10 y11 y12, LeO (digest_Hash.l0 k y0 y1 y2 y3 y4 y5 y6 y7 y8 y9 y10 y11 y12) (digest_Hash.l0 (k + 1) y0 y1 y2 y3 y4 y5 y6 y7 y8 y9 y10 y11 y12))
 | 0 => ⟨fun _ _ _ r h => by simp [digest_Hash.f] at h, fun _ _ _ _ r h => by simp [digest_Hash.j0] at h, fun _ _ _ _ _ _ _ _ _ _ _ _ _ r h => by simp [digest_Hash.l0] at h⟩
 | k + 1 => by
  obtain ⟨ih0, ih1, ih2⟩ := digest_Hash.mono_l k
  refine ⟨?_, ?_, ?_⟩
  ·
   intro y0 y1 y2
   unfold digest_Hash.f
   repeat' first
   | (with_reducible exact ih0 _ _ _)
   | (with_reducible exact ih1 _ _ _ _)
   | (with_reducible exact ih2 _ _ _ _ _ _ _ _ _ _ _ _ _)
   | (with_reducible exact term_Store_List.mono _ _ _)
   | (with_reducible exact LeO.refl _)
   | (with_reducible exact LeO.none _)
   | (with_reducible refine LeO.ite ?_ ?_)
   | (with_reducible refine LeO.bind ?_ (fun _ => ?_))
   | exact ih0 _ _ _
   | exact ih1 _ _ _ _
   | exact ih2 _ _ _ _ _ _ _ _ _ _ _ _ _
   | exact term_Store_List.mono _ _ _
   | exact LeO.none _
   | refine LeO.ite ?_ ?_
   | refine LeO.bind ?_ (fun _ => ?_)
  ·
   intro y0 y1 y2 y3
   unfold digest_Hash.j0
   repeat' first
   | (with_reducible exact ih0 _ _ _)
   | (with_reducible exact ih1 _ _ _ _)
   | (with_reducible exact ih2 _ _ _ _ _ _ _ _ _ _ _ _ _)
   | (with_reducible exact term_Store_List.mono _ _ _)
   | (with_reducible exact LeO.refl _)
   | (with_reducible exact LeO.none _)
   | (with_reducible refine LeO.ite ?_ ?_)
   | (with_reducible refine LeO.bind ?_ (fun _ => ?_))
   | exact ih0 _ _ _
   | exact ih1 _ _ _ _
   | exact ih2 _ _ _ _ _ _ _ _ _ _ _ _ _
   | exact term_Store_List.mono _ _ _
   | exact LeO.none _
   | refine LeO.ite ?_ ?_
   | refine LeO.bind ?_ (fun _ => ?_)
  ·
   intro y0 y1 y2 y3 y4 y5 y6 y7 y8 y9 y10 y11 y12
   unfold digest_Hash.l0
   repeat' first
   | (with_reducible exact ih0 _ _ _)
   | (with_reducible exact ih1 _ _ _ _)
   | (with_reducible exact ih2 _ _ _ _ _ _ _ _ _ _ _ _ _)
   | (with_reducible exact term_Store_List.mono _ _ _)
   | (with_reducible exact LeO.refl _)
   | (with_reducible exact LeO.none _)
   | (with_reducible refine LeO.ite ?_ ?_)
   | (with_reducible refine LeO.bind ?_ (fun _ => ?_))
   | exact ih0 _ _ _
   | exact ih1 _ _ _ _
   | exact ih2 _ _ _ _ _ _ _ _ _ _ _ _ _
   | exact term_Store_List.mono _ _ _
   | exact LeO.none _
   | refine LeO.ite ?_ ?_
   | refine LeO.bind ?_ (fun _ => ?_)
theorem digest_Hash.mono : ∀ a0 a1 a2 k, LeO (digest_Hash.f k a0 a1 a2) (digest_Hash.f (k + 1) a0 a1 a2) := by
 intro a0 a1 a2 k
 obtain ⟨ih0, ih1, ih2⟩ := digest_Hash.mono_l k
 exact ih0 a0 a1 a2
def digest_Hash.T8 : Bool × List (List Nat × List Nat) := (true, [([], []), ([], []), ([], []), ([], []), ([3], [3]), ([2, 4], [2, 4]), ([], []), ([], []), ([7], [7]), ([6, 8, 5], [6, 8]), ([], []), ([], []), ([11], [11]), ([10, 12, 9], [10, 12]), ([], []), ([], []), ([15], [15]), ([14, 16, 13], [14, 16]), ([], []), ([], []), ([19], [19]), ([18, 20, 17], [18, 20]), ([5, 9, 13, 17, 21], [5, 9, 13, 17, 21]), ([1, 22, 21], [1, 22]), ([0, 23, 23], [0, 23]), ([24, 24, 0, 1, 2, 3, 4, 5, 6, 7, 8, 9, 10, 11, 12, 13, 14, 15, 16, 17, 18, 19, 20, 21, 22, 23, 24], [24])])
def digest_Hash.B8 : List Nat := [0, 0, 0, 0, 8, 28, 0, 0, 128, 508, 0, 0, 2048, 8188, 0, 0, 32768, 131068, 0, 0, 524288, 2097148, 4194300, 8388606, 16777215, 33554431]
theorem digest_Hash.tab8 : rtab .any (opsOf Tryd.f17 8) = digest_Hash.T8 := by kernel_rfl
theorem digest_Hash.bits8 : waitsOk digest_Hash.T8.2 digest_Hash.B8 = true := by kernel_rfl
def digest_Hash.T18 : Bool × List (List Nat × List Nat) := (true, [([], []), ([], []), ([], []), ([], []), ([3], [3]), ([2, 4], [2, 4]), ([], []), ([], []), ([7], [7]), ([6, 8, 5], [6, 8]), ([], []), ([], []), ([10, 11, 9], [10, 11]), ([], []), ([], []), ([5, 9, 12, 13, 14], [5, 9, 12, 13, 14]), ([1, 15, 12], [1, 15]), ([0, 16, 16], [0, 16]), ([17, 17, 0, 1, 2, 3, 4, 5, 6, 7, 8, 9, 10, 11, 12, 13, 14, 15, 16, 17], [17])])
def digest_Hash.B18 : List Nat := [0, 0, 0, 0, 8, 28, 0, 0, 128, 508, 0, 0, 4092, 0, 0, 32764, 65534, 131071, 262143]
theorem digest_Hash.tab18 : rtab .any (opsOf Tryd.f17 18) = digest_Hash.T18 := by kernel_rfl
theorem digest_Hash.bits18 : waitsOk digest_Hash.T18.2 digest_Hash.B18 = true := by kernel_rfl
set_option maxHeartbeats 8000000 in
set_option maxRecDepth 100000 in
theorem digest_Hash.calls (k : Nat) : ∀ (g : Nat) (s0_0 : TS) (A1 : Option Addr) (c1 : Nat) (l1 : List (S33)) (a2 : Int) (r1 : Int) (r2 : TS) (w0 w : World) (hrG : TabG w0) (hI : IsS75 w0 w g s0_0) (hB : Below w0.heap.size w0 w) (hr1 : Kd.FootSt k33 w w0 A1 l1.length l1) (hc1 : l1.length ≤ c1) (h : digest_Hash.f k s0_0 l1 a2 = some (r1, r2)),
 Calls Tryd.prog 17 #[.pointer (some ⟨g, 0, none⟩), .slice A1 l1.length c1, .int .i64 a2] w fun e w' => e = .returned (.int .i64 r1) ∧ IsS75 w0 w' g r2 ∧ Below w0.heap.size w0 w' ∧ KeepSt w w' w0 := by
 induction k using Nat.strongRecOn with
 | _ k ih =>
 intro g s0_0 A1 c1 l1 a2 r1 r2 w0 w hrG hI hB hr1 hc1 h
 have HRG := Aside0.mk hrG
 clear hrG
 cases k with
 | zero => exact absurd h (by simp [digest_Hash.f])
 | succ k =>
 simp only [digest_Hash.f] at h
 have hu33 := Tryd.underlying33
 have HR1 := Aside0.mk hr1
 have HC1 := Aside0.mk hc1
 clear hr1 hc1
 have HI0 := Aside0.mk hI
 have HK := Aside0.mk (KeepSt.refl w w0)
 have HL := Aside0.mk hB.size
 clear hI
 have HW0 := Aside0.mk hB.size
 have HB := Aside0.mk hB
 clear hB
 have H : (if a2 < 0 then (digest_Hash.j0 k l1 a2 true s0_0) else (digest_Hash.j0 k l1 a2 (decide (a2 ≥ (l1.length : Int))) s0_0)) = some (r1, r2) := h
 clear h
 have HC4 := Aside0.mk H
 clear H
 go_enter Tryd.func17, Tryd.ntmps17
 go_upto_region 1 with (fail)
 go_cut [23] (fun v23 wc => ∃ (kq : Nat) (x23_3 : Bool), v23 = .bool x23_3 ∧ Aside0 (digest_Hash.j0 kq l1 a2 x23_3 s0_0 = some (r1, r2)) ∧ Aside0 (kq ≤ k) ∧ Aside0 (IsS75 w0 wc g s0_0) ∧ Aside0 (KeepSt w wc w0) ∧ Aside0 (Below w0.heap.size w0 wc))
 case first =>
  have H := HC4.out
  clear HC4
  by_cases c5 : a2 < 0
  ·
   rw [if_pos c5] at H
   have c5b0 : decide (a2 < 0) = true := decide_eq_true c5
   clear c5
   (first | rw [c5b0] | (simp only [i64_w, i32_w]; rw [c5b0]) | skip)
   have H' := Aside0.mk H
   clear H
   go_wp2
   go_meet
   case rel => exact ⟨_, (true), (by first | rfl | (simp; done) | (simp [*]; done)), H', ⟨by first | omega | exact Nat.le_refl _⟩, ⟨by repeat (first | (with_reducible first | exact HI0.out | apply IsS75.alloc | apply IsS75.drewN | apply IsS75.drew | apply IsS75.set_0) | exact HI0.out)⟩, ⟨by repeat (first | (with_reducible first | exact HK.out | apply KeepSt.drewN | apply KeepSt.drew | apply KeepSt.alloc) | exact HK.out)⟩, ⟨by repeat (first | (with_reducible first | exact HB.out | apply below_alloc | apply pw_below_drewN | apply below_drew1 | refine below_set ?_ (IsS75.ge HI0.out)) | exact HB.out)⟩⟩
  ·
   rw [if_neg c5] at H
   have c5b0 : decide (a2 < 0) = false := decide_eq_false c5
   clear c5
   (first | rw [c5b0] | (simp only [i64_w, i32_w]; rw [c5b0]) | skip)
   have H' := Aside0.mk H
   clear H
   go_wp2
   go_meet
   case rel => exact ⟨_, (decide (a2 ≥ (l1.length : Int))), (by first | rfl | (simp; done) | (simp [*]; done)), H', ⟨by first | omega | exact Nat.le_refl _⟩, ⟨by repeat (first | (with_reducible first | exact HI0.out | apply IsS75.alloc | apply IsS75.drewN | apply IsS75.drew | apply IsS75.set_0) | exact HI0.out)⟩, ⟨by repeat (first | (with_reducible first | exact HK.out | apply KeepSt.drewN | apply KeepSt.drew | apply KeepSt.alloc) | exact HK.out)⟩, ⟨by repeat (first | (with_reducible first | exact HB.out | apply below_alloc | apply pw_below_drewN | apply below_drew1 | refine below_set ?_ (IsS75.ge HI0.out)) | exact HB.out)⟩⟩
 case rest =>
  clear HC4
  try clear c1
  try clear p2
  try clear c5
  try clear c5b0
  obtain ⟨kq, x23_3, rfl, HA, HJ3, HI0, HK, HB⟩ := hcut
  cases kq with
  | zero => exact absurd HA.out (by simp [digest_Hash.j0])
  | succ kj3 =>
   have H := HA.out
   clear HA
   simp only [digest_Hash.j0] at H
   by_cases c6 : x23_3 = true
   ·
    subst c6
    have H1 : (some (0, s0_0)) = some (r1, r2) := by rw [if_pos rfl] at H; exact H
    clear H
    have H := H1
    clear H1
    simp only [Option.some.injEq, Prod.mk.injEq] at H
    obtain ⟨rfl, rfl⟩ := H
    go_wp2
    go_ret
    exact ⟨by first | rfl | (simp [errW_none, errW_some] <;> rfl) | (simp [*, errW_none, errW_some] <;> rfl), by repeat (first | (with_reducible first | exact HI0.out | apply IsS75.alloc | apply IsS75.drewN | apply IsS75.drew | apply IsS75.set_0) | exact HI0.out), by repeat (first | (with_reducible first | exact HB.out | apply below_alloc | apply pw_below_drewN | apply below_drew1 | refine below_set ?_ (IsS75.ge HI0.out)) | exact HB.out), by repeat (first | (with_reducible first | exact HK.out | apply KeepSt.drewN | apply KeepSt.drew | apply KeepSt.alloc) | exact HK.out)⟩
   ·
    replace c6 := Bool.eq_false_iff.mpr c6
    subst c6
    have H1 : (if 0 ≤ a2 then (if a2 < (l1.length : Int) then ((tree_Leaves.f l1).bind fun t148 => ((heap_Children.f a2 t148).bind fun bt149 => (if bt149.2.2 = 0 then ((digest_Hash.f kj3 s0_0 l1 bt149.1).bind fun bt178 => ((digest_Hash.f kj3 bt178.2 l1 bt149.2.1).bind fun bt180 => (if ((rd_T33 l1 a2).f0 = true) then (digest_Hash.l0 kj3 bt178.1 bt180.1 ([] : List Int) ((rd_T33 l1 a2).f5) (((rd_T33 l1 a2).f5).length : Int) 0 bt180.2 ((rd_T33 l1 a2).f0) ((rd_T33 l1 a2).f1) ((rd_T33 l1 a2).f2) ((rd_T33 l1 a2).f3) ((rd_T33 l1 a2).f4) ((rd_T33 l1 a2).f5)) else ((term_Store_List.f kj3 bt180.2 (([bt178.1, bt180.1] : List Int))).bind fun bt185 => ((term_Store_Hash.f bt185.2 (⟨#[98, 108, 97, 110, 107]⟩ : ByteArray) bt185.1).bind fun bt187 => (some (bt187.1, bt187.2))))))) else (if ((rd_T33 l1 a2).f0 = true) then ((digest_Number.f s0_0 (wrap64 (Int.tdiv a2 2))).bind fun bt161 => ((digest_Number.f bt161.2 ((rd_T33 l1 a2).f2)).bind fun bt163 => ((digest_some.f bt163.2 ((rd_T33 l1 a2).f1)).bind fun bt165 => ((digest_some.f bt165.2 ((rd_T33 l1 a2).f3)).bind fun bt167 => ((digest_some.f bt167.2 ((rd_T33 l1 a2).f4)).bind fun bt169 => ((term_Store_List.f kj3 bt169.2 (([bt161.1, bt163.1, bt165.1, bt167.1, bt169.1] : List Int))).bind fun bt174 => ((term_Store_Hash.f bt174.2 (⟨#[108, 101, 97, 102]⟩ : ByteArray) bt174.1).bind fun bt176 => (some (bt176.1, bt176.2))))))))) else ((digest_Number.f s0_0 (wrap64 (Int.tdiv a2 2))).bind fun bt152 => ((term_Store_List.f kj3 bt152.2 (([bt152.1] : List Int))).bind fun bt157 => ((term_Store_Hash.f bt157.2 (⟨#[108, 101, 97, 102]⟩ : ByteArray) bt157.1).bind fun bt159 => (some (bt159.1, bt159.2))))))))) else (none)) else (none)) = some (r1, r2) := by rw [if_neg (show ¬ (false = true) by decide)] at H; exact H
    clear H
    have H := H1
    clear H1
    by_cases c7 : 0 ≤ a2
    ·
     rw [if_pos c7] at H
     have c7b0 : decide (0 ≤ a2) = true := decide_eq_true c7
     clear c7
     by_cases c8 : a2 < (l1.length : Int)
     ·
      rw [if_pos c8] at H
      have c8b0 : decide (a2 < (l1.length : Int)) = true := decide_eq_true c8
      clear c8
      replace H := Option.bind_eq_some_iff.mp H
      obtain ⟨t148, A90, H⟩ := H
      replace H : ((heap_Children.f a2 t148).bind fun bt149 => (if bt149.2.2 = 0 then ((digest_Hash.f kj3 s0_0 l1 bt149.1).bind fun bt178 => ((digest_Hash.f kj3 bt178.2 l1 bt149.2.1).bind fun bt180 => (if ((rd_T33 l1 a2).f0 = true) then (digest_Hash.l0 kj3 bt178.1 bt180.1 ([] : List Int) ((rd_T33 l1 a2).f5) (((rd_T33 l1 a2).f5).length : Int) 0 bt180.2 ((rd_T33 l1 a2).f0) ((rd_T33 l1 a2).f1) ((rd_T33 l1 a2).f2) ((rd_T33 l1 a2).f3) ((rd_T33 l1 a2).f4) ((rd_T33 l1 a2).f5)) else ((term_Store_List.f kj3 bt180.2 (([bt178.1, bt180.1] : List Int))).bind fun bt185 => ((term_Store_Hash.f bt185.2 (⟨#[98, 108, 97, 110, 107]⟩ : ByteArray) bt185.1).bind fun bt187 => (some (bt187.1, bt187.2))))))) else (if ((rd_T33 l1 a2).f0 = true) then ((digest_Number.f s0_0 (wrap64 (Int.tdiv a2 2))).bind fun bt161 => ((digest_Number.f bt161.2 ((rd_T33 l1 a2).f2)).bind fun bt163 => ((digest_some.f bt163.2 ((rd_T33 l1 a2).f1)).bind fun bt165 => ((digest_some.f bt165.2 ((rd_T33 l1 a2).f3)).bind fun bt167 => ((digest_some.f bt167.2 ((rd_T33 l1 a2).f4)).bind fun bt169 => ((term_Store_List.f kj3 bt169.2 (([bt161.1, bt163.1, bt165.1, bt167.1, bt169.1] : List Int))).bind fun bt174 => ((term_Store_Hash.f bt174.2 (⟨#[108, 101, 97, 102]⟩ : ByteArray) bt174.1).bind fun bt176 => (some (bt176.1, bt176.2))))))))) else ((digest_Number.f s0_0 (wrap64 (Int.tdiv a2 2))).bind fun bt152 => ((term_Store_List.f kj3 bt152.2 (([bt152.1] : List Int))).bind fun bt157 => ((term_Store_Hash.f bt157.2 (⟨#[108, 101, 97, 102]⟩ : ByteArray) bt157.1).bind fun bt159 => (some (bt159.1, bt159.2)))))))) = some (r1, r2) := H
      have A9 := Aside0.mk A90
      clear A90
      replace H := Option.bind_eq_some_iff.mp H
      obtain ⟨⟨t149, t150, t151⟩, A100, H⟩ := H
      replace H : (if t151 = 0 then ((digest_Hash.f kj3 s0_0 l1 t149).bind fun bt178 => ((digest_Hash.f kj3 bt178.2 l1 t150).bind fun bt180 => (if ((rd_T33 l1 a2).f0 = true) then (digest_Hash.l0 kj3 bt178.1 bt180.1 ([] : List Int) ((rd_T33 l1 a2).f5) (((rd_T33 l1 a2).f5).length : Int) 0 bt180.2 ((rd_T33 l1 a2).f0) ((rd_T33 l1 a2).f1) ((rd_T33 l1 a2).f2) ((rd_T33 l1 a2).f3) ((rd_T33 l1 a2).f4) ((rd_T33 l1 a2).f5)) else ((term_Store_List.f kj3 bt180.2 (([bt178.1, bt180.1] : List Int))).bind fun bt185 => ((term_Store_Hash.f bt185.2 (⟨#[98, 108, 97, 110, 107]⟩ : ByteArray) bt185.1).bind fun bt187 => (some (bt187.1, bt187.2))))))) else (if ((rd_T33 l1 a2).f0 = true) then ((digest_Number.f s0_0 (wrap64 (Int.tdiv a2 2))).bind fun bt161 => ((digest_Number.f bt161.2 ((rd_T33 l1 a2).f2)).bind fun bt163 => ((digest_some.f bt163.2 ((rd_T33 l1 a2).f1)).bind fun bt165 => ((digest_some.f bt165.2 ((rd_T33 l1 a2).f3)).bind fun bt167 => ((digest_some.f bt167.2 ((rd_T33 l1 a2).f4)).bind fun bt169 => ((term_Store_List.f kj3 bt169.2 (([bt161.1, bt163.1, bt165.1, bt167.1, bt169.1] : List Int))).bind fun bt174 => ((term_Store_Hash.f bt174.2 (⟨#[108, 101, 97, 102]⟩ : ByteArray) bt174.1).bind fun bt176 => (some (bt176.1, bt176.2))))))))) else ((digest_Number.f s0_0 (wrap64 (Int.tdiv a2 2))).bind fun bt152 => ((term_Store_List.f kj3 bt152.2 (([bt152.1] : List Int))).bind fun bt157 => ((term_Store_Hash.f bt157.2 (⟨#[108, 101, 97, 102]⟩ : ByteArray) bt157.1).bind fun bt159 => (some (bt159.1, bt159.2))))))) = some (r1, r2) := H
      have A10 := Aside0.mk A100
      clear A100
      by_cases c11 : t151 = 0
      ·
       rw [if_pos c11] at H
       have c11b0 : (t151 == 0) = true := beq_iff_eq.mpr c11
       have c11b1 : (t151 != 0) = false := bne_eq_false_iff_eq.mpr c11
       clear c11
       replace H := Option.bind_eq_some_iff.mp H
       obtain ⟨⟨t178, t179⟩, A120, H⟩ := H
       replace H : ((digest_Hash.f kj3 t179 l1 t150).bind fun bt180 => (if ((rd_T33 l1 a2).f0 = true) then (digest_Hash.l0 kj3 t178 bt180.1 ([] : List Int) ((rd_T33 l1 a2).f5) (((rd_T33 l1 a2).f5).length : Int) 0 bt180.2 ((rd_T33 l1 a2).f0) ((rd_T33 l1 a2).f1) ((rd_T33 l1 a2).f2) ((rd_T33 l1 a2).f3) ((rd_T33 l1 a2).f4) ((rd_T33 l1 a2).f5)) else ((term_Store_List.f kj3 bt180.2 (([t178, bt180.1] : List Int))).bind fun bt185 => ((term_Store_Hash.f bt185.2 (⟨#[98, 108, 97, 110, 107]⟩ : ByteArray) bt185.1).bind fun bt187 => (some (bt187.1, bt187.2)))))) = some (r1, r2) := H
       have A12 := Aside0.mk A120
       clear A120
       replace H := Option.bind_eq_some_iff.mp H
       obtain ⟨⟨t180, t181⟩, A130, H⟩ := H
       replace H : (if ((rd_T33 l1 a2).f0 = true) then (digest_Hash.l0 kj3 t178 t180 ([] : List Int) ((rd_T33 l1 a2).f5) (((rd_T33 l1 a2).f5).length : Int) 0 t181 ((rd_T33 l1 a2).f0) ((rd_T33 l1 a2).f1) ((rd_T33 l1 a2).f2) ((rd_T33 l1 a2).f3) ((rd_T33 l1 a2).f4) ((rd_T33 l1 a2).f5)) else ((term_Store_List.f kj3 t181 (([t178, t180] : List Int))).bind fun bt185 => ((term_Store_Hash.f bt185.2 (⟨#[98, 108, 97, 110, 107]⟩ : ByteArray) bt185.1).bind fun bt187 => (some (bt187.1, bt187.2))))) = some (r1, r2) := H
       have A13 := Aside0.mk A130
       clear A130
       obtain ⟨bq14, hbq14⟩ : ∃ b_ : Bool, b_ = ((rd_T33 l1 a2).f0) := ⟨_, rfl⟩
       replace H : (if (bq14 = true) then (digest_Hash.l0 kj3 t178 t180 ([] : List Int) ((rd_T33 l1 a2).f5) (((rd_T33 l1 a2).f5).length : Int) 0 t181 bq14 ((rd_T33 l1 a2).f1) ((rd_T33 l1 a2).f2) ((rd_T33 l1 a2).f3) ((rd_T33 l1 a2).f4) ((rd_T33 l1 a2).f5)) else ((term_Store_List.f kj3 t181 (([t178, t180] : List Int))).bind fun bt185 => ((term_Store_Hash.f bt185.2 (⟨#[98, 108, 97, 110, 107]⟩ : ByteArray) bt185.1).bind fun bt187 => (some (bt187.1, bt187.2))))) = some (r1, r2) := by rw [← hbq14] at H; exact H
       have Nbq14 := Aside0.mk hbq14
       clear hbq14
       by_cases c15 : (bq14 = true)
       ·
        subst c15
        have H1 : (digest_Hash.l0 kj3 t178 t180 ([] : List Int) ((rd_T33 l1 a2).f5) (((rd_T33 l1 a2).f5).length : Int) 0 t181 true ((rd_T33 l1 a2).f1) ((rd_T33 l1 a2).f2) ((rd_T33 l1 a2).f3) ((rd_T33 l1 a2).f4) ((rd_T33 l1 a2).f5)) = some (r1, r2) := by rw [if_pos rfl] at H; exact H
        clear H
        have H := H1
        clear H1
        have H' := Aside0.mk H
        clear H
        have p146 : 0 ≤ (a2 : Int) := of_decide_eq_true (by first | (with_reducible assumption) | assumption)
        have q146 : a2 < (l1.length : Int) := of_decide_eq_true (by first | (with_reducible assumption) | assumption)
        obtain ⟨ad146, A146_5, c146_5, e146, hx146_0, hx146_1, hx146_2, hx146_3, hx146_4, hx146_5, hl146_5, hi146_5⟩ := at_T33 (Kd.C_footSt_now HR1.out HK.out) a2 p146 q146
        have HF146_5 := Aside0.mk (foot_inner33 HR1.out HK.out p146 q146 e146 hx146_5)
        (try rw [← Nbq14.out] at hx146_0)
        cases e146
        have HR146_5 := Aside0.mk hi146_5
        have HC146_5 := Aside0.mk hl146_5
        clear hi146_5 hl146_5
        replace p146 := eq_true p146
        replace q146 := eq_true q146
        go_wp2_with (first | ((with_reducible refine gate_dst (N := 7) rfl ?_); (try (refine gate_guard (by rfl) ?_; dsimp only)); refine box_event ?hg (N := 7) ?hd (cs := #[.bool false, .int .i64 0, .int .i64 0, .int .i64 0, .int .i64 0, .slice none 0 0]) (t := 33) ?hr ?_; (case hd => rfl); (case hg => rfl); (case hr => first | (go_simp; done) | (go_simp; rfl)); intro gb147 hg w16 hbox hb; have n0_ := Aside0.mk (IsS75.below (by repeat (first | (with_reducible first |exact HI0.out |apply IsS75.alloc |apply IsS75.drewN |apply IsS75.drew |apply IsS75.set_0) |exact HI0.out)) hb); have n1_ := Aside0.mk (Kd.C_below (by repeat (first | (with_reducible exact HR146_5.out) | (with_reducible refine Kd.C_alloc ?_ _) | (with_reducible refine Kd.C_drewN ?_ _) | (with_reducible refine Kd.C_drew ?_) |exact HR146_5.out)) hb); have n2_ := Aside0.mk (KeepSt.trans (by repeat (first | (with_reducible first |exact HK.out |apply KeepSt.drewN |apply KeepSt.drew |apply KeepSt.alloc) |exact HK.out)) (KeepSt.of_below hb w0)); have n3_ := Aside0.mk (below_step (by repeat (first | (with_reducible first |exact HB.out |apply below_alloc |apply pw_below_drewN |apply below_drew1 |refine below_set ?_ (IsS75.ge HI0.out)) |exact HB.out)) hb); have n4_ := Aside0.mk (hbox); have n5_ := Aside0.mk ((by rw [hg]; exact (KeepSt.size (w := w) (w0 := w0) (by repeat (first | (with_reducible first |exact HK.out |apply KeepSt.drewN |apply KeepSt.drew |apply KeepSt.alloc) |exact HK.out))) : w.heap.size ≤ gb147)); have n6_ := Aside0.mk ((Nat.le_trans HW0.out (by rw [hg]; exact (KeepSt.size (w := w) (w0 := w0) (by repeat (first | (with_reducible first |exact HK.out |apply KeepSt.drewN |apply KeepSt.drew |apply KeepSt.alloc) |exact HK.out))) : w.heap.size ≤ gb147) : w0.heap.size ≤ gb147)); have n7_ := Aside0.mk ((by rw [hg]; exact Nat.ne_of_lt (IsS75.lt (show IsS75 w0 _ g s0_0 from by repeat (first | (with_reducible first |exact HI0.out |apply IsS75.alloc |apply IsS75.drewN |apply IsS75.drew |apply IsS75.set_0) |exact HI0.out))) : g ≠ gb147)); have n8_ := Aside0.mk ((by rw [hg]; exact Nat.ne_of_gt (IsS75.lt (show IsS75 w0 _ g s0_0 from by repeat (first | (with_reducible first |exact HI0.out |apply IsS75.alloc |apply IsS75.drewN |apply IsS75.drew |apply IsS75.set_0) |exact HI0.out))) : gb147 ≠ g)); clear HI0; clear HR146_5; clear HK; clear HB; have HI0 := n0_; have HR146_5 := n1_; have HK := n2_; have HB := n3_; have BK147 := n4_; have GW147 := n5_; have GE147 := n6_; have NB0_147 := n7_; have NB147_0 := n8_; clear n0_ n1_ n2_ n3_ n4_ n5_ n6_ n7_ n8_; clear hb hbox hg; have hnb17 := NB147_0.out; have hnc17 := NB0_147.out; have hcz18_0 : w16.cell? ⟨gb147, 0, none⟩ = some (.bool false) := (blk_cell BK147.out 0).trans rfl; have hcz18_1 : w16.cell? ⟨gb147, 1, none⟩ = some (.int .i64 0) := (blk_cell BK147.out 1).trans rfl; have hcz18_2 : w16.cell? ⟨gb147, 2, none⟩ = some (.int .i64 0) := (blk_cell BK147.out 2).trans rfl; have hcz18_3 : w16.cell? ⟨gb147, 3, none⟩ = some (.int .i64 0) := (blk_cell BK147.out 3).trans rfl; have hcz18_4 : w16.cell? ⟨gb147, 4, none⟩ = some (.int .i64 0) := (blk_cell BK147.out 4).trans rfl; have hcz18_5 : w16.cell? ⟨gb147, 5, none⟩ = some (.slice none 0 0) := (blk_cell BK147.out 5).trans rfl; have hfz18_0 := blk_frozen BK147.out 0; have hfz18_1 := blk_frozen BK147.out 1; have hfz18_2 := blk_frozen BK147.out 2; have hfz18_3 := blk_frozen BK147.out 3; have hfz18_4 := blk_frozen BK147.out 4; have hfz18_5 := blk_frozen BK147.out 5) | ((with_reducible refine gate_callee (f := 39) rfl ?_); refine goesL_ (some 31) rfl rfl Tryd.func39 (by kernel_rfl) rfl #[.slice (some ad146) l1.length c1] rfl (by (try simp only [List.map_toArray, List.map_cons, List.map_nil]); first | done | rfl | (simp only [List.length_drop, List.length_take]; rfl)) ?_; (with_reducible refine (tree_Leaves.calls _ _ l1 t148 _ ?side1 ?side2 A9.out).mono ?_); (case side1 => exact Kd.C_footSt_now HR1.out (by repeat (first | (with_reducible first |exact HK.out |apply KeepSt.drewN |apply KeepSt.drew |apply KeepSt.alloc |refine KeepSt.far ?_ GW147.out _) |exact HK.out))); (case side2 => exact HC1.out); rintro e w' ⟨rfl, ⟨nd, rfl⟩⟩; refine ⟨_, rfl, ?_⟩) | ((with_reducible refine gate_callee (f := 40) rfl ?_); refine goesL_ (some 32) rfl rfl Tryd.func40 (by kernel_rfl) rfl #[.int .i64 a2, .int .i64 t148] rfl (by (try simp only [List.map_toArray, List.map_cons, List.map_nil]); first | done | rfl | (simp only [List.length_drop, List.length_take]; rfl)) ?_; (with_reducible refine (heap_Children.calls (hrG := ?sideG) a2 t148 t149 t150 t151 _ A10.out).mono ?_); (case sideG => (first | (with_reducible exact HRG.out) |exact TabG.below HRG.out (by repeat (first | (with_reducible first |exact HB.out |apply below_alloc |apply pw_below_drewN |apply below_drew1 |refine below_set ?_ (IsS75.ge HI0.out) |refine below_set ?_ GE147.out) | (with_reducible exact Below.refl _ _))))); rintro e w' ⟨rfl, ⟨nd, rfl⟩⟩; refine ⟨_, rfl, ?_⟩) | ((with_reducible refine gate_callee (f := 17) rfl ?_); refine goesL_ (some 78) rfl rfl Tryd.func17 (by kernel_rfl) rfl #[.pointer (some ⟨g, 0, none⟩), .slice (some ad146) l1.length c1, .int .i64 t149] rfl (by (try simp only [List.map_toArray, List.map_cons, List.map_nil]); first | done | rfl | (simp only [List.length_drop, List.length_take]; rfl)) ?_; (with_reducible refine (ih kj3 (by have := HJ3.out; omega) g s0_0 _ _ l1 t149 t178 t179 w0 _ ?sideG ?side1 ?side2 ?side3 ?side4 A12.out).mono ?_); (case sideG => (first | (with_reducible exact HRG.out) |exact TabG.below HRG.out (by repeat (first | (with_reducible first |exact HB.out |apply below_alloc |apply pw_below_drewN |apply below_drew1 |refine below_set ?_ (IsS75.ge HI0.out) |refine below_set ?_ GE147.out) | (with_reducible exact Below.refl _ _))))); (case side1 => repeat (first | (with_reducible first |exact HI0.out |apply IsS75.alloc |apply IsS75.drewN |apply IsS75.drew |apply IsS75.set_0 | (focus (refine IsS75.far ?_ ?_ _; rotate_left; (focus ((repeat (first | (with_reducible exact Nsty.of BK147.out rfl) |apply Nsty.set |apply Nsty.drewN |apply Nsty.drew |apply Nsty.alloc)); done))))) |exact HI0.out)); (case side2 => repeat (first | (with_reducible first |exact HB.out |apply below_alloc |apply pw_below_drewN |apply below_drew1 |refine below_set ?_ (IsS75.ge HI0.out) |refine below_set ?_ GE147.out) |exact HB.out)); (case side3 => exact Kd.C_footSt_step HR1.out (by repeat (first | (with_reducible first |exact HK.out |apply KeepSt.drewN |apply KeepSt.drew |apply KeepSt.alloc |refine KeepSt.far ?_ GW147.out _) |exact HK.out))); (case side4 => exact HC1.out); rintro e w19 ⟨rfl, hi, hb, hk⟩; refine ⟨_, rfl, ?_⟩; have n0_ := Aside0.mk (KeepSt.blk hk (g' := gb147) (o := .cells #[.bool true, .int .i64 ((rd_T33 l1 a2).f1), .int .i64 ((rd_T33 l1 a2).f2), .int .i64 ((rd_T33 l1 a2).f3), .int .i64 ((rd_T33 l1 a2).f4), .slice A146_5 ((rd_T33 l1 a2).f5).length c146_5] 33 (0, 0)) (by (with_reducible repeat (first |refine blk_drewN ?_ _ |refine blk_drew ?_ |refine blk_alloc ?_ _)); refine blk_put (cs := #[.bool true, .int .i64 ((rd_T33 l1 a2).f1), .int .i64 ((rd_T33 l1 a2).f2), .int .i64 ((rd_T33 l1 a2).f3), .int .i64 ((rd_T33 l1 a2).f4), .slice none 0 0]) ?_ 5 _ rfl; (with_reducible repeat (first |refine blk_drewN ?_ _ |refine blk_drew ?_ |refine blk_alloc ?_ _)); refine blk_put (cs := #[.bool true, .int .i64 ((rd_T33 l1 a2).f1), .int .i64 ((rd_T33 l1 a2).f2), .int .i64 ((rd_T33 l1 a2).f3), .int .i64 0, .slice none 0 0]) ?_ 4 _ rfl; (with_reducible repeat (first |refine blk_drewN ?_ _ |refine blk_drew ?_ |refine blk_alloc ?_ _)); refine blk_put (cs := #[.bool true, .int .i64 ((rd_T33 l1 a2).f1), .int .i64 ((rd_T33 l1 a2).f2), .int .i64 0, .int .i64 0, .slice none 0 0]) ?_ 3 _ rfl; (with_reducible repeat (first |refine blk_drewN ?_ _ |refine blk_drew ?_ |refine blk_alloc ?_ _)); refine blk_put (cs := #[.bool true, .int .i64 ((rd_T33 l1 a2).f1), .int .i64 0, .int .i64 0, .int .i64 0, .slice none 0 0]) ?_ 2 _ rfl; (with_reducible repeat (first |refine blk_drewN ?_ _ |refine blk_drew ?_ |refine blk_alloc ?_ _)); refine blk_put (cs := #[.bool true, .int .i64 0, .int .i64 0, .int .i64 0, .int .i64 0, .slice none 0 0]) ?_ 1 _ rfl; (with_reducible repeat (first |refine blk_drewN ?_ _ |refine blk_drew ?_ |refine blk_alloc ?_ _)); refine blk_put (cs := #[.bool false, .int .i64 0, .int .i64 0, .int .i64 0, .int .i64 0, .slice none 0 0]) ?_ 0 _ rfl; (with_reducible repeat (first |refine blk_drewN ?_ _ |refine blk_drew ?_ |refine blk_alloc ?_ _)); exact BK147.out) NB147_0.out rfl); have n1_ := Aside0.mk (KeepSt.trans (by repeat (first | (with_reducible first |exact HK.out |apply KeepSt.drewN |apply KeepSt.drew |apply KeepSt.alloc |refine KeepSt.far ?_ GW147.out _) |exact HK.out)) hk); have n2_ := Aside0.mk (hb); have n3_ := Aside0.mk (hi); clear BK147; clear HK; clear HB; clear HI0; have BK147 := n0_; have HK := n1_; have HB := n2_; have HI0 := n3_; clear n0_ n1_ n2_ n3_; (try clear hb); (try clear hb2); (try clear hk); (try clear hi)) | ((with_reducible refine gate_callee (f := 17) rfl ?_); refine goesL_ (some 82) rfl rfl Tryd.func17 (by kernel_rfl) rfl #[.pointer (some ⟨g, 0, none⟩), .slice (some ad146) l1.length c1, .int .i64 t150] rfl (by (try simp only [List.map_toArray, List.map_cons, List.map_nil]); first | done | rfl | (simp only [List.length_drop, List.length_take]; rfl)) ?_; (with_reducible refine (ih kj3 (by have := HJ3.out; omega) g t179 _ _ l1 t150 t180 t181 w0 _ ?sideG ?side1 ?side2 ?side3 ?side4 A13.out).mono ?_); (case sideG => (first | (with_reducible exact HRG.out) |exact TabG.below HRG.out (by repeat (first | (with_reducible first |exact HB.out |apply below_alloc |apply pw_below_drewN |apply below_drew1 |refine below_set ?_ (IsS75.ge HI0.out) |refine below_set ?_ GE147.out) | (with_reducible exact Below.refl _ _))))); (case side1 => repeat (first | (with_reducible first |exact HI0.out |apply IsS75.alloc |apply IsS75.drewN |apply IsS75.drew |apply IsS75.set_0 | (focus (refine IsS75.far ?_ ?_ _; rotate_left; (focus ((repeat (first | (with_reducible exact Nsty.of BK147.out rfl) |apply Nsty.set |apply Nsty.drewN |apply Nsty.drew |apply Nsty.alloc)); done))))) |exact HI0.out)); (case side2 => repeat (first | (with_reducible first |exact HB.out |apply below_alloc |apply pw_below_drewN |apply below_drew1 |refine below_set ?_ (IsS75.ge HI0.out) |refine below_set ?_ GE147.out) |exact HB.out)); (case side3 => exact Kd.C_footSt_step HR1.out (by repeat (first | (with_reducible first |exact HK.out |apply KeepSt.drewN |apply KeepSt.drew |apply KeepSt.alloc |refine KeepSt.far ?_ GW147.out _) |exact HK.out))); (case side4 => exact HC1.out); rintro e w20 ⟨rfl, hi, hb, hk⟩; refine ⟨_, rfl, ?_⟩; have n0_ := Aside0.mk (KeepSt.blk hk (g' := gb147) (o := .cells #[.bool true, .int .i64 ((rd_T33 l1 a2).f1), .int .i64 ((rd_T33 l1 a2).f2), .int .i64 ((rd_T33 l1 a2).f3), .int .i64 ((rd_T33 l1 a2).f4), .slice A146_5 ((rd_T33 l1 a2).f5).length c146_5] 33 (0, 0)) (by (with_reducible repeat (first |refine blk_drewN ?_ _ |refine blk_drew ?_ |refine blk_alloc ?_ _)); exact BK147.out) NB147_0.out rfl); have n1_ := Aside0.mk (KeepSt.trans (by repeat (first | (with_reducible first |exact HK.out |apply KeepSt.drewN |apply KeepSt.drew |apply KeepSt.alloc |refine KeepSt.far ?_ GW147.out _) |exact HK.out)) hk); have n2_ := Aside0.mk (hb); have n3_ := Aside0.mk (hi); clear BK147; clear HK; clear HB; clear HI0; have BK147 := n0_; have HK := n1_; have HB := n2_; have HI0 := n3_; clear n0_ n1_ n2_ n3_; (try clear hb); (try clear hb2); (try clear hk); (try clear hi); have hcz21_0 : w20.cell? ⟨gb147, 0, none⟩ = some (.bool true) := (blk_cell BK147.out 0).trans rfl; have hcz21_1 : w20.cell? ⟨gb147, 1, none⟩ = some (.int .i64 ((rd_T33 l1 a2).f1)) := (blk_cell BK147.out 1).trans rfl; have hcz21_2 : w20.cell? ⟨gb147, 2, none⟩ = some (.int .i64 ((rd_T33 l1 a2).f2)) := (blk_cell BK147.out 2).trans rfl; have hcz21_3 : w20.cell? ⟨gb147, 3, none⟩ = some (.int .i64 ((rd_T33 l1 a2).f3)) := (blk_cell BK147.out 3).trans rfl; have hcz21_4 : w20.cell? ⟨gb147, 4, none⟩ = some (.int .i64 ((rd_T33 l1 a2).f4)) := (blk_cell BK147.out 4).trans rfl; have hcz21_5 : w20.cell? ⟨gb147, 5, none⟩ = some (.slice A146_5 ((rd_T33 l1 a2).f5).length c146_5) := (blk_cell BK147.out 5).trans rfl; have hfz21_0 := blk_frozen BK147.out 0; have hfz21_1 := blk_frozen BK147.out 1; have hfz21_2 := blk_frozen BK147.out 2; have hfz21_3 := blk_frozen BK147.out 3; have hfz21_4 := blk_frozen BK147.out 4; have hfz21_5 := blk_frozen BK147.out 5))
        go_loopg [13, 96] kj3 (fun kq v13 v96 w' => ∃ (x13_2 : List Int) (x96_2 : Int) (x1000_2 : TS), v96 = .int .i64 x96_2 ∧ Aside0 (digest_Hash.l0 kq t178 t180 x13_2 ((rd_T33 l1 a2).f5) (((rd_T33 l1 a2).f5).length : Int) x96_2 x1000_2 true ((rd_T33 l1 a2).f1) ((rd_T33 l1 a2).f2) ((rd_T33 l1 a2).f3) ((rd_T33 l1 a2).f4) ((rd_T33 l1 a2).f5) = some (r1, r2)) ∧ Aside0 (kq ≤ kj3) ∧ Aside0 (Kd.R (Kd.int .i64) 3 w' w.heap.size (fun _ => True) v13 x13_2) ∧ Aside0 (w'.heap[gb147]? = some (.cells #[.bool true, .int .i64 ((rd_T33 l1 a2).f1), .int .i64 ((rd_T33 l1 a2).f2), .int .i64 ((rd_T33 l1 a2).f3), .int .i64 ((rd_T33 l1 a2).f4), (.slice A146_5 ((rd_T33 l1 a2).f5).length c146_5)] 33 (0, 0))) ∧ Aside0 (IsS75 w0 w' g x1000_2) ∧ Aside0 (KeepSt w w' w0) ∧ Aside0 (Below w0.heap.size w0 w'))
        case atStart => exact ⟨(([] : List Int)), (0), (t181), (by first | rfl | (simp; done) | (simp [*]; done)), H', ⟨Nat.le_refl _⟩, ⟨by first | exact Kd.R_nil _ _ _ _ _ | exact Kd.N_nil _ _ _ _ _ | exact Kd.V_nil _ _ _ _ _ | exact Kd.Q_nil _ _ _ _ _ | exact Kd.S_nil _ _ _ _ _⟩, ⟨by (with_reducible repeat (first | refine blk_drewN ?_ _ | refine blk_drew ?_ | refine blk_alloc ?_ _)); exact BK147.out⟩, ⟨by repeat (first | (with_reducible first | exact HI0.out | apply IsS75.alloc | apply IsS75.drewN | apply IsS75.drew | apply IsS75.set_0 | (focus (refine IsS75.far ?_ ?_ _; rotate_left; (focus ((repeat (first | (with_reducible exact Nsty.of BK147.out rfl) | apply Nsty.set | apply Nsty.drewN | apply Nsty.drew | apply Nsty.alloc)); done))))) | exact HI0.out)⟩, ⟨by repeat (first | (with_reducible first | exact HK.out | apply KeepSt.drewN | apply KeepSt.drew | apply KeepSt.alloc | refine KeepSt.far ?_ GW147.out _) | exact HK.out)⟩, ⟨by repeat (first | (with_reducible first | exact HB.out | apply below_alloc | apply pw_below_drewN | apply below_drew1 | refine below_set ?_ (IsS75.ge HI0.out) | refine below_set ?_ GE147.out) | exact HB.out)⟩⟩
        case round =>
         clear H'
         try clear c1
         try clear p1
         try clear q1
         try clear hx1
         try clear p2
         try clear c3
         try clear c4
         try clear c5
         try clear c5b0
         try clear c6
         try clear p6
         try clear c7
         try clear c7b0
         try clear c8
         try clear c8b0
         try clear c11
         try clear c11b0
         try clear c11b1
         try clear c14
         try clear p14
         try clear q14
         try clear hx14
         try clear c15
         try clear c17
         try clear hcz18_0
         try clear hcz18_1
         try clear hcz18_2
         try clear hcz18_3
         try clear hcz18_4
         try clear hcz18_5
         try clear hcz21_0
         try clear hcz21_1
         try clear hcz21_2
         try clear hcz21_3
         try clear hcz21_4
         try clear hcz21_5
         try clear hfz18_0
         try clear hfz18_1
         try clear hfz18_2
         try clear hfz18_3
         try clear hfz18_4
         try clear hfz18_5
         try clear hfz21_0
         try clear hfz21_1
         try clear hfz21_2
         try clear hfz21_3
         try clear hfz21_4
         try clear hfz21_5
         try clear hx146_0
         try clear hx146_1
         try clear hx146_2
         try clear hx146_3
         try clear hx146_4
         try clear hx146_5
         try clear p146
         try clear p2
         try clear q146
         obtain ⟨x13_2, x96_2, x1000_2, rfl, HA, HK2, HO_13, BK147, HI0, HK, HB⟩ := hrel
         cases gk with
         | zero => exact absurd HA.out (by simp [digest_Hash.l0])
         | succ k2 =>
          have H := HA.out
          clear HA
          simp only [digest_Hash.l0] at H
          by_cases c22 : x96_2 < (((rd_T33 l1 a2).f5).length : Int)
          ·
           rw [if_pos c22] at H
           have c22b0 : decide (x96_2 < (((rd_T33 l1 a2).f5).length : Int)) = true := decide_eq_true c22
           clear c22
           by_cases c23 : 0 ≤ x96_2
           ·
            rw [if_pos c23] at H
            have c23b0 : decide (0 ≤ x96_2) = true := decide_eq_true c23
            clear c23
            by_cases c24 : x96_2 < (((rd_T33 l1 a2).f5).length : Int)
            ·
             rw [if_pos c24] at H
             have c24b0 : decide (x96_2 < (((rd_T33 l1 a2).f5).length : Int)) = true := decide_eq_true c24
             clear c24
             replace H := Option.bind_eq_some_iff.mp H
             obtain ⟨⟨t190, t191⟩, A250, H⟩ := H
             replace H : (if x13_2.length < 17592186044416 then (digest_Hash.l0 k2 t178 t180 (x13_2 ++ [t190]) ((rd_T33 l1 a2).f5) (((rd_T33 l1 a2).f5).length : Int) (wrap64 (x96_2 + 1)) t191 true ((rd_T33 l1 a2).f1) ((rd_T33 l1 a2).f2) ((rd_T33 l1 a2).f3) ((rd_T33 l1 a2).f4) ((rd_T33 l1 a2).f5)) else (none)) = some (r1, r2) := H
             have A25 := Aside0.mk A250
             clear A250
             by_cases c26 : x13_2.length < 17592186044416
             ·
              rw [if_pos c26] at H
              have LMc26 := Aside0.mk c26
              clear c26
              obtain ⟨y192, hy192⟩ : ∃ y_ : List Int, y_ = (x13_2 ++ [t190]) := ⟨_, rfl⟩
              replace H : (digest_Hash.l0 k2 t178 t180 y192 ((rd_T33 l1 a2).f5) (((rd_T33 l1 a2).f5).length : Int) (wrap64 (x96_2 + 1)) t191 true ((rd_T33 l1 a2).f1) ((rd_T33 l1 a2).f2) ((rd_T33 l1 a2).f3) ((rd_T33 l1 a2).f4) ((rd_T33 l1 a2).f5)) = some (r1, r2) := by first | (rw [hy192]; with_reducible exact H) | (have H2_ := (Option.bind_some _ _).symm.trans H; rw [hy192]; with_reducible exact H2_) | (have H2_ := (Option.bind_some _ _).symm.trans H; with_reducible exact H2_) | with_reducible exact H | (rw [hy192]; exact H) | exact H
              have Ny192 := Aside0.mk hy192
              clear hy192
              have H' := Aside0.mk H
              clear H
              have p189 : 0 ≤ (x96_2 : Int) := of_decide_eq_true (by first | (with_reducible assumption) | assumption)
              have q189 : x96_2 < (((rd_T33 l1 a2).f5).length : Int) := of_decide_eq_true (by first | (with_reducible assumption) | assumption)
              obtain ⟨ad189, e189, hx189_0⟩ := Kd.at_int (HF146_5.out _ HK.out) x96_2 p189 q189
              cases e189
              replace p189 := eq_true p189
              replace q189 := eq_true q189
              go_wp2_with (first | ((with_reducible refine gate_callee (f := 20) rfl ?_); refine goesL_ (some 103) rfl rfl Tryd.func20 (by kernel_rfl) rfl #[.pointer (some ⟨g, 0, none⟩), .int .i64 (rd ((rd_T33 l1 a2).f5) x96_2)] rfl (by (try simp only [List.map_toArray, List.map_cons, List.map_nil]); first | done | rfl | (simp only [List.length_drop, List.length_take]; rfl)) ?_; (with_reducible refine (digest_Number.calls (hrG := ?sideG) g x1000_2 (rd ((rd_T33 l1 a2).f5) x96_2) t190 t191 w0 _ ?side1 ?side2 A25.out).mono ?_); (case sideG => (first | (with_reducible exact HRG.out) |exact TabG.below HRG.out (by repeat (first | (with_reducible first |exact HB.out |apply below_alloc |apply pw_below_drewN |apply below_drew1 |refine below_set ?_ (IsS75.ge HI0.out) |refine below_set ?_ GE147.out) | (with_reducible exact Below.refl _ _))))); (case side1 => repeat (first | (with_reducible first |exact HI0.out |apply IsS75.alloc |apply IsS75.drewN |apply IsS75.drew |apply IsS75.set_0 | (focus (refine IsS75.far ?_ ?_ _; rotate_left; (focus ((repeat (first | (with_reducible exact Nsty.of BK147.out rfl) |apply Nsty.set |apply Nsty.drewN |apply Nsty.drew |apply Nsty.alloc)); done))))) |exact HI0.out)); (case side2 => repeat (first | (with_reducible first |exact HB.out |apply below_alloc |apply pw_below_drewN |apply below_drew1 |refine below_set ?_ (IsS75.ge HI0.out) |refine below_set ?_ GE147.out) |exact HB.out)); rintro e w27 ⟨rfl, hi, hb, hk⟩; refine ⟨_, rfl, ?_⟩; have n0_ := Aside0.mk (Kd.R_mono (Kd.R_keepSt (IsS75.apart (show IsS75 w0 _ g x1000_2 from by repeat (first | (with_reducible first |exact HI0.out |apply IsS75.alloc |apply IsS75.drewN |apply IsS75.drew |apply IsS75.set_0 | (focus (refine IsS75.far ?_ ?_ _; rotate_left; (focus ((repeat (first | (with_reducible exact Nsty.of BK147.out rfl) |apply Nsty.set |apply Nsty.drewN |apply Nsty.drew |apply Nsty.alloc)); done))))) |exact HI0.out)) (by (with_reducible repeat (first |apply Kd.R_alloc |apply Kd.R_drewN |apply Kd.R_drew)); exact HO_13.out) (by decide)) hk (fun _ h => h.2)) (fun _ h => h.1)); have n1_ := Aside0.mk (KeepSt.blk hk (g' := gb147) (o := .cells #[.bool true, .int .i64 ((rd_T33 l1 a2).f1), .int .i64 ((rd_T33 l1 a2).f2), .int .i64 ((rd_T33 l1 a2).f3), .int .i64 ((rd_T33 l1 a2).f4), .slice (some ad189) ((rd_T33 l1 a2).f5).length c146_5] 33 (0, 0)) (by (with_reducible repeat (first |refine blk_drewN ?_ _ |refine blk_drew ?_ |refine blk_alloc ?_ _)); exact BK147.out) NB147_0.out rfl); have n2_ := Aside0.mk (KeepSt.trans (by repeat (first | (with_reducible first |exact HK.out |apply KeepSt.drewN |apply KeepSt.drew |apply KeepSt.alloc |refine KeepSt.far ?_ GW147.out _) |exact HK.out)) hk); have n3_ := Aside0.mk (hb); have n4_ := Aside0.mk (hi); clear HO_13; clear BK147; clear HK; clear HB; clear HI0; have HO_13 := n0_; have BK147 := n1_; have HK := n2_; have HB := n3_; have HI0 := n4_; clear n0_ n1_ n2_ n3_ n4_; (try clear hb); (try clear hb2); (try clear hk); (try clear hi)) | ((with_reducible refine gate_builtin (b := .append) (xs := #[.tmp 100, .tmp 104]) rfl ?_); (try (refine gate_guard (by rfl) ?_; dsimp only)); at_builtin; refine Kd.R_append (Kd.int .i64) w.heap.size rfl (.tmp 100) (.tmp 104) 31 3 (.int .i64 0) 8 rfl Tryd.underlying31 info3 rfl (by decide) (by omega) u13 x13_2 t190 [.int .i64 t190] (fun _ => True) (fun _ => False) rfl rfl ?aP (fun _ hk => hk.elim) ?aF ?aO (Below.refl _ _) ?aS ?aL ?_; (case aP => exact rfl); (case aF => exact (fun _ _ => trivial)); (case aO => exact (by (with_reducible repeat (first |apply Kd.R_alloc |apply Kd.R_drewN |apply Kd.R_drew)); exact HO_13.out)); (case aS => exact (KeepSt.size (w := w) (w0 := w0) (by repeat (first | (with_reducible first |exact HK.out |apply KeepSt.drewN |apply KeepSt.drew |apply KeepSt.alloc |refine KeepSt.far ?_ GW147.out _) |exact HK.out)))); (case aL => have := LMc26.out; omega); intro v193 w28 ho hb hg hat; rw [← Ny192.out] at ho; have n0_ := Aside0.mk (blk_grown (g := gb147) (o := .cells #[.bool true, .int .i64 ((rd_T33 l1 a2).f1), .int .i64 ((rd_T33 l1 a2).f2), .int .i64 ((rd_T33 l1 a2).f3), .int .i64 ((rd_T33 l1 a2).f4), .slice (some ad189) ((rd_T33 l1 a2).f5).length c146_5] 33 (0, 0)) (by (with_reducible repeat (first |refine blk_drewN ?_ _ |refine blk_drew ?_ |refine blk_alloc ?_ _)); exact BK147.out) hg (Kd.R_ne HO_13.out BK147.out (by decide))); have n1_ := Aside0.mk (IsS75.grown (by repeat (first | (with_reducible first |exact HI0.out |apply IsS75.alloc |apply IsS75.drewN |apply IsS75.drew |apply IsS75.set_0 | (focus (refine IsS75.far ?_ ?_ _; rotate_left; (focus ((repeat (first | (with_reducible exact Nsty.of BK147.out rfl) |apply Nsty.set |apply Nsty.drewN |apply Nsty.drew |apply Nsty.alloc)); done))))) |exact HI0.out)) hg (IsS75.own_ne HI0.out HO_13.out (by decide))); have n2_ := Aside0.mk (below_weaken (by repeat (first | (with_reducible first |exact HB.out |apply below_alloc |apply pw_below_drewN |apply below_drew1 |refine below_set ?_ (IsS75.ge HI0.out) |refine below_set ?_ GE147.out) |exact HB.out)) HL.out hb); have n3_ := Aside0.mk (KeepSt.grown (by repeat (first | (with_reducible first |exact HK.out |apply KeepSt.drewN |apply KeepSt.drew |apply KeepSt.alloc |refine KeepSt.far ?_ GW147.out _) |exact HK.out)) hg (Kd.R_base2 HO_13.out)); have n4_ := Aside0.mk (ho); clear BK147; clear HI0; clear HB; clear HK; clear HO_13; have BK147 := n0_; have HI0 := n1_; have HB := n2_; have HK := n3_; have HO194 := n4_; clear n0_ n1_ n2_ n3_ n4_; clear ho hb hg hat))
              go_roundg k2
              case measure => have := HJ3.out; have := HK2.out; omega
              case rel => exact ⟨(y192), (wrap64 (x96_2 + 1)), (t191), (by first | rfl | (simp; done) | (simp [*]; done)), H', ⟨by have := HJ3.out; have := HK2.out; omega⟩, ⟨by (with_reducible repeat (first | apply Kd.R_alloc | apply Kd.R_drewN | apply Kd.R_drew)); exact HO194.out⟩, ⟨by (with_reducible repeat (first | refine blk_drewN ?_ _ | refine blk_drew ?_ | refine blk_alloc ?_ _)); exact BK147.out⟩, ⟨by repeat (first | (with_reducible first | exact HI0.out | apply IsS75.alloc | apply IsS75.drewN | apply IsS75.drew | apply IsS75.set_0 | (focus (refine IsS75.far ?_ ?_ _; rotate_left; (focus ((repeat (first | (with_reducible exact Nsty.of BK147.out rfl) | apply Nsty.set | apply Nsty.drewN | apply Nsty.drew | apply Nsty.alloc)); done))))) | exact HI0.out)⟩, ⟨by repeat (first | (with_reducible first | exact HK.out | apply KeepSt.drewN | apply KeepSt.drew | apply KeepSt.alloc | refine KeepSt.far ?_ GW147.out _) | exact HK.out)⟩, ⟨by repeat (first | (with_reducible first | exact HB.out | apply below_alloc | apply pw_below_drewN | apply below_drew1 | refine below_set ?_ (IsS75.ge HI0.out) | refine below_set ?_ GE147.out) | exact HB.out)⟩⟩
             ·
              rw [if_neg c26] at H
              exact absurd H (by simp)
            ·
             rw [if_neg c24] at H
             exact absurd H (by simp)
           ·
            rw [if_neg c23] at H
            exact absurd H (by simp)
          ·
           rw [if_neg c22] at H
           have c22b0 : decide (x96_2 < (((rd_T33 l1 a2).f5).length : Int)) = false := decide_eq_false c22
           clear c22
           replace H := Option.bind_eq_some_iff.mp H
           obtain ⟨⟨t195, t196⟩, A290, H⟩ := H
           replace H : ((digest_some.f t196 ((rd_T33 l1 a2).f4)).bind fun bt197 => ((term_Store_List.f k2 bt197.2 x13_2).bind fun bt199 => ((term_Store_List.f k2 bt199.2 (([t195, bt197.1, bt199.1, t178, t180] : List Int))).bind fun bt204 => ((term_Store_Hash.f bt204.2 (⟨#[110, 111, 100, 101]⟩ : ByteArray) bt204.1).bind fun bt206 => (some (bt206.1, bt206.2)))))) = some (r1, r2) := H
           have A29 := Aside0.mk A290
           clear A290
           replace H := Option.bind_eq_some_iff.mp H
           obtain ⟨⟨t197, t198⟩, A300, H⟩ := H
           replace H : ((term_Store_List.f k2 t198 x13_2).bind fun bt199 => ((term_Store_List.f k2 bt199.2 (([t195, t197, bt199.1, t178, t180] : List Int))).bind fun bt204 => ((term_Store_Hash.f bt204.2 (⟨#[110, 111, 100, 101]⟩ : ByteArray) bt204.1).bind fun bt206 => (some (bt206.1, bt206.2))))) = some (r1, r2) := H
           have A30 := Aside0.mk A300
           clear A300
           replace H := Option.bind_eq_some_iff.mp H
           obtain ⟨⟨t199, t200⟩, A310, H⟩ := H
           replace H : ((term_Store_List.f k2 t200 (([t195, t197, t199, t178, t180] : List Int))).bind fun bt204 => ((term_Store_Hash.f bt204.2 (⟨#[110, 111, 100, 101]⟩ : ByteArray) bt204.1).bind fun bt206 => (some (bt206.1, bt206.2)))) = some (r1, r2) := H
           have A31 := Aside0.mk A310
           clear A310
           obtain ⟨y201, hy201⟩ : ∃ y_ : List Int, y_ = (([t195, t197, t199, t178, t180] : List Int)) := ⟨_, rfl⟩
           replace H : ((term_Store_List.f k2 t200 y201).bind fun bt204 => ((term_Store_Hash.f bt204.2 (⟨#[110, 111, 100, 101]⟩ : ByteArray) bt204.1).bind fun bt206 => (some (bt206.1, bt206.2)))) = some (r1, r2) := by first | (rw [hy201]; with_reducible exact H) | (have H2_ := (Option.bind_some _ _).symm.trans H; rw [hy201]; with_reducible exact H2_) | (have H2_ := (Option.bind_some _ _).symm.trans H; with_reducible exact H2_) | with_reducible exact H | (rw [hy201]; exact H) | exact H
           have Ny201 := Aside0.mk hy201
           clear hy201
           replace H := Option.bind_eq_some_iff.mp H
           obtain ⟨⟨t204, t205⟩, A320, H⟩ := H
           replace H : ((term_Store_Hash.f t205 (⟨#[110, 111, 100, 101]⟩ : ByteArray) t204).bind fun bt206 => (some (bt206.1, bt206.2))) = some (r1, r2) := H
           have A32 := Aside0.mk A320
           clear A320
           replace H := Option.bind_eq_some_iff.mp H
           obtain ⟨⟨t206, t207⟩, A330, H⟩ := H
           replace H : (some (t206, t207)) = some (r1, r2) := H
           have A33 := Aside0.mk A330
           clear A330
           simp only [Option.some.injEq, Prod.mk.injEq] at H
           obtain ⟨rfl, rfl⟩ := H
           try go_wp2
           have n0_ := Aside0.mk (Kd.R_drew HO_13.out)
           have n1_ := Aside0.mk (blk_drew BK147.out)
           have n2_ := Aside0.mk (IsS75.drew HI0.out)
           have n3_ := Aside0.mk (KeepSt.drew HK.out)
           have n4_ := Aside0.mk (below_drew1 HB.out)
           clear HO_13
           clear BK147
           clear HI0
           clear HK
           clear HB
           have HO_13 := n0_
           have BK147 := n1_
           have HI0 := n2_
           have HK := n3_
           have HB := n4_
           clear n0_ n1_ n2_ n3_ n4_
           refine start_ (n := 19) (S := fun w' => w'.cell? ⟨gb147, 0, none⟩ = some (.bool true) ∧ w'.cell? ⟨gb147, 1, none⟩ = some (.int .i64 ((rd_T33 l1 a2).f1)) ∧ w'.cell? ⟨gb147, 2, none⟩ = some (.int .i64 ((rd_T33 l1 a2).f2)) ∧ w'.cell? ⟨gb147, 3, none⟩ = some (.int .i64 ((rd_T33 l1 a2).f3)) ∧ w'.cell? ⟨gb147, 4, none⟩ = some (.int .i64 ((rd_T33 l1 a2).f4)) ∧ w'.cell? ⟨gb147, 5, none⟩ = some (.slice A146_5 ((rd_T33 l1 a2).f5).length c146_5)) (ds := []) #[false,false,false,false,false,false,false,false,false,false,false,false,false,false,false,false,false,false,false] (by kernel_rfl) rfl rfl ⟨(blk_cell BK147.out 0).trans rfl, (blk_cell BK147.out 1).trans rfl, (blk_cell BK147.out 2).trans rfl, (blk_cell BK147.out 3).trans rfl, (blk_cell BK147.out 4).trans rfl, (blk_cell BK147.out 5).trans rfl⟩ (fun hHeld => ?_); refine with_tabW digest_Hash.tab18 digest_Hash.bits18 (fun HT_ HW_ => ?_)
           generalize wr.drew = w34 at HO_13 BK147 HI0 HK HB hHeld ⊢
           refine pure_ (i := 0) (N := some 107) (v := ?_) (a' := ?_) #[true,false,false,false,false,false,false,false,false,false,false,false,false,false,false,false,false,false,false] rfl rfl (any_of HT_.out (by kernel_rfl)) (fun _ _ _ h => h) (Or.inl ⟨by rfl, ?_⟩) ?_ ?_
           rotate_left; (intro w'; go_simp; with_reducible rfl); rotate_left; (simp only [Act.put, List.setIfInBounds_toArray, List.set_cons_zero, List.set_cons_succ, i64_w, i32_w]; rfl)
           refine pure_ (i := 1) (N := some 108) (v := ?_) (a' := ?_) #[true,true,false,false,false,false,false,false,false,false,false,false,false,false,false,false,false,false,false] rfl rfl (any_of HT_.out (by kernel_rfl)) (fun _ _ _ h => h) (Or.inl ⟨by rfl, ?_⟩) ?_ ?_
           rotate_left; (intro w'; go_simp; with_reducible rfl); rotate_left; (simp only [Act.put, List.setIfInBounds_toArray, List.set_cons_zero, List.set_cons_succ, i64_w, i32_w]; rfl)
           refine pure_ (i := 2) (N := some 109) (v := ?_) (a' := ?_) #[true,true,true,false,false,false,false,false,false,false,false,false,false,false,false,false,false,false,false] rfl rfl (any_of HT_.out (by kernel_rfl)) (fun _ _ _ h => h) (Or.inl ⟨by rfl, ?_⟩) ?_ ?_
           rotate_left; (intro w'; go_simp; with_reducible rfl); rotate_left; (simp only [Act.put, List.setIfInBounds_toArray, List.set_cons_zero, List.set_cons_succ, i64_w, i32_w]; rfl)
           refine pure_ (i := 3) (N := some 110) (v := ?_) (a' := ?_) #[true,true,true,true,false,false,false,false,false,false,false,false,false,false,false,false,false,false,false] rfl rfl (any_of HT_.out (by kernel_rfl)) (fun _ _ _ h => h) (Or.inl ⟨by rfl, ?_⟩) ?_ ?_
           rotate_left; (intro w'; go_simp; with_reducible rfl); rotate_left; (simp only [Act.put, List.setIfInBounds_toArray, List.set_cons_zero, List.set_cons_succ, i64_w, i32_w]; rfl)
           refine pure_ (i := 6) (N := some 113) (v := ?_) (a' := ?_) #[true,true,true,true,false,false,true,false,false,false,false,false,false,false,false,false,false,false,false] rfl rfl (any_of HT_.out (by kernel_rfl)) (fun _ _ _ h => h) (Or.inl ⟨by rfl, ?_⟩) ?_ ?_
           rotate_left; (intro w'; go_simp; with_reducible rfl); rotate_left; (simp only [Act.put, List.setIfInBounds_toArray, List.set_cons_zero, List.set_cons_succ, i64_w, i32_w]; rfl)
           refine pure_ (i := 7) (N := some 114) (v := ?_) (a' := ?_) #[true,true,true,true,false,false,true,true,false,false,false,false,false,false,false,false,false,false,false] rfl rfl (any_of HT_.out (by kernel_rfl)) (fun _ _ _ h => h) (Or.inl ⟨by rfl, ?_⟩) ?_ ?_
           rotate_left; (intro w'; go_simp; with_reducible rfl); rotate_left; (simp only [Act.put, List.setIfInBounds_toArray, List.set_cons_zero, List.set_cons_succ, i64_w, i32_w]; rfl)
           refine pure_ (i := 10) (N := some 117) (v := ?_) (a' := ?_) #[true,true,true,true,false,false,true,true,false,false,true,false,false,false,false,false,false,false,false] rfl rfl (any_of HT_.out (by kernel_rfl)) (fun _ _ _ h => h) (Or.inl ⟨by rfl, ?_⟩) ?_ ?_
           rotate_left; (intro w'; go_simp; with_reducible rfl); rotate_left; (simp only [Act.put, List.setIfInBounds_toArray, List.set_cons_zero, List.set_cons_succ, i64_w, i32_w]; rfl)
           refine pure_ (i := 11) (N := some 118) (v := ?_) (a' := ?_) #[true,true,true,true,false,false,true,true,false,false,true,true,false,false,false,false,false,false,false] rfl rfl (any_of HT_.out (by kernel_rfl)) (fun _ _ _ h => h) (Or.inl ⟨by rfl, ?_⟩) ?_ ?_
           rotate_left; (intro w'; go_simp; with_reducible rfl); rotate_left; (simp only [Act.put, List.setIfInBounds_toArray, List.set_cons_zero, List.set_cons_succ, i64_w, i32_w]; rfl)
           refine pure_ (i := 13) (N := some 120) (v := ?_) (a' := ?_) #[true,true,true,true,false,false,true,true,false,false,true,true,false,true,false,false,false,false,false] rfl rfl (any_of HT_.out (by kernel_rfl)) (fun _ _ _ h => h) (Or.inl ⟨by rfl, ?_⟩) ?_ ?_
           rotate_left; (intro w'; go_simp; with_reducible rfl); rotate_left; (simp only [Act.put, List.setIfInBounds_toArray, List.set_cons_zero, List.set_cons_succ, i64_w, i32_w]; rfl)
           refine pure_ (i := 14) (N := some 121) (v := ?_) (a' := ?_) #[true,true,true,true,false,false,true,true,false,false,true,true,false,true,true,false,false,false,false] rfl rfl (any_of HT_.out (by kernel_rfl)) (fun _ _ _ h => h) (Or.inl ⟨by rfl, ?_⟩) ?_ ?_
           rotate_left; (intro w'; go_simp; with_reducible rfl); rotate_left; (simp only [Act.put, List.setIfInBounds_toArray, List.set_cons_zero, List.set_cons_succ, i64_w, i32_w]; rfl)
           refine take_ (i := 4) (N := some 111) (v := ?_) (a' := ?_) #[true,true,true,true,true,false,true,true,false,false,true,true,false,true,true,false,false,false,false] rfl rfl (take_ofW HT_.out HW_.out (by kernel_rfl)) (fun _ _ _ h => h) (Or.inl ⟨by rfl, ?_⟩) hHeld ?_ ?_
           rotate_left
           ·
            rintro w' ⟨s0, s1, s2, s3, s4, s5⟩
            go_simp
            with_reducible rfl
           rotate_left
           ·
            simp only [Act.put, List.setIfInBounds_toArray, List.set_cons_zero, List.set_cons_succ, i64_w, i32_w]
            rfl
           refine take_ (i := 8) (N := some 115) (v := ?_) (a' := ?_) #[true,true,true,true,true,false,true,true,true,false,true,true,false,true,true,false,false,false,false] rfl rfl (take_ofW HT_.out HW_.out (by kernel_rfl)) (fun _ _ _ h => h) (Or.inl ⟨by rfl, ?_⟩) hHeld ?_ ?_
           rotate_left
           ·
            rintro w' ⟨s0, s1, s2, s3, s4, s5⟩
            go_simp
            with_reducible rfl
           rotate_left
           ·
            simp only [Act.put, List.setIfInBounds_toArray, List.set_cons_zero, List.set_cons_succ, i64_w, i32_w]
            rfl
           refine one_ (i := 5) (N := some 112) #[true,true,true,true,true,true,true,true,true,false,true,true,false,true,true,false,false,false,false] rfl rfl (one_of HT_.out (by kernel_rfl)) (by decide) (fun K hK => ?_)
           refine goes_ Tryd.func41 (by kernel_rfl) rfl #[.pointer (some ⟨g, 0, none⟩), .int .i64 ((rd_T33 l1 a2).f1)] (by rfl) rfl rfl (by (try simp only [List.map_toArray, List.map_cons, List.map_nil]); first | done | rfl | (simp only [List.length_drop, List.length_take]; rfl)) ?_
           with_reducible refine (digest_some.calls g x1000_2 ((rd_T33 l1 a2).f1) t195 t196 w0 _ ?side1 ?side2 A29.out).mono ?_
           (case side1 => repeat (first | (with_reducible first | exact HI0.out | apply IsS75.alloc | apply IsS75.drewN | apply IsS75.drew | apply IsS75.set_0 | (focus (refine IsS75.far ?_ ?_ _; rotate_left; (focus ((repeat (first | (with_reducible exact Nsty.of BK147.out rfl) | apply Nsty.set | apply Nsty.drewN | apply Nsty.drew | apply Nsty.alloc)); done))))) | exact HI0.out))
           (case side2 => repeat (first | (with_reducible first | exact HB.out | apply below_alloc | apply pw_below_drewN | apply below_drew1 | refine below_set ?_ (IsS75.ge HI0.out) | refine below_set ?_ GE147.out) | exact HB.out))
           rintro e w35 ⟨rfl, hi, hb, hk⟩
           refine ⟨_, rfl, ?_⟩
           have n0_ := Aside0.mk (Kd.R_mono (Kd.R_keepSt (IsS75.apart (show IsS75 w0 _ g x1000_2 from by repeat (first | (with_reducible first | exact HI0.out | apply IsS75.alloc | apply IsS75.drewN | apply IsS75.drew | apply IsS75.set_0 | (focus (refine IsS75.far ?_ ?_ _; rotate_left; (focus ((repeat (first | (with_reducible exact Nsty.of BK147.out rfl) | apply Nsty.set | apply Nsty.drewN | apply Nsty.drew | apply Nsty.alloc)); done))))) | exact HI0.out)) (by (with_reducible repeat (first | apply Kd.R_alloc | apply Kd.R_drewN | apply Kd.R_drew)); exact HO_13.out) (by decide)) hk (fun _ h => h.2)) (fun _ h => h.1))
           have n1_ := Aside0.mk (KeepSt.blk hk (g' := gb147) (o := .cells #[.bool true, .int .i64 ((rd_T33 l1 a2).f1), .int .i64 ((rd_T33 l1 a2).f2), .int .i64 ((rd_T33 l1 a2).f3), .int .i64 ((rd_T33 l1 a2).f4), .slice A146_5 ((rd_T33 l1 a2).f5).length c146_5] 33 (0, 0)) (by (with_reducible repeat (first | refine blk_drewN ?_ _ | refine blk_drew ?_ | refine blk_alloc ?_ _)); exact BK147.out) NB147_0.out rfl)
           have n2_ := Aside0.mk (KeepSt.trans (by repeat (first | (with_reducible first | exact HK.out | apply KeepSt.drewN | apply KeepSt.drew | apply KeepSt.alloc | refine KeepSt.far ?_ GW147.out _) | exact HK.out)) hk)
           have n3_ := Aside0.mk (hb)
           have n4_ := Aside0.mk (hi)
           clear HO_13
           clear BK147
           clear HK
           clear HB
           clear HI0
           have HO_13 := n0_
           have BK147 := n1_
           have HK := n2_
           have HB := n3_
           have HI0 := n4_
           clear n0_ n1_ n2_ n3_ n4_
           (try clear hb)
           (try clear hb2)
           (try clear hk)
           (try clear hi)
           refine hK.out _ _ ⟨(blk_cell BK147.out 0).trans rfl, (blk_cell BK147.out 1).trans rfl, (blk_cell BK147.out 2).trans rfl, (blk_cell BK147.out 3).trans rfl, (blk_cell BK147.out 4).trans rfl, (blk_cell BK147.out 5).trans rfl⟩ (fun hHeld => ?_)
           clear hK K
           refine norm_ (a' := ?_) ?_ ?_
           rotate_left
           ·
            show Act.put _ (some 112) _ = _
            simp only [Act.put, List.setIfInBounds_toArray, List.set_cons_zero, List.set_cons_succ, i64_w, i32_w]
            rfl
           refine one_ (i := 9) (N := some 116) #[true,true,true,true,true,true,true,true,true,true,true,true,false,true,true,false,false,false,false] rfl rfl (one_of HT_.out (by kernel_rfl)) (by decide) (fun K hK => ?_)
           refine goes_ Tryd.func41 (by kernel_rfl) rfl #[.pointer (some ⟨g, 0, none⟩), .int .i64 ((rd_T33 l1 a2).f4)] (by rfl) rfl rfl (by (try simp only [List.map_toArray, List.map_cons, List.map_nil]); first | done | rfl | (simp only [List.length_drop, List.length_take]; rfl)) ?_
           with_reducible refine (digest_some.calls g t196 ((rd_T33 l1 a2).f4) t197 t198 w0 _ ?side1 ?side2 A30.out).mono ?_
           (case side1 => repeat (first | (with_reducible first | exact HI0.out | apply IsS75.alloc | apply IsS75.drewN | apply IsS75.drew | apply IsS75.set_0 | (focus (refine IsS75.far ?_ ?_ _; rotate_left; (focus ((repeat (first | (with_reducible exact Nsty.of BK147.out rfl) | apply Nsty.set | apply Nsty.drewN | apply Nsty.drew | apply Nsty.alloc)); done))))) | exact HI0.out))
           (case side2 => repeat (first | (with_reducible first | exact HB.out | apply below_alloc | apply pw_below_drewN | apply below_drew1 | refine below_set ?_ (IsS75.ge HI0.out) | refine below_set ?_ GE147.out) | exact HB.out))
           rintro e w36 ⟨rfl, hi, hb, hk⟩
           refine ⟨_, rfl, ?_⟩
           have n0_ := Aside0.mk (Kd.R_mono (Kd.R_keepSt (IsS75.apart (show IsS75 w0 _ g t196 from by repeat (first | (with_reducible first | exact HI0.out | apply IsS75.alloc | apply IsS75.drewN | apply IsS75.drew | apply IsS75.set_0 | (focus (refine IsS75.far ?_ ?_ _; rotate_left; (focus ((repeat (first | (with_reducible exact Nsty.of BK147.out rfl) | apply Nsty.set | apply Nsty.drewN | apply Nsty.drew | apply Nsty.alloc)); done))))) | exact HI0.out)) (by (with_reducible repeat (first | apply Kd.R_alloc | apply Kd.R_drewN | apply Kd.R_drew)); exact HO_13.out) (by decide)) hk (fun _ h => h.2)) (fun _ h => h.1))
           have n1_ := Aside0.mk (KeepSt.blk hk (g' := gb147) (o := .cells #[.bool true, .int .i64 ((rd_T33 l1 a2).f1), .int .i64 ((rd_T33 l1 a2).f2), .int .i64 ((rd_T33 l1 a2).f3), .int .i64 ((rd_T33 l1 a2).f4), .slice A146_5 ((rd_T33 l1 a2).f5).length c146_5] 33 (0, 0)) (by (with_reducible repeat (first | refine blk_drewN ?_ _ | refine blk_drew ?_ | refine blk_alloc ?_ _)); exact BK147.out) NB147_0.out rfl)
           have n2_ := Aside0.mk (KeepSt.trans (by repeat (first | (with_reducible first | exact HK.out | apply KeepSt.drewN | apply KeepSt.drew | apply KeepSt.alloc | refine KeepSt.far ?_ GW147.out _) | exact HK.out)) hk)
           have n3_ := Aside0.mk (hb)
           have n4_ := Aside0.mk (hi)
           clear HO_13
           clear BK147
           clear HK
           clear HB
           clear HI0
           have HO_13 := n0_
           have BK147 := n1_
           have HK := n2_
           have HB := n3_
           have HI0 := n4_
           clear n0_ n1_ n2_ n3_ n4_
           (try clear hb)
           (try clear hb2)
           (try clear hk)
           (try clear hi)
           obtain ⟨Ao37, co37, eo37⟩ := Kd.R_slice HO_13.out
           (first | subst eo37 | (injection eo37 with f1_ f2_ f3_; have f4_ := f1_.symm; have f5_ := f3_.symm; clear f1_ f2_ f3_; subst f4_; subst f5_))
           refine hK.out _ _ ⟨(blk_cell BK147.out 0).trans rfl, (blk_cell BK147.out 1).trans rfl, (blk_cell BK147.out 2).trans rfl, (blk_cell BK147.out 3).trans rfl, (blk_cell BK147.out 4).trans rfl, (blk_cell BK147.out 5).trans rfl⟩ (fun hHeld => ?_)
           clear hK K
           refine norm_ (a' := ?_) ?_ ?_
           rotate_left
           ·
            show Act.put _ (some 116) _ = _
            simp only [Act.put, List.setIfInBounds_toArray, List.set_cons_zero, List.set_cons_succ, i64_w, i32_w]
            rfl
           refine one_ (i := 12) (N := some 119) #[true,true,true,true,true,true,true,true,true,true,true,true,true,true,true,false,false,false,false] rfl rfl (one_of HT_.out (by kernel_rfl)) (by decide) (fun K hK => ?_)
           refine goes_ Tryd.func34 (by kernel_rfl) rfl #[.pointer (some ⟨g, 0, none⟩), .slice Ao37 x13_2.length co37] (by rfl) rfl rfl (by (try simp only [List.map_toArray, List.map_cons, List.map_nil]); first | done | rfl | (simp only [List.length_drop, List.length_take]; rfl)) ?_
           with_reducible refine (term_Store_List.calls k2 g t198 _ _ x13_2 t199 t200 w0 _ ?side1 ?side2 ?side3 ?side4 ?side5 A31.out).mono ?_
           (case side1 => repeat (first | (with_reducible first | exact HI0.out | apply IsS75.alloc | apply IsS75.drewN | apply IsS75.drew | apply IsS75.set_0 | (focus (refine IsS75.far ?_ ?_ _; rotate_left; (focus ((repeat (first | (with_reducible exact Nsty.of BK147.out rfl) | apply Nsty.set | apply Nsty.drewN | apply Nsty.drew | apply Nsty.alloc)); done))))) | exact HI0.out))
           (case side2 => repeat (first | (with_reducible first | exact HB.out | apply below_alloc | apply pw_below_drewN | apply below_drew1 | refine below_set ?_ (IsS75.ge HI0.out) | refine below_set ?_ GE147.out) | exact HB.out))
           (case side3 => repeat (first | exact (Kd.R_reads' HO_13.out).2.2 | (with_reducible refine Kd.C_alloc ?_ _) | (with_reducible refine Kd.C_drewN ?_ _) | (with_reducible refine Kd.C_drew ?_)))
           (case side4 => exact (Kd.R_reads' HO_13.out).2.1)
           (case side5 => exact Kd.far_R (by (with_reducible repeat (first | apply Kd.R_alloc | apply Kd.R_drewN | apply Kd.R_drew)); exact HO_13.out) (by decide))
           rintro e w38 ⟨rfl, hi, hb, hk⟩
           refine ⟨_, rfl, ?_⟩
           have n0_ := Aside0.mk (Kd.R_mono (Kd.R_keepSt (IsS75.apart (show IsS75 w0 _ g t198 from by repeat (first | (with_reducible first | exact HI0.out | apply IsS75.alloc | apply IsS75.drewN | apply IsS75.drew | apply IsS75.set_0 | (focus (refine IsS75.far ?_ ?_ _; rotate_left; (focus ((repeat (first | (with_reducible exact Nsty.of BK147.out rfl) | apply Nsty.set | apply Nsty.drewN | apply Nsty.drew | apply Nsty.alloc)); done))))) | exact HI0.out)) (by (with_reducible repeat (first | apply Kd.R_alloc | apply Kd.R_drewN | apply Kd.R_drew)); exact HO_13.out) (by decide)) hk (fun _ h => h.2)) (fun _ h => h.1))
           have n1_ := Aside0.mk (KeepSt.blk hk (g' := gb147) (o := .cells #[.bool true, .int .i64 ((rd_T33 l1 a2).f1), .int .i64 ((rd_T33 l1 a2).f2), .int .i64 ((rd_T33 l1 a2).f3), .int .i64 ((rd_T33 l1 a2).f4), .slice A146_5 ((rd_T33 l1 a2).f5).length c146_5] 33 (0, 0)) (by (with_reducible repeat (first | refine blk_drewN ?_ _ | refine blk_drew ?_ | refine blk_alloc ?_ _)); exact BK147.out) NB147_0.out rfl)
           have n2_ := Aside0.mk (KeepSt.trans (by repeat (first | (with_reducible first | exact HK.out | apply KeepSt.drewN | apply KeepSt.drew | apply KeepSt.alloc | refine KeepSt.far ?_ GW147.out _) | exact HK.out)) hk)
           have n3_ := Aside0.mk (hb)
           have n4_ := Aside0.mk (hi)
           clear HO_13
           clear BK147
           clear HK
           clear HB
           clear HI0
           have HO_13 := n0_
           have BK147 := n1_
           have HK := n2_
           have HB := n3_
           have HI0 := n4_
           clear n0_ n1_ n2_ n3_ n4_
           (try clear hb)
           (try clear hb2)
           (try clear hk)
           (try clear hi)
           refine hK.out _ _ ⟨(blk_cell BK147.out 0).trans rfl, (blk_cell BK147.out 1).trans rfl, (blk_cell BK147.out 2).trans rfl, (blk_cell BK147.out 3).trans rfl, (blk_cell BK147.out 4).trans rfl, (blk_cell BK147.out 5).trans rfl⟩ (fun hHeld => ?_)
           clear hK K
           refine norm_ (a' := ?_) ?_ ?_
           rotate_left
           ·
            show Act.put _ (some 119) _ = _
            simp only [Act.put, List.setIfInBounds_toArray, List.set_cons_zero, List.set_cons_succ, i64_w, i32_w]
            rfl
           refine one_ (i := 15) (N := some 122) #[true,true,true,true,true,true,true,true,true,true,true,true,true,true,true,true,false,false,false] rfl rfl (one_of HT_.out (by kernel_rfl)) (by decide) (fun K hK => ?_)
           refine Kd.R_lit_step (Kd.int .i64) _ 3 ?hg (N := 122) ?hd (xs := ([t195, t197, t199, t178, t180] : List Int)) (inner := [.int .i64 t195, .int .i64 t197, .int .i64 t199, .int .i64 t178, .int .i64 t180]) (ok := fun _ => True) (okp := fun _ => True) ?hr ?hp (fun _ hk => hk) trivial (Below.refl _ _) (Nat.le_refl _) (by simp) ?_; (case hd => rfl); (case hg => rfl); (case hr => first | (go_simp; done) | (go_simp; rfl)); (case hp => exact (Reps.one (show Kd.M (Kd.int .i64) _ _ _ t195 [.int .i64 t195] from rfl) (Reps.one (show Kd.M (Kd.int .i64) _ _ _ t197 [.int .i64 t197] from rfl) (Reps.one (show Kd.M (Kd.int .i64) _ _ _ t199 [.int .i64 t199] from rfl) (Reps.one (show Kd.M (Kd.int .i64) _ _ _ t178 [.int .i64 t178] from rfl) (Reps.one (show Kd.M (Kd.int .i64) _ _ _ t180 [.int .i64 t180] from rfl) (Reps.none _ _)))))))
           intro v202 w39 ho40 hb hg_ hnew_
           clear hg_ hnew_
           (first | rw [← Ny201.out] at ho40 | (simp only [Int.reduceToNat] at ho40; rw [← Ny201.out] at ho40))
           have n0_ := Aside0.mk (Kd.R_elder' (by (with_reducible repeat (first | apply Kd.R_alloc | apply Kd.R_drewN | apply Kd.R_drew)); exact HO_13.out) (Kd.R_base ho40) hb)
           have n1_ := Aside0.mk (Kd.R_lower (Kd.R_new' ho40 (Kd.R_lt (by (with_reducible repeat (first | apply Kd.R_alloc | apply Kd.R_drewN | apply Kd.R_drew)); exact HO_13.out))) (KeepSt.size (w := w) (w0 := w0) (by repeat (first | (with_reducible first | exact HK.out | apply KeepSt.drewN | apply KeepSt.drew | apply KeepSt.alloc | refine KeepSt.far ?_ GW147.out _) | exact HK.out))))
           have n2_ := Aside0.mk (blk_below (g := gb147) (o := .cells #[.bool true, .int .i64 ((rd_T33 l1 a2).f1), .int .i64 ((rd_T33 l1 a2).f2), .int .i64 ((rd_T33 l1 a2).f3), .int .i64 ((rd_T33 l1 a2).f4), .slice A146_5 ((rd_T33 l1 a2).f5).length c146_5] 33 (0, 0)) (by (with_reducible repeat (first | refine blk_drewN ?_ _ | refine blk_drew ?_ | refine blk_alloc ?_ _)); exact BK147.out) hb)
           have n3_ := Aside0.mk (IsS75.below (by repeat (first | (with_reducible first | exact HI0.out | apply IsS75.alloc | apply IsS75.drewN | apply IsS75.drew | apply IsS75.set_0 | (focus (refine IsS75.far ?_ ?_ _; rotate_left; (focus ((repeat (first | (with_reducible exact Nsty.of BK147.out rfl) | apply Nsty.set | apply Nsty.drewN | apply Nsty.drew | apply Nsty.alloc)); done))))) | exact HI0.out)) hb)
           have n4_ := Aside0.mk (KeepSt.trans (by repeat (first | (with_reducible first | exact HK.out | apply KeepSt.drewN | apply KeepSt.drew | apply KeepSt.alloc | refine KeepSt.far ?_ GW147.out _) | exact HK.out)) (KeepSt.of_below hb w0))
           have n5_ := Aside0.mk (below_step (by repeat (first | (with_reducible first | exact HB.out | apply below_alloc | apply pw_below_drewN | apply below_drew1 | refine below_set ?_ (IsS75.ge HI0.out) | refine below_set ?_ GE147.out) | exact HB.out)) hb)
           clear HO_13
           clear BK147
           clear HI0
           clear HK
           clear HB
           have HO_13 := n0_
           have HO203 := n1_
           have BK147 := n2_
           have HI0 := n3_
           have HK := n4_
           have HB := n5_
           clear n0_ n1_ n2_ n3_ n4_ n5_
           clear hb ho40
           obtain ⟨Ao41, co41, eo41⟩ := Kd.R_slice HO203.out
           (first | subst eo41 | (injection eo41 with f1_ f2_ f3_; have f4_ := f1_.symm; have f5_ := f3_.symm; clear f1_ f2_ f3_; subst f4_; subst f5_))
           refine hK.out _ _ ⟨(blk_cell BK147.out 0).trans rfl, (blk_cell BK147.out 1).trans rfl, (blk_cell BK147.out 2).trans rfl, (blk_cell BK147.out 3).trans rfl, (blk_cell BK147.out 4).trans rfl, (blk_cell BK147.out 5).trans rfl⟩ (fun hHeld => ?_)
           clear hK K
           refine norm_ (a' := ?_) ?_ ?_
           rotate_left
           ·
            show Act.put _ (some 122) _ = _
            simp only [Act.put, List.setIfInBounds_toArray, List.set_cons_zero, List.set_cons_succ, i64_w, i32_w]
            rfl
           refine one_ (i := 16) (N := some 123) #[true,true,true,true,true,true,true,true,true,true,true,true,true,true,true,true,true,false,false] rfl rfl (one_of HT_.out (by kernel_rfl)) (by decide) (fun K hK => ?_)
           refine goes_ Tryd.func34 (by kernel_rfl) rfl #[.pointer (some ⟨g, 0, none⟩), .slice Ao41 y201.length co41] (by rfl) rfl rfl (by (try simp only [List.map_toArray, List.map_cons, List.map_nil]); first | done | rfl | (simp only [List.length_drop, List.length_take]; rfl)) ?_
           with_reducible refine (term_Store_List.calls k2 g t200 _ _ y201 t204 t205 w0 _ ?side1 ?side2 ?side3 ?side4 ?side5 A32.out).mono ?_
           (case side1 => repeat (first | (with_reducible first | exact HI0.out | apply IsS75.alloc | apply IsS75.drewN | apply IsS75.drew | apply IsS75.set_0 | (focus (refine IsS75.far ?_ ?_ _; rotate_left; (focus ((repeat (first | (with_reducible exact Nsty.of BK147.out rfl) | apply Nsty.set | apply Nsty.drewN | apply Nsty.drew | apply Nsty.alloc)); done))))) | exact HI0.out))
           (case side2 => repeat (first | (with_reducible first | exact HB.out | apply below_alloc | apply pw_below_drewN | apply below_drew1 | refine below_set ?_ (IsS75.ge HI0.out) | refine below_set ?_ GE147.out) | exact HB.out))
           (case side3 => repeat (first | exact (Kd.R_reads' HO203.out).2.2 | (with_reducible refine Kd.C_alloc ?_ _) | (with_reducible refine Kd.C_drewN ?_ _) | (with_reducible refine Kd.C_drew ?_)))
           (case side4 => exact (Kd.R_reads' HO203.out).2.1)
           (case side5 => exact Kd.far_R (by (with_reducible repeat (first | apply Kd.R_alloc | apply Kd.R_drewN | apply Kd.R_drew)); exact HO203.out) (by decide))
           rintro e w42 ⟨rfl, hi, hb, hk⟩
           refine ⟨_, rfl, ?_⟩
           have n0_ := Aside0.mk (Kd.R_mono (Kd.R_keepSt (IsS75.apart (show IsS75 w0 _ g t200 from by repeat (first | (with_reducible first | exact HI0.out | apply IsS75.alloc | apply IsS75.drewN | apply IsS75.drew | apply IsS75.set_0 | (focus (refine IsS75.far ?_ ?_ _; rotate_left; (focus ((repeat (first | (with_reducible exact Nsty.of BK147.out rfl) | apply Nsty.set | apply Nsty.drewN | apply Nsty.drew | apply Nsty.alloc)); done))))) | exact HI0.out)) (by (with_reducible repeat (first | apply Kd.R_alloc | apply Kd.R_drewN | apply Kd.R_drew)); exact HO_13.out) (by decide)) hk (fun _ h => h.2)) (fun _ h => h.1))
           have n1_ := Aside0.mk (KeepSt.blk hk (g' := gb147) (o := .cells #[.bool true, .int .i64 ((rd_T33 l1 a2).f1), .int .i64 ((rd_T33 l1 a2).f2), .int .i64 ((rd_T33 l1 a2).f3), .int .i64 ((rd_T33 l1 a2).f4), .slice A146_5 ((rd_T33 l1 a2).f5).length c146_5] 33 (0, 0)) (by (with_reducible repeat (first | refine blk_drewN ?_ _ | refine blk_drew ?_ | refine blk_alloc ?_ _)); exact BK147.out) NB147_0.out rfl)
           have n2_ := Aside0.mk (Kd.R_mono (Kd.R_keepSt (IsS75.apart (show IsS75 w0 _ g t200 from by repeat (first | (with_reducible first | exact HI0.out | apply IsS75.alloc | apply IsS75.drewN | apply IsS75.drew | apply IsS75.set_0 | (focus (refine IsS75.far ?_ ?_ _; rotate_left; (focus ((repeat (first | (with_reducible exact Nsty.of BK147.out rfl) | apply Nsty.set | apply Nsty.drewN | apply Nsty.drew | apply Nsty.alloc)); done))))) | exact HI0.out)) (by (with_reducible repeat (first | apply Kd.R_alloc | apply Kd.R_drewN | apply Kd.R_drew)); exact HO203.out) (by decide)) hk (fun _ h => h.2)) (fun _ h => h.1))
           have n3_ := Aside0.mk (KeepSt.trans (by repeat (first | (with_reducible first | exact HK.out | apply KeepSt.drewN | apply KeepSt.drew | apply KeepSt.alloc | refine KeepSt.far ?_ GW147.out _) | exact HK.out)) hk)
           have n4_ := Aside0.mk (hb)
           have n5_ := Aside0.mk (hi)
           clear HO_13
           clear BK147
           clear HO203
           clear HK
           clear HB
           clear HI0
           have HO_13 := n0_
           have BK147 := n1_
           have HO203 := n2_
           have HK := n3_
           have HB := n4_
           have HI0 := n5_
           clear n0_ n1_ n2_ n3_ n4_ n5_
           (try clear hb)
           (try clear hb2)
           (try clear hk)
           (try clear hi)
           refine hK.out _ _ ⟨(blk_cell BK147.out 0).trans rfl, (blk_cell BK147.out 1).trans rfl, (blk_cell BK147.out 2).trans rfl, (blk_cell BK147.out 3).trans rfl, (blk_cell BK147.out 4).trans rfl, (blk_cell BK147.out 5).trans rfl⟩ (fun hHeld => ?_)
           clear hK K
           refine norm_ (a' := ?_) ?_ ?_
           rotate_left
           ·
            show Act.put _ (some 123) _ = _
            simp only [Act.put, List.setIfInBounds_toArray, List.set_cons_zero, List.set_cons_succ, i64_w, i32_w]
            rfl
           refine one_ (i := 17) (N := some 124) #[true,true,true,true,true,true,true,true,true,true,true,true,true,true,true,true,true,true,false] rfl rfl (one_of HT_.out (by kernel_rfl)) (by decide) (fun K hK => ?_)
           refine goes_ Tryd.func33 (by kernel_rfl) rfl #[.pointer (some ⟨g, 0, none⟩), .string (⟨#[110, 111, 100, 101]⟩ : ByteArray), .int .i64 t204] (by rfl) rfl rfl (by (try simp only [List.map_toArray, List.map_cons, List.map_nil]); first | done | rfl | (simp only [List.length_drop, List.length_take]; rfl)) ?_
           with_reducible refine (term_Store_Hash.calls g t205 (⟨#[110, 111, 100, 101]⟩ : ByteArray) t204 t206 t207 w0 _ ?side1 ?side2 A33.out).mono ?_
           (case side1 => repeat (first | (with_reducible first | exact HI0.out | apply IsS75.alloc | apply IsS75.drewN | apply IsS75.drew | apply IsS75.set_0 | (focus (refine IsS75.far ?_ ?_ _; rotate_left; (focus ((repeat (first | (with_reducible exact Nsty.of BK147.out rfl) | apply Nsty.set | apply Nsty.drewN | apply Nsty.drew | apply Nsty.alloc)); done))))) | exact HI0.out))
           (case side2 => repeat (first | (with_reducible first | exact HB.out | apply below_alloc | apply pw_below_drewN | apply below_drew1 | refine below_set ?_ (IsS75.ge HI0.out) | refine below_set ?_ GE147.out) | exact HB.out))
           rintro e w43 ⟨rfl, hi, hb, hk⟩
           refine ⟨_, rfl, ?_⟩
           have n0_ := Aside0.mk (Kd.R_mono (Kd.R_keepSt (IsS75.apart (show IsS75 w0 _ g t205 from by repeat (first | (with_reducible first | exact HI0.out | apply IsS75.alloc | apply IsS75.drewN | apply IsS75.drew | apply IsS75.set_0 | (focus (refine IsS75.far ?_ ?_ _; rotate_left; (focus ((repeat (first | (with_reducible exact Nsty.of BK147.out rfl) | apply Nsty.set | apply Nsty.drewN | apply Nsty.drew | apply Nsty.alloc)); done))))) | exact HI0.out)) (by (with_reducible repeat (first | apply Kd.R_alloc | apply Kd.R_drewN | apply Kd.R_drew)); exact HO_13.out) (by decide)) hk (fun _ h => h.2)) (fun _ h => h.1))
           have n1_ := Aside0.mk (KeepSt.blk hk (g' := gb147) (o := .cells #[.bool true, .int .i64 ((rd_T33 l1 a2).f1), .int .i64 ((rd_T33 l1 a2).f2), .int .i64 ((rd_T33 l1 a2).f3), .int .i64 ((rd_T33 l1 a2).f4), .slice A146_5 ((rd_T33 l1 a2).f5).length c146_5] 33 (0, 0)) (by (with_reducible repeat (first | refine blk_drewN ?_ _ | refine blk_drew ?_ | refine blk_alloc ?_ _)); exact BK147.out) NB147_0.out rfl)
           have n2_ := Aside0.mk (Kd.R_mono (Kd.R_keepSt (IsS75.apart (show IsS75 w0 _ g t205 from by repeat (first | (with_reducible first | exact HI0.out | apply IsS75.alloc | apply IsS75.drewN | apply IsS75.drew | apply IsS75.set_0 | (focus (refine IsS75.far ?_ ?_ _; rotate_left; (focus ((repeat (first | (with_reducible exact Nsty.of BK147.out rfl) | apply Nsty.set | apply Nsty.drewN | apply Nsty.drew | apply Nsty.alloc)); done))))) | exact HI0.out)) (by (with_reducible repeat (first | apply Kd.R_alloc | apply Kd.R_drewN | apply Kd.R_drew)); exact HO203.out) (by decide)) hk (fun _ h => h.2)) (fun _ h => h.1))
           have n3_ := Aside0.mk (KeepSt.trans (by repeat (first | (with_reducible first | exact HK.out | apply KeepSt.drewN | apply KeepSt.drew | apply KeepSt.alloc | refine KeepSt.far ?_ GW147.out _) | exact HK.out)) hk)
           have n4_ := Aside0.mk (hb)
           have n5_ := Aside0.mk (hi)
           clear HO_13
           clear BK147
           clear HO203
           clear HK
           clear HB
           clear HI0
           have HO_13 := n0_
           have BK147 := n1_
           have HO203 := n2_
           have HK := n3_
           have HB := n4_
           have HI0 := n5_
           clear n0_ n1_ n2_ n3_ n4_ n5_
           (try clear hb)
           (try clear hb2)
           (try clear hk)
           (try clear hi)
           refine hK.out _ _ ⟨(blk_cell BK147.out 0).trans rfl, (blk_cell BK147.out 1).trans rfl, (blk_cell BK147.out 2).trans rfl, (blk_cell BK147.out 3).trans rfl, (blk_cell BK147.out 4).trans rfl, (blk_cell BK147.out 5).trans rfl⟩ (fun hHeld => ?_)
           clear hK K
           refine norm_ (a' := ?_) ?_ ?_
           rotate_left
           ·
            show Act.put _ (some 124) _ = _
            simp only [Act.put, List.setIfInBounds_toArray, List.set_cons_zero, List.set_cons_succ, i64_w, i32_w]
            rfl
           refine pure_ (i := 18) (N := some 6) (v := ?_) (a' := ?_) #[true,true,true,true,true,true,true,true,true,true,true,true,true,true,true,true,true,true,true] rfl rfl (any_of HT_.out (by kernel_rfl)) (fun _ _ _ h => h) (Or.inl ⟨by rfl, ?_⟩) ?_ ?_
           rotate_left; (intro w'; go_simp; with_reducible rfl); rotate_left; (simp only [Act.put, List.setIfInBounds_toArray, List.set_cons_zero, List.set_cons_succ, i64_w, i32_w]; rfl)
           refine done_ (done_of HT_.out (by kernel_rfl)) ?_
           try go_wp2
           go_ret
           exact ⟨by first | rfl | (simp [errW_none, errW_some] <;> rfl) | (simp [*, errW_none, errW_some] <;> rfl), by repeat (first | (with_reducible first | exact HI0.out | apply IsS75.alloc | apply IsS75.drewN | apply IsS75.drew | apply IsS75.set_0 | (focus (refine IsS75.far ?_ ?_ _; rotate_left; (focus ((repeat (first | (with_reducible exact Nsty.of BK147.out rfl) | apply Nsty.set | apply Nsty.drewN | apply Nsty.drew | apply Nsty.alloc)); done))))) | exact HI0.out), by repeat (first | (with_reducible first | exact HB.out | apply below_alloc | apply pw_below_drewN | apply below_drew1 | refine below_set ?_ (IsS75.ge HI0.out) | refine below_set ?_ GE147.out) | exact HB.out), by repeat (first | (with_reducible first | exact HK.out | apply KeepSt.drewN | apply KeepSt.drew | apply KeepSt.alloc | refine KeepSt.far ?_ GW147.out _) | exact HK.out)⟩
       ·
        replace c15 := Bool.eq_false_iff.mpr c15
        subst c15
        have H1 : ((term_Store_List.f kj3 t181 (([t178, t180] : List Int))).bind fun bt185 => ((term_Store_Hash.f bt185.2 (⟨#[98, 108, 97, 110, 107]⟩ : ByteArray) bt185.1).bind fun bt187 => (some (bt187.1, bt187.2)))) = some (r1, r2) := by rw [if_neg (show ¬ (false = true) by decide)] at H; exact H
        clear H
        have H := H1
        clear H1
        obtain ⟨y182, hy182⟩ : ∃ y_ : List Int, y_ = (([t178, t180] : List Int)) := ⟨_, rfl⟩
        replace H : ((term_Store_List.f kj3 t181 y182).bind fun bt185 => ((term_Store_Hash.f bt185.2 (⟨#[98, 108, 97, 110, 107]⟩ : ByteArray) bt185.1).bind fun bt187 => (some (bt187.1, bt187.2)))) = some (r1, r2) := by first | (rw [hy182]; with_reducible exact H) | (have H2_ := (Option.bind_some _ _).symm.trans H; rw [hy182]; with_reducible exact H2_) | (have H2_ := (Option.bind_some _ _).symm.trans H; with_reducible exact H2_) | with_reducible exact H | (rw [hy182]; exact H) | exact H
        have Ny182 := Aside0.mk hy182
        clear hy182
        replace H := Option.bind_eq_some_iff.mp H
        obtain ⟨⟨t185, t186⟩, A440, H⟩ := H
        replace H : ((term_Store_Hash.f t186 (⟨#[98, 108, 97, 110, 107]⟩ : ByteArray) t185).bind fun bt187 => (some (bt187.1, bt187.2))) = some (r1, r2) := H
        have A44 := Aside0.mk A440
        clear A440
        replace H := Option.bind_eq_some_iff.mp H
        obtain ⟨⟨t187, t188⟩, A450, H⟩ := H
        replace H : (some (t187, t188)) = some (r1, r2) := H
        have A45 := Aside0.mk A450
        clear A450
        simp only [Option.some.injEq, Prod.mk.injEq] at H
        obtain ⟨rfl, rfl⟩ := H
        have p146 : 0 ≤ (a2 : Int) := of_decide_eq_true (by first | (with_reducible assumption) | assumption)
        have q146 : a2 < (l1.length : Int) := of_decide_eq_true (by first | (with_reducible assumption) | assumption)
        obtain ⟨ad146, A146_5, c146_5, e146, hx146_0, hx146_1, hx146_2, hx146_3, hx146_4, hx146_5, hl146_5, hi146_5⟩ := at_T33 (Kd.C_footSt_now HR1.out HK.out) a2 p146 q146
        have HF146_5 := Aside0.mk (foot_inner33 HR1.out HK.out p146 q146 e146 hx146_5)
        (try rw [← Nbq14.out] at hx146_0)
        cases e146
        have HR146_5 := Aside0.mk hi146_5
        have HC146_5 := Aside0.mk hl146_5
        clear hi146_5 hl146_5
        replace p146 := eq_true p146
        replace q146 := eq_true q146
        go_wp2_with (first | ((with_reducible refine gate_dst (N := 7) rfl ?_); (try (refine gate_guard (by rfl) ?_; dsimp only)); refine box_event ?hg (N := 7) ?hd (cs := #[.bool false, .int .i64 0, .int .i64 0, .int .i64 0, .int .i64 0, .slice none 0 0]) (t := 33) ?hr ?_; (case hd => rfl); (case hg => rfl); (case hr => first | (go_simp; done) | (go_simp; rfl)); intro gb147 hg w46 hbox hb; have n0_ := Aside0.mk (IsS75.below (by repeat (first | (with_reducible first |exact HI0.out |apply IsS75.alloc |apply IsS75.drewN |apply IsS75.drew |apply IsS75.set_0) |exact HI0.out)) hb); have n1_ := Aside0.mk (Kd.C_below (by repeat (first | (with_reducible exact HR146_5.out) | (with_reducible refine Kd.C_alloc ?_ _) | (with_reducible refine Kd.C_drewN ?_ _) | (with_reducible refine Kd.C_drew ?_) |exact HR146_5.out)) hb); have n2_ := Aside0.mk (KeepSt.trans (by repeat (first | (with_reducible first |exact HK.out |apply KeepSt.drewN |apply KeepSt.drew |apply KeepSt.alloc) |exact HK.out)) (KeepSt.of_below hb w0)); have n3_ := Aside0.mk (below_step (by repeat (first | (with_reducible first |exact HB.out |apply below_alloc |apply pw_below_drewN |apply below_drew1 |refine below_set ?_ (IsS75.ge HI0.out)) |exact HB.out)) hb); have n4_ := Aside0.mk (hbox); have n5_ := Aside0.mk ((by rw [hg]; exact (KeepSt.size (w := w) (w0 := w0) (by repeat (first | (with_reducible first |exact HK.out |apply KeepSt.drewN |apply KeepSt.drew |apply KeepSt.alloc) |exact HK.out))) : w.heap.size ≤ gb147)); have n6_ := Aside0.mk ((Nat.le_trans HW0.out (by rw [hg]; exact (KeepSt.size (w := w) (w0 := w0) (by repeat (first | (with_reducible first |exact HK.out |apply KeepSt.drewN |apply KeepSt.drew |apply KeepSt.alloc) |exact HK.out))) : w.heap.size ≤ gb147) : w0.heap.size ≤ gb147)); have n7_ := Aside0.mk ((by rw [hg]; exact Nat.ne_of_lt (IsS75.lt (show IsS75 w0 _ g s0_0 from by repeat (first | (with_reducible first |exact HI0.out |apply IsS75.alloc |apply IsS75.drewN |apply IsS75.drew |apply IsS75.set_0) |exact HI0.out))) : g ≠ gb147)); have n8_ := Aside0.mk ((by rw [hg]; exact Nat.ne_of_gt (IsS75.lt (show IsS75 w0 _ g s0_0 from by repeat (first | (with_reducible first |exact HI0.out |apply IsS75.alloc |apply IsS75.drewN |apply IsS75.drew |apply IsS75.set_0) |exact HI0.out))) : gb147 ≠ g)); clear HI0; clear HR146_5; clear HK; clear HB; have HI0 := n0_; have HR146_5 := n1_; have HK := n2_; have HB := n3_; have BK147 := n4_; have GW147 := n5_; have GE147 := n6_; have NB0_147 := n7_; have NB147_0 := n8_; clear n0_ n1_ n2_ n3_ n4_ n5_ n6_ n7_ n8_; clear hb hbox hg; have hnb47 := NB147_0.out; have hnc47 := NB0_147.out; have hcz48_0 : w46.cell? ⟨gb147, 0, none⟩ = some (.bool false) := (blk_cell BK147.out 0).trans rfl; have hcz48_1 : w46.cell? ⟨gb147, 1, none⟩ = some (.int .i64 0) := (blk_cell BK147.out 1).trans rfl; have hcz48_2 : w46.cell? ⟨gb147, 2, none⟩ = some (.int .i64 0) := (blk_cell BK147.out 2).trans rfl; have hcz48_3 : w46.cell? ⟨gb147, 3, none⟩ = some (.int .i64 0) := (blk_cell BK147.out 3).trans rfl; have hcz48_4 : w46.cell? ⟨gb147, 4, none⟩ = some (.int .i64 0) := (blk_cell BK147.out 4).trans rfl; have hcz48_5 : w46.cell? ⟨gb147, 5, none⟩ = some (.slice none 0 0) := (blk_cell BK147.out 5).trans rfl; have hfz48_0 := blk_frozen BK147.out 0; have hfz48_1 := blk_frozen BK147.out 1; have hfz48_2 := blk_frozen BK147.out 2; have hfz48_3 := blk_frozen BK147.out 3; have hfz48_4 := blk_frozen BK147.out 4; have hfz48_5 := blk_frozen BK147.out 5) | ((with_reducible refine gate_callee (f := 39) rfl ?_); refine goesL_ (some 31) rfl rfl Tryd.func39 (by kernel_rfl) rfl #[.slice (some ad146) l1.length c1] rfl (by (try simp only [List.map_toArray, List.map_cons, List.map_nil]); first | done | rfl | (simp only [List.length_drop, List.length_take]; rfl)) ?_; (with_reducible refine (tree_Leaves.calls _ _ l1 t148 _ ?side1 ?side2 A9.out).mono ?_); (case side1 => exact Kd.C_footSt_now HR1.out (by repeat (first | (with_reducible first |exact HK.out |apply KeepSt.drewN |apply KeepSt.drew |apply KeepSt.alloc |refine KeepSt.far ?_ GW147.out _) |exact HK.out))); (case side2 => exact HC1.out); rintro e w' ⟨rfl, ⟨nd, rfl⟩⟩; refine ⟨_, rfl, ?_⟩) | ((with_reducible refine gate_callee (f := 40) rfl ?_); refine goesL_ (some 32) rfl rfl Tryd.func40 (by kernel_rfl) rfl #[.int .i64 a2, .int .i64 t148] rfl (by (try simp only [List.map_toArray, List.map_cons, List.map_nil]); first | done | rfl | (simp only [List.length_drop, List.length_take]; rfl)) ?_; (with_reducible refine (heap_Children.calls (hrG := ?sideG) a2 t148 t149 t150 t151 _ A10.out).mono ?_); (case sideG => (first | (with_reducible exact HRG.out) |exact TabG.below HRG.out (by repeat (first | (with_reducible first |exact HB.out |apply below_alloc |apply pw_below_drewN |apply below_drew1 |refine below_set ?_ (IsS75.ge HI0.out) |refine below_set ?_ GE147.out) | (with_reducible exact Below.refl _ _))))); rintro e w' ⟨rfl, ⟨nd, rfl⟩⟩; refine ⟨_, rfl, ?_⟩) | ((with_reducible refine gate_callee (f := 17) rfl ?_); refine goesL_ (some 78) rfl rfl Tryd.func17 (by kernel_rfl) rfl #[.pointer (some ⟨g, 0, none⟩), .slice (some ad146) l1.length c1, .int .i64 t149] rfl (by (try simp only [List.map_toArray, List.map_cons, List.map_nil]); first | done | rfl | (simp only [List.length_drop, List.length_take]; rfl)) ?_; (with_reducible refine (ih kj3 (by have := HJ3.out; omega) g s0_0 _ _ l1 t149 t178 t179 w0 _ ?sideG ?side1 ?side2 ?side3 ?side4 A12.out).mono ?_); (case sideG => (first | (with_reducible exact HRG.out) |exact TabG.below HRG.out (by repeat (first | (with_reducible first |exact HB.out |apply below_alloc |apply pw_below_drewN |apply below_drew1 |refine below_set ?_ (IsS75.ge HI0.out) |refine below_set ?_ GE147.out) | (with_reducible exact Below.refl _ _))))); (case side1 => repeat (first | (with_reducible first |exact HI0.out |apply IsS75.alloc |apply IsS75.drewN |apply IsS75.drew |apply IsS75.set_0 | (focus (refine IsS75.far ?_ ?_ _; rotate_left; (focus ((repeat (first | (with_reducible exact Nsty.of BK147.out rfl) |apply Nsty.set |apply Nsty.drewN |apply Nsty.drew |apply Nsty.alloc)); done))))) |exact HI0.out)); (case side2 => repeat (first | (with_reducible first |exact HB.out |apply below_alloc |apply pw_below_drewN |apply below_drew1 |refine below_set ?_ (IsS75.ge HI0.out) |refine below_set ?_ GE147.out) |exact HB.out)); (case side3 => exact Kd.C_footSt_step HR1.out (by repeat (first | (with_reducible first |exact HK.out |apply KeepSt.drewN |apply KeepSt.drew |apply KeepSt.alloc |refine KeepSt.far ?_ GW147.out _) |exact HK.out))); (case side4 => exact HC1.out); rintro e w49 ⟨rfl, hi, hb, hk⟩; refine ⟨_, rfl, ?_⟩; have n0_ := Aside0.mk (KeepSt.blk hk (g' := gb147) (o := .cells #[.bool false, .int .i64 ((rd_T33 l1 a2).f1), .int .i64 ((rd_T33 l1 a2).f2), .int .i64 ((rd_T33 l1 a2).f3), .int .i64 ((rd_T33 l1 a2).f4), .slice A146_5 ((rd_T33 l1 a2).f5).length c146_5] 33 (0, 0)) (by (with_reducible repeat (first |refine blk_drewN ?_ _ |refine blk_drew ?_ |refine blk_alloc ?_ _)); refine blk_put (cs := #[.bool false, .int .i64 ((rd_T33 l1 a2).f1), .int .i64 ((rd_T33 l1 a2).f2), .int .i64 ((rd_T33 l1 a2).f3), .int .i64 ((rd_T33 l1 a2).f4), .slice none 0 0]) ?_ 5 _ rfl; (with_reducible repeat (first |refine blk_drewN ?_ _ |refine blk_drew ?_ |refine blk_alloc ?_ _)); refine blk_put (cs := #[.bool false, .int .i64 ((rd_T33 l1 a2).f1), .int .i64 ((rd_T33 l1 a2).f2), .int .i64 ((rd_T33 l1 a2).f3), .int .i64 0, .slice none 0 0]) ?_ 4 _ rfl; (with_reducible repeat (first |refine blk_drewN ?_ _ |refine blk_drew ?_ |refine blk_alloc ?_ _)); refine blk_put (cs := #[.bool false, .int .i64 ((rd_T33 l1 a2).f1), .int .i64 ((rd_T33 l1 a2).f2), .int .i64 0, .int .i64 0, .slice none 0 0]) ?_ 3 _ rfl; (with_reducible repeat (first |refine blk_drewN ?_ _ |refine blk_drew ?_ |refine blk_alloc ?_ _)); refine blk_put (cs := #[.bool false, .int .i64 ((rd_T33 l1 a2).f1), .int .i64 0, .int .i64 0, .int .i64 0, .slice none 0 0]) ?_ 2 _ rfl; (with_reducible repeat (first |refine blk_drewN ?_ _ |refine blk_drew ?_ |refine blk_alloc ?_ _)); refine blk_put (cs := #[.bool false, .int .i64 0, .int .i64 0, .int .i64 0, .int .i64 0, .slice none 0 0]) ?_ 1 _ rfl; (with_reducible repeat (first |refine blk_drewN ?_ _ |refine blk_drew ?_ |refine blk_alloc ?_ _)); refine blk_put (cs := #[.bool false, .int .i64 0, .int .i64 0, .int .i64 0, .int .i64 0, .slice none 0 0]) ?_ 0 _ rfl; (with_reducible repeat (first |refine blk_drewN ?_ _ |refine blk_drew ?_ |refine blk_alloc ?_ _)); exact BK147.out) NB147_0.out rfl); have n1_ := Aside0.mk (KeepSt.trans (by repeat (first | (with_reducible first |exact HK.out |apply KeepSt.drewN |apply KeepSt.drew |apply KeepSt.alloc |refine KeepSt.far ?_ GW147.out _) |exact HK.out)) hk); have n2_ := Aside0.mk (hb); have n3_ := Aside0.mk (hi); clear BK147; clear HK; clear HB; clear HI0; have BK147 := n0_; have HK := n1_; have HB := n2_; have HI0 := n3_; clear n0_ n1_ n2_ n3_; (try clear hb); (try clear hb2); (try clear hk); (try clear hi)) | ((with_reducible refine gate_callee (f := 17) rfl ?_); refine goesL_ (some 82) rfl rfl Tryd.func17 (by kernel_rfl) rfl #[.pointer (some ⟨g, 0, none⟩), .slice (some ad146) l1.length c1, .int .i64 t150] rfl (by (try simp only [List.map_toArray, List.map_cons, List.map_nil]); first | done | rfl | (simp only [List.length_drop, List.length_take]; rfl)) ?_; (with_reducible refine (ih kj3 (by have := HJ3.out; omega) g t179 _ _ l1 t150 t180 t181 w0 _ ?sideG ?side1 ?side2 ?side3 ?side4 A13.out).mono ?_); (case sideG => (first | (with_reducible exact HRG.out) |exact TabG.below HRG.out (by repeat (first | (with_reducible first |exact HB.out |apply below_alloc |apply pw_below_drewN |apply below_drew1 |refine below_set ?_ (IsS75.ge HI0.out) |refine below_set ?_ GE147.out) | (with_reducible exact Below.refl _ _))))); (case side1 => repeat (first | (with_reducible first |exact HI0.out |apply IsS75.alloc |apply IsS75.drewN |apply IsS75.drew |apply IsS75.set_0 | (focus (refine IsS75.far ?_ ?_ _; rotate_left; (focus ((repeat (first | (with_reducible exact Nsty.of BK147.out rfl) |apply Nsty.set |apply Nsty.drewN |apply Nsty.drew |apply Nsty.alloc)); done))))) |exact HI0.out)); (case side2 => repeat (first | (with_reducible first |exact HB.out |apply below_alloc |apply pw_below_drewN |apply below_drew1 |refine below_set ?_ (IsS75.ge HI0.out) |refine below_set ?_ GE147.out) |exact HB.out)); (case side3 => exact Kd.C_footSt_step HR1.out (by repeat (first | (with_reducible first |exact HK.out |apply KeepSt.drewN |apply KeepSt.drew |apply KeepSt.alloc |refine KeepSt.far ?_ GW147.out _) |exact HK.out))); (case side4 => exact HC1.out); rintro e w50 ⟨rfl, hi, hb, hk⟩; refine ⟨_, rfl, ?_⟩; have n0_ := Aside0.mk (KeepSt.blk hk (g' := gb147) (o := .cells #[.bool false, .int .i64 ((rd_T33 l1 a2).f1), .int .i64 ((rd_T33 l1 a2).f2), .int .i64 ((rd_T33 l1 a2).f3), .int .i64 ((rd_T33 l1 a2).f4), .slice A146_5 ((rd_T33 l1 a2).f5).length c146_5] 33 (0, 0)) (by (with_reducible repeat (first |refine blk_drewN ?_ _ |refine blk_drew ?_ |refine blk_alloc ?_ _)); exact BK147.out) NB147_0.out rfl); have n1_ := Aside0.mk (KeepSt.trans (by repeat (first | (with_reducible first |exact HK.out |apply KeepSt.drewN |apply KeepSt.drew |apply KeepSt.alloc |refine KeepSt.far ?_ GW147.out _) |exact HK.out)) hk); have n2_ := Aside0.mk (hb); have n3_ := Aside0.mk (hi); clear BK147; clear HK; clear HB; clear HI0; have BK147 := n0_; have HK := n1_; have HB := n2_; have HI0 := n3_; clear n0_ n1_ n2_ n3_; (try clear hb); (try clear hb2); (try clear hk); (try clear hi); have hcz51_0 : w50.cell? ⟨gb147, 0, none⟩ = some (.bool false) := (blk_cell BK147.out 0).trans rfl; have hcz51_1 : w50.cell? ⟨gb147, 1, none⟩ = some (.int .i64 ((rd_T33 l1 a2).f1)) := (blk_cell BK147.out 1).trans rfl; have hcz51_2 : w50.cell? ⟨gb147, 2, none⟩ = some (.int .i64 ((rd_T33 l1 a2).f2)) := (blk_cell BK147.out 2).trans rfl; have hcz51_3 : w50.cell? ⟨gb147, 3, none⟩ = some (.int .i64 ((rd_T33 l1 a2).f3)) := (blk_cell BK147.out 3).trans rfl; have hcz51_4 : w50.cell? ⟨gb147, 4, none⟩ = some (.int .i64 ((rd_T33 l1 a2).f4)) := (blk_cell BK147.out 4).trans rfl; have hcz51_5 : w50.cell? ⟨gb147, 5, none⟩ = some (.slice A146_5 ((rd_T33 l1 a2).f5).length c146_5) := (blk_cell BK147.out 5).trans rfl; have hfz51_0 := blk_frozen BK147.out 0; have hfz51_1 := blk_frozen BK147.out 1; have hfz51_2 := blk_frozen BK147.out 2; have hfz51_3 := blk_frozen BK147.out 3; have hfz51_4 := blk_frozen BK147.out 4; have hfz51_5 := blk_frozen BK147.out 5) | ((with_reducible refine gate_dst (N := 90) rfl ?_); (try (refine gate_guard (by rfl) ?_; dsimp only)); refine Kd.R_lit (Kd.int .i64) _ 3 ?hg (N := 90) ?hd (xs := ([t178, t180] : List Int)) (inner := [.int .i64 t178, .int .i64 t180]) (ok := fun _ => True) (okp := fun _ => True) ?hr ?hp (fun _ hk => hk) trivial (Below.refl _ _) (Nat.le_refl _) (by simp) ?_; (case hd => rfl); (case hg => rfl); (case hr => first | (go_simp; done) | (go_simp; rfl)); (case hp => exact (Reps.one (show Kd.M (Kd.int .i64) _ _ _ t178 [.int .i64 t178] from rfl) (Reps.one (show Kd.M (Kd.int .i64) _ _ _ t180 [.int .i64 t180] from rfl) (Reps.none _ _)))); intro v183 w52 ho53 hb hg_ hnew_; clear hg_ hnew_; (first | rw [← Ny182.out] at ho53 | (simp only [Int.reduceToNat] at ho53; rw [← Ny182.out] at ho53)); have n0_ := Aside0.mk (Kd.R_lower ho53 (KeepSt.size (w := w) (w0 := w0) (by repeat (first | (with_reducible first |exact HK.out |apply KeepSt.drewN |apply KeepSt.drew |apply KeepSt.alloc |refine KeepSt.far ?_ GW147.out _) |exact HK.out)))); have n1_ := Aside0.mk (IsS75.below (by repeat (first | (with_reducible first |exact HI0.out |apply IsS75.alloc |apply IsS75.drewN |apply IsS75.drew |apply IsS75.set_0 | (focus (refine IsS75.far ?_ ?_ _; rotate_left; (focus ((repeat (first | (with_reducible exact Nsty.of BK147.out rfl) |apply Nsty.set |apply Nsty.drewN |apply Nsty.drew |apply Nsty.alloc)); done))))) |exact HI0.out)) hb); have n2_ := Aside0.mk (blk_below (g := gb147) (o := .cells #[.bool false, .int .i64 ((rd_T33 l1 a2).f1), .int .i64 ((rd_T33 l1 a2).f2), .int .i64 ((rd_T33 l1 a2).f3), .int .i64 ((rd_T33 l1 a2).f4), .slice A146_5 ((rd_T33 l1 a2).f5).length c146_5] 33 (0, 0)) (by (with_reducible repeat (first |refine blk_drewN ?_ _ |refine blk_drew ?_ |refine blk_alloc ?_ _)); exact BK147.out) hb); have n3_ := Aside0.mk (KeepSt.trans (by repeat (first | (with_reducible first |exact HK.out |apply KeepSt.drewN |apply KeepSt.drew |apply KeepSt.alloc |refine KeepSt.far ?_ GW147.out _) |exact HK.out)) (KeepSt.of_below hb w0)); have n4_ := Aside0.mk (below_step (by repeat (first | (with_reducible first |exact HB.out |apply below_alloc |apply pw_below_drewN |apply below_drew1 |refine below_set ?_ (IsS75.ge HI0.out) |refine below_set ?_ GE147.out) |exact HB.out)) hb); clear HI0; clear BK147; clear HK; clear HB; have HO184 := n0_; have HI0 := n1_; have BK147 := n2_; have HK := n3_; have HB := n4_; clear n0_ n1_ n2_ n3_ n4_; clear hb ho53; obtain ⟨Ao54, co54, eo54⟩ := Kd.R_slice HO184.out; subst eo54) | ((with_reducible refine gate_callee (f := 34) rfl ?_); refine goesL_ (some 91) rfl rfl Tryd.func34 (by kernel_rfl) rfl #[.pointer (some ⟨g, 0, none⟩), .slice Ao54 y182.length co54] rfl (by (try simp only [List.map_toArray, List.map_cons, List.map_nil]); first | done | rfl | (simp only [List.length_drop, List.length_take]; rfl)) ?_; (with_reducible refine (term_Store_List.calls kj3 g t181 _ _ y182 t185 t186 w0 _ ?side1 ?side2 ?side3 ?side4 ?side5 A44.out).mono ?_); (case side1 => repeat (first | (with_reducible first |exact HI0.out |apply IsS75.alloc |apply IsS75.drewN |apply IsS75.drew |apply IsS75.set_0 | (focus (refine IsS75.far ?_ ?_ _; rotate_left; (focus ((repeat (first | (with_reducible exact Nsty.of BK147.out rfl) |apply Nsty.set |apply Nsty.drewN |apply Nsty.drew |apply Nsty.alloc)); done))))) |exact HI0.out)); (case side2 => repeat (first | (with_reducible first |exact HB.out |apply below_alloc |apply pw_below_drewN |apply below_drew1 |refine below_set ?_ (IsS75.ge HI0.out) |refine below_set ?_ GE147.out) |exact HB.out)); (case side3 => repeat (first |exact (Kd.R_reads' HO184.out).2.2 | (with_reducible refine Kd.C_alloc ?_ _) | (with_reducible refine Kd.C_drewN ?_ _) | (with_reducible refine Kd.C_drew ?_))); (case side4 => exact (Kd.R_reads' HO184.out).2.1); (case side5 => exact Kd.far_R (by (with_reducible repeat (first |apply Kd.R_alloc |apply Kd.R_drewN |apply Kd.R_drew)); exact HO184.out) (by decide)); rintro e w55 ⟨rfl, hi, hb, hk⟩; refine ⟨_, rfl, ?_⟩; have n0_ := Aside0.mk (KeepSt.blk hk (g' := gb147) (o := .cells #[.bool false, .int .i64 ((rd_T33 l1 a2).f1), .int .i64 ((rd_T33 l1 a2).f2), .int .i64 ((rd_T33 l1 a2).f3), .int .i64 ((rd_T33 l1 a2).f4), .slice A146_5 ((rd_T33 l1 a2).f5).length c146_5] 33 (0, 0)) (by (with_reducible repeat (first |refine blk_drewN ?_ _ |refine blk_drew ?_ |refine blk_alloc ?_ _)); exact BK147.out) NB147_0.out rfl); have n1_ := Aside0.mk (Kd.R_mono (Kd.R_keepSt (IsS75.apart (show IsS75 w0 _ g t181 from by repeat (first | (with_reducible first |exact HI0.out |apply IsS75.alloc |apply IsS75.drewN |apply IsS75.drew |apply IsS75.set_0 | (focus (refine IsS75.far ?_ ?_ _; rotate_left; (focus ((repeat (first | (with_reducible exact Nsty.of BK147.out rfl) |apply Nsty.set |apply Nsty.drewN |apply Nsty.drew |apply Nsty.alloc)); done))))) |exact HI0.out)) (by (with_reducible repeat (first |apply Kd.R_alloc |apply Kd.R_drewN |apply Kd.R_drew)); exact HO184.out) (by decide)) hk (fun _ h => h.2)) (fun _ h => h.1)); have n2_ := Aside0.mk (KeepSt.trans (by repeat (first | (with_reducible first |exact HK.out |apply KeepSt.drewN |apply KeepSt.drew |apply KeepSt.alloc |refine KeepSt.far ?_ GW147.out _) |exact HK.out)) hk); have n3_ := Aside0.mk (hb); have n4_ := Aside0.mk (hi); clear BK147; clear HO184; clear HK; clear HB; clear HI0; have BK147 := n0_; have HO184 := n1_; have HK := n2_; have HB := n3_; have HI0 := n4_; clear n0_ n1_ n2_ n3_ n4_; (try clear hb); (try clear hb2); (try clear hk); (try clear hi)) | ((with_reducible refine gate_callee (f := 33) rfl ?_); refine goesL_ (some 92) rfl rfl Tryd.func33 (by kernel_rfl) rfl #[.pointer (some ⟨g, 0, none⟩), .string (⟨#[98, 108, 97, 110, 107]⟩ : ByteArray), .int .i64 t185] rfl (by (try simp only [List.map_toArray, List.map_cons, List.map_nil]); first | done | rfl | (simp only [List.length_drop, List.length_take]; rfl)) ?_; (with_reducible refine (term_Store_Hash.calls g t186 (⟨#[98, 108, 97, 110, 107]⟩ : ByteArray) t185 t187 t188 w0 _ ?side1 ?side2 A45.out).mono ?_); (case side1 => repeat (first | (with_reducible first |exact HI0.out |apply IsS75.alloc |apply IsS75.drewN |apply IsS75.drew |apply IsS75.set_0 | (focus (refine IsS75.far ?_ ?_ _; rotate_left; (focus ((repeat (first | (with_reducible exact Nsty.of BK147.out rfl) |apply Nsty.set |apply Nsty.drewN |apply Nsty.drew |apply Nsty.alloc)); done))))) |exact HI0.out)); (case side2 => repeat (first | (with_reducible first |exact HB.out |apply below_alloc |apply pw_below_drewN |apply below_drew1 |refine below_set ?_ (IsS75.ge HI0.out) |refine below_set ?_ GE147.out) |exact HB.out)); rintro e w56 ⟨rfl, hi, hb, hk⟩; refine ⟨_, rfl, ?_⟩; have n0_ := Aside0.mk (KeepSt.blk hk (g' := gb147) (o := .cells #[.bool false, .int .i64 ((rd_T33 l1 a2).f1), .int .i64 ((rd_T33 l1 a2).f2), .int .i64 ((rd_T33 l1 a2).f3), .int .i64 ((rd_T33 l1 a2).f4), .slice A146_5 ((rd_T33 l1 a2).f5).length c146_5] 33 (0, 0)) (by (with_reducible repeat (first |refine blk_drewN ?_ _ |refine blk_drew ?_ |refine blk_alloc ?_ _)); exact BK147.out) NB147_0.out rfl); have n1_ := Aside0.mk (Kd.R_mono (Kd.R_keepSt (IsS75.apart (show IsS75 w0 _ g t186 from by repeat (first | (with_reducible first |exact HI0.out |apply IsS75.alloc |apply IsS75.drewN |apply IsS75.drew |apply IsS75.set_0 | (focus (refine IsS75.far ?_ ?_ _; rotate_left; (focus ((repeat (first | (with_reducible exact Nsty.of BK147.out rfl) |apply Nsty.set |apply Nsty.drewN |apply Nsty.drew |apply Nsty.alloc)); done))))) |exact HI0.out)) (by (with_reducible repeat (first |apply Kd.R_alloc |apply Kd.R_drewN |apply Kd.R_drew)); exact HO184.out) (by decide)) hk (fun _ h => h.2)) (fun _ h => h.1)); have n2_ := Aside0.mk (KeepSt.trans (by repeat (first | (with_reducible first |exact HK.out |apply KeepSt.drewN |apply KeepSt.drew |apply KeepSt.alloc |refine KeepSt.far ?_ GW147.out _) |exact HK.out)) hk); have n3_ := Aside0.mk (hb); have n4_ := Aside0.mk (hi); clear BK147; clear HO184; clear HK; clear HB; clear HI0; have BK147 := n0_; have HO184 := n1_; have HK := n2_; have HB := n3_; have HI0 := n4_; clear n0_ n1_ n2_ n3_ n4_; (try clear hb); (try clear hb2); (try clear hk); (try clear hi)))
        go_ret
        exact ⟨by first | rfl | (simp [errW_none, errW_some] <;> rfl) | (simp [*, errW_none, errW_some] <;> rfl), by repeat (first | (with_reducible first | exact HI0.out | apply IsS75.alloc | apply IsS75.drewN | apply IsS75.drew | apply IsS75.set_0 | (focus (refine IsS75.far ?_ ?_ _; rotate_left; (focus ((repeat (first | (with_reducible exact Nsty.of BK147.out rfl) | apply Nsty.set | apply Nsty.drewN | apply Nsty.drew | apply Nsty.alloc)); done))))) | exact HI0.out), by repeat (first | (with_reducible first | exact HB.out | apply below_alloc | apply pw_below_drewN | apply below_drew1 | refine below_set ?_ (IsS75.ge HI0.out) | refine below_set ?_ GE147.out) | exact HB.out), by repeat (first | (with_reducible first | exact HK.out | apply KeepSt.drewN | apply KeepSt.drew | apply KeepSt.alloc | refine KeepSt.far ?_ GW147.out _) | exact HK.out)⟩
      ·
       rw [if_neg c11] at H
       have c11b0 : (t151 == 0) = false := beq_eq_false_iff_ne.mpr c11
       have c11b1 : (t151 != 0) = true := bne_iff_ne.mpr c11
       obtain ⟨bq57, hbq57⟩ : ∃ b_ : Bool, b_ = ((rd_T33 l1 a2).f0) := ⟨_, rfl⟩
       replace H : (if (bq57 = true) then ((digest_Number.f s0_0 (wrap64 (Int.tdiv a2 2))).bind fun bt161 => ((digest_Number.f bt161.2 ((rd_T33 l1 a2).f2)).bind fun bt163 => ((digest_some.f bt163.2 ((rd_T33 l1 a2).f1)).bind fun bt165 => ((digest_some.f bt165.2 ((rd_T33 l1 a2).f3)).bind fun bt167 => ((digest_some.f bt167.2 ((rd_T33 l1 a2).f4)).bind fun bt169 => ((term_Store_List.f kj3 bt169.2 (([bt161.1, bt163.1, bt165.1, bt167.1, bt169.1] : List Int))).bind fun bt174 => ((term_Store_Hash.f bt174.2 (⟨#[108, 101, 97, 102]⟩ : ByteArray) bt174.1).bind fun bt176 => (some (bt176.1, bt176.2))))))))) else ((digest_Number.f s0_0 (wrap64 (Int.tdiv a2 2))).bind fun bt152 => ((term_Store_List.f kj3 bt152.2 (([bt152.1] : List Int))).bind fun bt157 => ((term_Store_Hash.f bt157.2 (⟨#[108, 101, 97, 102]⟩ : ByteArray) bt157.1).bind fun bt159 => (some (bt159.1, bt159.2)))))) = some (r1, r2) := by rw [← hbq57] at H; exact H
       have Nbq57 := Aside0.mk hbq57
       clear hbq57
       by_cases c58 : (bq57 = true)
       ·
        subst c58
        have H1 : ((digest_Number.f s0_0 (wrap64 (Int.tdiv a2 2))).bind fun bt161 => ((digest_Number.f bt161.2 ((rd_T33 l1 a2).f2)).bind fun bt163 => ((digest_some.f bt163.2 ((rd_T33 l1 a2).f1)).bind fun bt165 => ((digest_some.f bt165.2 ((rd_T33 l1 a2).f3)).bind fun bt167 => ((digest_some.f bt167.2 ((rd_T33 l1 a2).f4)).bind fun bt169 => ((term_Store_List.f kj3 bt169.2 (([bt161.1, bt163.1, bt165.1, bt167.1, bt169.1] : List Int))).bind fun bt174 => ((term_Store_Hash.f bt174.2 (⟨#[108, 101, 97, 102]⟩ : ByteArray) bt174.1).bind fun bt176 => (some (bt176.1, bt176.2))))))))) = some (r1, r2) := by rw [if_pos rfl] at H; exact H
        clear H
        have H := H1
        clear H1
        replace H := Option.bind_eq_some_iff.mp H
        obtain ⟨⟨t161, t162⟩, A590, H⟩ := H
        replace H : ((digest_Number.f t162 ((rd_T33 l1 a2).f2)).bind fun bt163 => ((digest_some.f bt163.2 ((rd_T33 l1 a2).f1)).bind fun bt165 => ((digest_some.f bt165.2 ((rd_T33 l1 a2).f3)).bind fun bt167 => ((digest_some.f bt167.2 ((rd_T33 l1 a2).f4)).bind fun bt169 => ((term_Store_List.f kj3 bt169.2 (([t161, bt163.1, bt165.1, bt167.1, bt169.1] : List Int))).bind fun bt174 => ((term_Store_Hash.f bt174.2 (⟨#[108, 101, 97, 102]⟩ : ByteArray) bt174.1).bind fun bt176 => (some (bt176.1, bt176.2)))))))) = some (r1, r2) := H
        have A59 := Aside0.mk A590
        clear A590
        replace H := Option.bind_eq_some_iff.mp H
        obtain ⟨⟨t163, t164⟩, A600, H⟩ := H
        replace H : ((digest_some.f t164 ((rd_T33 l1 a2).f1)).bind fun bt165 => ((digest_some.f bt165.2 ((rd_T33 l1 a2).f3)).bind fun bt167 => ((digest_some.f bt167.2 ((rd_T33 l1 a2).f4)).bind fun bt169 => ((term_Store_List.f kj3 bt169.2 (([t161, t163, bt165.1, bt167.1, bt169.1] : List Int))).bind fun bt174 => ((term_Store_Hash.f bt174.2 (⟨#[108, 101, 97, 102]⟩ : ByteArray) bt174.1).bind fun bt176 => (some (bt176.1, bt176.2))))))) = some (r1, r2) := H
        have A60 := Aside0.mk A600
        clear A600
        replace H := Option.bind_eq_some_iff.mp H
        obtain ⟨⟨t165, t166⟩, A610, H⟩ := H
        replace H : ((digest_some.f t166 ((rd_T33 l1 a2).f3)).bind fun bt167 => ((digest_some.f bt167.2 ((rd_T33 l1 a2).f4)).bind fun bt169 => ((term_Store_List.f kj3 bt169.2 (([t161, t163, t165, bt167.1, bt169.1] : List Int))).bind fun bt174 => ((term_Store_Hash.f bt174.2 (⟨#[108, 101, 97, 102]⟩ : ByteArray) bt174.1).bind fun bt176 => (some (bt176.1, bt176.2)))))) = some (r1, r2) := H
        have A61 := Aside0.mk A610
        clear A610
        replace H := Option.bind_eq_some_iff.mp H
        obtain ⟨⟨t167, t168⟩, A620, H⟩ := H
        replace H : ((digest_some.f t168 ((rd_T33 l1 a2).f4)).bind fun bt169 => ((term_Store_List.f kj3 bt169.2 (([t161, t163, t165, t167, bt169.1] : List Int))).bind fun bt174 => ((term_Store_Hash.f bt174.2 (⟨#[108, 101, 97, 102]⟩ : ByteArray) bt174.1).bind fun bt176 => (some (bt176.1, bt176.2))))) = some (r1, r2) := H
        have A62 := Aside0.mk A620
        clear A620
        replace H := Option.bind_eq_some_iff.mp H
        obtain ⟨⟨t169, t170⟩, A630, H⟩ := H
        replace H : ((term_Store_List.f kj3 t170 (([t161, t163, t165, t167, t169] : List Int))).bind fun bt174 => ((term_Store_Hash.f bt174.2 (⟨#[108, 101, 97, 102]⟩ : ByteArray) bt174.1).bind fun bt176 => (some (bt176.1, bt176.2)))) = some (r1, r2) := H
        have A63 := Aside0.mk A630
        clear A630
        obtain ⟨y171, hy171⟩ : ∃ y_ : List Int, y_ = (([t161, t163, t165, t167, t169] : List Int)) := ⟨_, rfl⟩
        replace H : ((term_Store_List.f kj3 t170 y171).bind fun bt174 => ((term_Store_Hash.f bt174.2 (⟨#[108, 101, 97, 102]⟩ : ByteArray) bt174.1).bind fun bt176 => (some (bt176.1, bt176.2)))) = some (r1, r2) := by first | (rw [hy171]; with_reducible exact H) | (have H2_ := (Option.bind_some _ _).symm.trans H; rw [hy171]; with_reducible exact H2_) | (have H2_ := (Option.bind_some _ _).symm.trans H; with_reducible exact H2_) | with_reducible exact H | (rw [hy171]; exact H) | exact H
        have Ny171 := Aside0.mk hy171
        clear hy171
        replace H := Option.bind_eq_some_iff.mp H
        obtain ⟨⟨t174, t175⟩, A640, H⟩ := H
        replace H : ((term_Store_Hash.f t175 (⟨#[108, 101, 97, 102]⟩ : ByteArray) t174).bind fun bt176 => (some (bt176.1, bt176.2))) = some (r1, r2) := H
        have A64 := Aside0.mk A640
        clear A640
        replace H := Option.bind_eq_some_iff.mp H
        obtain ⟨⟨t176, t177⟩, A650, H⟩ := H
        replace H : (some (t176, t177)) = some (r1, r2) := H
        have A65 := Aside0.mk A650
        clear A650
        simp only [Option.some.injEq, Prod.mk.injEq] at H
        obtain ⟨rfl, rfl⟩ := H
        have p146 : 0 ≤ (a2 : Int) := of_decide_eq_true (by first | (with_reducible assumption) | assumption)
        have q146 : a2 < (l1.length : Int) := of_decide_eq_true (by first | (with_reducible assumption) | assumption)
        obtain ⟨ad146, A146_5, c146_5, e146, hx146_0, hx146_1, hx146_2, hx146_3, hx146_4, hx146_5, hl146_5, hi146_5⟩ := at_T33 (Kd.C_footSt_now HR1.out HK.out) a2 p146 q146
        have HF146_5 := Aside0.mk (foot_inner33 HR1.out HK.out p146 q146 e146 hx146_5)
        (try rw [← Nbq57.out] at hx146_0)
        cases e146
        have HR146_5 := Aside0.mk hi146_5
        have HC146_5 := Aside0.mk hl146_5
        clear hi146_5 hl146_5
        replace p146 := eq_true p146
        replace q146 := eq_true q146
        try go_wp2_with (first | ((with_reducible refine gate_dst (N := 7) rfl ?_); (try (refine gate_guard (by rfl) ?_; dsimp only)); refine box_event ?hg (N := 7) ?hd (cs := #[.bool false, .int .i64 0, .int .i64 0, .int .i64 0, .int .i64 0, .slice none 0 0]) (t := 33) ?hr ?_; (case hd => rfl); (case hg => rfl); (case hr => first | (go_simp; done) | (go_simp; rfl)); intro gb147 hg w66 hbox hb; have n0_ := Aside0.mk (IsS75.below (by repeat (first | (with_reducible first |exact HI0.out |apply IsS75.alloc |apply IsS75.drewN |apply IsS75.drew |apply IsS75.set_0) |exact HI0.out)) hb); have n1_ := Aside0.mk (Kd.C_below (by repeat (first | (with_reducible exact HR146_5.out) | (with_reducible refine Kd.C_alloc ?_ _) | (with_reducible refine Kd.C_drewN ?_ _) | (with_reducible refine Kd.C_drew ?_) |exact HR146_5.out)) hb); have n2_ := Aside0.mk (KeepSt.trans (by repeat (first | (with_reducible first |exact HK.out |apply KeepSt.drewN |apply KeepSt.drew |apply KeepSt.alloc) |exact HK.out)) (KeepSt.of_below hb w0)); have n3_ := Aside0.mk (below_step (by repeat (first | (with_reducible first |exact HB.out |apply below_alloc |apply pw_below_drewN |apply below_drew1 |refine below_set ?_ (IsS75.ge HI0.out)) |exact HB.out)) hb); have n4_ := Aside0.mk (hbox); have n5_ := Aside0.mk ((by rw [hg]; exact (KeepSt.size (w := w) (w0 := w0) (by repeat (first | (with_reducible first |exact HK.out |apply KeepSt.drewN |apply KeepSt.drew |apply KeepSt.alloc) |exact HK.out))) : w.heap.size ≤ gb147)); have n6_ := Aside0.mk ((Nat.le_trans HW0.out (by rw [hg]; exact (KeepSt.size (w := w) (w0 := w0) (by repeat (first | (with_reducible first |exact HK.out |apply KeepSt.drewN |apply KeepSt.drew |apply KeepSt.alloc) |exact HK.out))) : w.heap.size ≤ gb147) : w0.heap.size ≤ gb147)); have n7_ := Aside0.mk ((by rw [hg]; exact Nat.ne_of_lt (IsS75.lt (show IsS75 w0 _ g s0_0 from by repeat (first | (with_reducible first |exact HI0.out |apply IsS75.alloc |apply IsS75.drewN |apply IsS75.drew |apply IsS75.set_0) |exact HI0.out))) : g ≠ gb147)); have n8_ := Aside0.mk ((by rw [hg]; exact Nat.ne_of_gt (IsS75.lt (show IsS75 w0 _ g s0_0 from by repeat (first | (with_reducible first |exact HI0.out |apply IsS75.alloc |apply IsS75.drewN |apply IsS75.drew |apply IsS75.set_0) |exact HI0.out))) : gb147 ≠ g)); clear HI0; clear HR146_5; clear HK; clear HB; have HI0 := n0_; have HR146_5 := n1_; have HK := n2_; have HB := n3_; have BK147 := n4_; have GW147 := n5_; have GE147 := n6_; have NB0_147 := n7_; have NB147_0 := n8_; clear n0_ n1_ n2_ n3_ n4_ n5_ n6_ n7_ n8_; clear hb hbox hg; have hnb67 := NB147_0.out; have hnc67 := NB0_147.out; have hcz68_0 : w66.cell? ⟨gb147, 0, none⟩ = some (.bool false) := (blk_cell BK147.out 0).trans rfl; have hcz68_1 : w66.cell? ⟨gb147, 1, none⟩ = some (.int .i64 0) := (blk_cell BK147.out 1).trans rfl; have hcz68_2 : w66.cell? ⟨gb147, 2, none⟩ = some (.int .i64 0) := (blk_cell BK147.out 2).trans rfl; have hcz68_3 : w66.cell? ⟨gb147, 3, none⟩ = some (.int .i64 0) := (blk_cell BK147.out 3).trans rfl; have hcz68_4 : w66.cell? ⟨gb147, 4, none⟩ = some (.int .i64 0) := (blk_cell BK147.out 4).trans rfl; have hcz68_5 : w66.cell? ⟨gb147, 5, none⟩ = some (.slice none 0 0) := (blk_cell BK147.out 5).trans rfl; have hfz68_0 := blk_frozen BK147.out 0; have hfz68_1 := blk_frozen BK147.out 1; have hfz68_2 := blk_frozen BK147.out 2; have hfz68_3 := blk_frozen BK147.out 3; have hfz68_4 := blk_frozen BK147.out 4; have hfz68_5 := blk_frozen BK147.out 5) | ((with_reducible refine gate_callee (f := 39) rfl ?_); refine goesL_ (some 31) rfl rfl Tryd.func39 (by kernel_rfl) rfl #[.slice (some ad146) l1.length c1] rfl (by (try simp only [List.map_toArray, List.map_cons, List.map_nil]); first | done | rfl | (simp only [List.length_drop, List.length_take]; rfl)) ?_; (with_reducible refine (tree_Leaves.calls _ _ l1 t148 _ ?side1 ?side2 A9.out).mono ?_); (case side1 => exact Kd.C_footSt_now HR1.out (by repeat (first | (with_reducible first |exact HK.out |apply KeepSt.drewN |apply KeepSt.drew |apply KeepSt.alloc |refine KeepSt.far ?_ GW147.out _) |exact HK.out))); (case side2 => exact HC1.out); rintro e w' ⟨rfl, ⟨nd, rfl⟩⟩; refine ⟨_, rfl, ?_⟩) | ((with_reducible refine gate_callee (f := 40) rfl ?_); refine goesL_ (some 32) rfl rfl Tryd.func40 (by kernel_rfl) rfl #[.int .i64 a2, .int .i64 t148] rfl (by (try simp only [List.map_toArray, List.map_cons, List.map_nil]); first | done | rfl | (simp only [List.length_drop, List.length_take]; rfl)) ?_; (with_reducible refine (heap_Children.calls (hrG := ?sideG) a2 t148 t149 t150 t151 _ A10.out).mono ?_); (case sideG => (first | (with_reducible exact HRG.out) |exact TabG.below HRG.out (by repeat (first | (with_reducible first |exact HB.out |apply below_alloc |apply pw_below_drewN |apply below_drew1 |refine below_set ?_ (IsS75.ge HI0.out) |refine below_set ?_ GE147.out) | (with_reducible exact Below.refl _ _))))); rintro e w' ⟨rfl, ⟨nd, rfl⟩⟩; refine ⟨_, rfl, ?_⟩))
        have n0_ : Aside0 (((((((w66.setCell ⟨gb147, 0, none⟩ (.bool true)).setCell ⟨gb147, 1, none⟩ (.int .i64 ((rd_T33 l1 a2).f1))).setCell ⟨gb147, 2, none⟩ (.int .i64 ((rd_T33 l1 a2).f2))).setCell ⟨gb147, 3, none⟩ (.int .i64 ((rd_T33 l1 a2).f3))).setCell ⟨gb147, 4, none⟩ (.int .i64 ((rd_T33 l1 a2).f4))).setCell ⟨gb147, 5, none⟩ (.slice A146_5 ((rd_T33 l1 a2).f5).length c146_5)).heap[gb147]? = some (.cells #[.bool true, .int .i64 ((rd_T33 l1 a2).f1), .int .i64 ((rd_T33 l1 a2).f2), .int .i64 ((rd_T33 l1 a2).f3), .int .i64 ((rd_T33 l1 a2).f4), .slice A146_5 ((rd_T33 l1 a2).f5).length c146_5] 33 (0, 0))) := ⟨by (with_reducible repeat (first |refine blk_drewN ?_ _ |refine blk_drew ?_ |refine blk_alloc ?_ _)); refine blk_put (cs := #[.bool true, .int .i64 ((rd_T33 l1 a2).f1), .int .i64 ((rd_T33 l1 a2).f2), .int .i64 ((rd_T33 l1 a2).f3), .int .i64 ((rd_T33 l1 a2).f4), .slice none 0 0]) ?_ 5 _ rfl; (with_reducible repeat (first |refine blk_drewN ?_ _ |refine blk_drew ?_ |refine blk_alloc ?_ _)); refine blk_put (cs := #[.bool true, .int .i64 ((rd_T33 l1 a2).f1), .int .i64 ((rd_T33 l1 a2).f2), .int .i64 ((rd_T33 l1 a2).f3), .int .i64 0, .slice none 0 0]) ?_ 4 _ rfl; (with_reducible repeat (first |refine blk_drewN ?_ _ |refine blk_drew ?_ |refine blk_alloc ?_ _)); refine blk_put (cs := #[.bool true, .int .i64 ((rd_T33 l1 a2).f1), .int .i64 ((rd_T33 l1 a2).f2), .int .i64 0, .int .i64 0, .slice none 0 0]) ?_ 3 _ rfl; (with_reducible repeat (first |refine blk_drewN ?_ _ |refine blk_drew ?_ |refine blk_alloc ?_ _)); refine blk_put (cs := #[.bool true, .int .i64 ((rd_T33 l1 a2).f1), .int .i64 0, .int .i64 0, .int .i64 0, .slice none 0 0]) ?_ 2 _ rfl; (with_reducible repeat (first |refine blk_drewN ?_ _ |refine blk_drew ?_ |refine blk_alloc ?_ _)); refine blk_put (cs := #[.bool true, .int .i64 0, .int .i64 0, .int .i64 0, .int .i64 0, .slice none 0 0]) ?_ 1 _ rfl; (with_reducible repeat (first |refine blk_drewN ?_ _ |refine blk_drew ?_ |refine blk_alloc ?_ _)); refine blk_put (cs := #[.bool false, .int .i64 0, .int .i64 0, .int .i64 0, .int .i64 0, .slice none 0 0]) ?_ 0 _ rfl; (with_reducible repeat (first |refine blk_drewN ?_ _ |refine blk_drew ?_ |refine blk_alloc ?_ _)); exact BK147.out⟩
        have n1_ : Aside0 (IsS75 w0 ((((((w66.setCell ⟨gb147, 0, none⟩ (.bool true)).setCell ⟨gb147, 1, none⟩ (.int .i64 ((rd_T33 l1 a2).f1))).setCell ⟨gb147, 2, none⟩ (.int .i64 ((rd_T33 l1 a2).f2))).setCell ⟨gb147, 3, none⟩ (.int .i64 ((rd_T33 l1 a2).f3))).setCell ⟨gb147, 4, none⟩ (.int .i64 ((rd_T33 l1 a2).f4))).setCell ⟨gb147, 5, none⟩ (.slice A146_5 ((rd_T33 l1 a2).f5).length c146_5)) g s0_0) := ⟨by repeat (first | (with_reducible first | exact HI0.out | apply IsS75.alloc | apply IsS75.drewN | apply IsS75.drew | apply IsS75.set_0 | (focus (refine IsS75.far ?_ ?_ _; rotate_left; (focus ((repeat (first | (with_reducible exact Nsty.of BK147.out rfl) | apply Nsty.set | apply Nsty.drewN | apply Nsty.drew | apply Nsty.alloc)); done))))) | exact HI0.out)⟩
        have n2_ : Aside0 (KeepSt w ((((((w66.setCell ⟨gb147, 0, none⟩ (.bool true)).setCell ⟨gb147, 1, none⟩ (.int .i64 ((rd_T33 l1 a2).f1))).setCell ⟨gb147, 2, none⟩ (.int .i64 ((rd_T33 l1 a2).f2))).setCell ⟨gb147, 3, none⟩ (.int .i64 ((rd_T33 l1 a2).f3))).setCell ⟨gb147, 4, none⟩ (.int .i64 ((rd_T33 l1 a2).f4))).setCell ⟨gb147, 5, none⟩ (.slice A146_5 ((rd_T33 l1 a2).f5).length c146_5)) w0) := ⟨by repeat (first | (with_reducible first | exact HK.out | apply KeepSt.drewN | apply KeepSt.drew | apply KeepSt.alloc | refine KeepSt.far ?_ GW147.out _) | exact HK.out)⟩
        have n3_ : Aside0 (Below w0.heap.size w0 ((((((w66.setCell ⟨gb147, 0, none⟩ (.bool true)).setCell ⟨gb147, 1, none⟩ (.int .i64 ((rd_T33 l1 a2).f1))).setCell ⟨gb147, 2, none⟩ (.int .i64 ((rd_T33 l1 a2).f2))).setCell ⟨gb147, 3, none⟩ (.int .i64 ((rd_T33 l1 a2).f3))).setCell ⟨gb147, 4, none⟩ (.int .i64 ((rd_T33 l1 a2).f4))).setCell ⟨gb147, 5, none⟩ (.slice A146_5 ((rd_T33 l1 a2).f5).length c146_5))) := ⟨by repeat (first | (with_reducible first | exact HB.out | apply below_alloc | apply pw_below_drewN | apply below_drew1 | refine below_set ?_ (IsS75.ge HI0.out) | refine below_set ?_ GE147.out) | exact HB.out)⟩
        (try clear BK147)
        (try clear HI0)
        (try clear HK)
        (try clear HB)
        generalize ((((((w66.setCell ⟨gb147, 0, none⟩ (.bool true)).setCell ⟨gb147, 1, none⟩ (.int .i64 ((rd_T33 l1 a2).f1))).setCell ⟨gb147, 2, none⟩ (.int .i64 ((rd_T33 l1 a2).f2))).setCell ⟨gb147, 3, none⟩ (.int .i64 ((rd_T33 l1 a2).f3))).setCell ⟨gb147, 4, none⟩ (.int .i64 ((rd_T33 l1 a2).f4))).setCell ⟨gb147, 5, none⟩ (.slice A146_5 ((rd_T33 l1 a2).f5).length c146_5)) = w69 at n0_ n1_ n2_ n3_ ⊢
        have BK147 := n0_
        have HI0 := n1_
        have HK := n2_
        have HB := n3_
        clear n0_ n1_ n2_ n3_
        (try (rw [drewN_self w69]; generalize hq_ : World.drewN w69 _ = w69; have n0_ : Aside0 (w69.heap[gb147]? = some (.cells #[.bool true, .int .i64 ((rd_T33 l1 a2).f1), .int .i64 ((rd_T33 l1 a2).f2), .int .i64 ((rd_T33 l1 a2).f3), .int .i64 ((rd_T33 l1 a2).f4), .slice A146_5 ((rd_T33 l1 a2).f5).length c146_5] 33 (0, 0))) := ⟨by rw [← hq_]; exact (by (with_reducible repeat (first | refine blk_drewN ?_ _ | refine blk_drew ?_ | refine blk_alloc ?_ _)); exact BK147.out)⟩; have n1_ : Aside0 (IsS75 w0 w69 g s0_0) := ⟨by rw [← hq_]; exact (by repeat (first | (with_reducible first | exact HI0.out | apply IsS75.alloc | apply IsS75.drewN | apply IsS75.drew | apply IsS75.set_0 | (focus (refine IsS75.far ?_ ?_ _; rotate_left; (focus ((repeat (first | (with_reducible exact Nsty.of BK147.out rfl) | apply Nsty.set | apply Nsty.drewN | apply Nsty.drew | apply Nsty.alloc)); done))))) | exact HI0.out))⟩; have n2_ : Aside0 (KeepSt w w69 w0) := ⟨by rw [← hq_]; exact (by repeat (first | (with_reducible first | exact HK.out | apply KeepSt.drewN | apply KeepSt.drew | apply KeepSt.alloc | refine KeepSt.far ?_ GW147.out _) | exact HK.out))⟩; have n3_ : Aside0 (Below w0.heap.size w0 w69) := ⟨by rw [← hq_]; exact (by repeat (first | (with_reducible first | exact HB.out | apply below_alloc | apply pw_below_drewN | apply below_drew1 | refine below_set ?_ (IsS75.ge HI0.out) | refine below_set ?_ GE147.out) | exact HB.out))⟩; clear BK147 HI0 HK HB hq_; have BK147 := n0_; have HI0 := n1_; have HK := n2_; have HB := n3_; clear n0_ n1_ n2_ n3_))
        have n0_ := Aside0.mk (blk_drew BK147.out)
        have n1_ := Aside0.mk (IsS75.drew HI0.out)
        have n2_ := Aside0.mk (KeepSt.drew HK.out)
        have n3_ := Aside0.mk (below_drew1 HB.out)
        clear BK147
        clear HI0
        clear HK
        clear HB
        have BK147 := n0_
        have HI0 := n1_
        have HK := n2_
        have HB := n3_
        clear n0_ n1_ n2_ n3_
        refine start_ (n := 26) (S := fun w' => w'.cell? ⟨gb147, 0, none⟩ = some (.bool true) ∧ w'.cell? ⟨gb147, 1, none⟩ = some (.int .i64 ((rd_T33 l1 a2).f1)) ∧ w'.cell? ⟨gb147, 2, none⟩ = some (.int .i64 ((rd_T33 l1 a2).f2)) ∧ w'.cell? ⟨gb147, 3, none⟩ = some (.int .i64 ((rd_T33 l1 a2).f3)) ∧ w'.cell? ⟨gb147, 4, none⟩ = some (.int .i64 ((rd_T33 l1 a2).f4)) ∧ w'.cell? ⟨gb147, 5, none⟩ = some (.slice A146_5 ((rd_T33 l1 a2).f5).length c146_5)) (ds := []) #[false,false,false,false,false,false,false,false,false,false,false,false,false,false,false,false,false,false,false,false,false,false,false,false,false,false] (by kernel_rfl) rfl rfl ⟨(blk_cell BK147.out 0).trans rfl, (blk_cell BK147.out 1).trans rfl, (blk_cell BK147.out 2).trans rfl, (blk_cell BK147.out 3).trans rfl, (blk_cell BK147.out 4).trans rfl, (blk_cell BK147.out 5).trans rfl⟩ (fun hHeld => ?_); refine with_tabW digest_Hash.tab8 digest_Hash.bits8 (fun HT_ HW_ => ?_)
        generalize w69.drew = w70 at BK147 HI0 HK HB hHeld ⊢
        refine pure_ (i := 0) (N := some 50) (v := ?_) (a' := ?_) #[true,false,false,false,false,false,false,false,false,false,false,false,false,false,false,false,false,false,false,false,false,false,false,false,false,false] rfl rfl (any_of HT_.out (by kernel_rfl)) (fun _ _ _ h => h) (Or.inl ⟨by rfl, ?_⟩) ?_ ?_
        rotate_left; (intro w'; go_simp; with_reducible rfl); rotate_left; (simp only [Act.put, List.setIfInBounds_toArray, List.set_cons_zero, List.set_cons_succ, i64_w, i32_w]; rfl)
        refine pure_ (i := 1) (N := some 51) (v := ?_) (a' := ?_) #[true,true,false,false,false,false,false,false,false,false,false,false,false,false,false,false,false,false,false,false,false,false,false,false,false,false] rfl rfl (any_of HT_.out (by kernel_rfl)) (fun _ _ _ h => h) (Or.inl ⟨by rfl, ?_⟩) ?_ ?_
        rotate_left; (intro w'; go_simp; with_reducible rfl); rotate_left; (simp only [Act.put, List.setIfInBounds_toArray, List.set_cons_zero, List.set_cons_succ, i64_w, i32_w]; rfl)
        refine pure_ (i := 2) (N := some 52) (v := ?_) (a' := ?_) #[true,true,true,false,false,false,false,false,false,false,false,false,false,false,false,false,false,false,false,false,false,false,false,false,false,false] rfl rfl (any_of HT_.out (by kernel_rfl)) (fun _ _ _ h => h) (Or.inl ⟨by rfl, ?_⟩) ?_ ?_
        rotate_left; (intro w'; go_simp; with_reducible rfl); rotate_left; (simp only [Act.put, List.setIfInBounds_toArray, List.set_cons_zero, List.set_cons_succ, i64_w, i32_w]; rfl)
        refine pure_ (i := 3) (N := some 53) (v := ?_) (a' := ?_) #[true,true,true,true,false,false,false,false,false,false,false,false,false,false,false,false,false,false,false,false,false,false,false,false,false,false] rfl rfl (any_of HT_.out (by kernel_rfl)) (fun _ _ _ h => h) (Or.inl ⟨by rfl, ?_⟩) ?_ ?_
        rotate_left; (intro w'; go_simp; with_reducible rfl); rotate_left; (simp only [Act.put, List.setIfInBounds_toArray, List.set_cons_zero, List.set_cons_succ, i64_w, i32_w]; rfl)
        refine pure_ (i := 4) (N := some 54) (v := ?_) (a' := ?_) #[true,true,true,true,true,false,false,false,false,false,false,false,false,false,false,false,false,false,false,false,false,false,false,false,false,false] rfl rfl (any_of HT_.out (by kernel_rfl)) (fun _ _ _ h => h) (Or.inl ⟨by rfl, ?_⟩) ?_ ?_
        rotate_left; (intro w'; go_simp; with_reducible rfl); rotate_left; (simp only [Act.put, List.setIfInBounds_toArray, List.set_cons_zero, List.set_cons_succ, i64_w, i32_w]; rfl)
        refine pure_ (i := 6) (N := some 56) (v := ?_) (a' := ?_) #[true,true,true,true,true,false,true,false,false,false,false,false,false,false,false,false,false,false,false,false,false,false,false,false,false,false] rfl rfl (any_of HT_.out (by kernel_rfl)) (fun _ _ _ h => h) (Or.inl ⟨by rfl, ?_⟩) ?_ ?_
        rotate_left; (intro w'; go_simp; with_reducible rfl); rotate_left; (simp only [Act.put, List.setIfInBounds_toArray, List.set_cons_zero, List.set_cons_succ, i64_w, i32_w]; rfl)
        refine pure_ (i := 7) (N := some 57) (v := ?_) (a' := ?_) #[true,true,true,true,true,false,true,true,false,false,false,false,false,false,false,false,false,false,false,false,false,false,false,false,false,false] rfl rfl (any_of HT_.out (by kernel_rfl)) (fun _ _ _ h => h) (Or.inl ⟨by rfl, ?_⟩) ?_ ?_
        rotate_left; (intro w'; go_simp; with_reducible rfl); rotate_left; (simp only [Act.put, List.setIfInBounds_toArray, List.set_cons_zero, List.set_cons_succ, i64_w, i32_w]; rfl)
        refine pure_ (i := 10) (N := some 60) (v := ?_) (a' := ?_) #[true,true,true,true,true,false,true,true,false,false,true,false,false,false,false,false,false,false,false,false,false,false,false,false,false,false] rfl rfl (any_of HT_.out (by kernel_rfl)) (fun _ _ _ h => h) (Or.inl ⟨by rfl, ?_⟩) ?_ ?_
        rotate_left; (intro w'; go_simp; with_reducible rfl); rotate_left; (simp only [Act.put, List.setIfInBounds_toArray, List.set_cons_zero, List.set_cons_succ, i64_w, i32_w]; rfl)
        refine pure_ (i := 11) (N := some 61) (v := ?_) (a' := ?_) #[true,true,true,true,true,false,true,true,false,false,true,true,false,false,false,false,false,false,false,false,false,false,false,false,false,false] rfl rfl (any_of HT_.out (by kernel_rfl)) (fun _ _ _ h => h) (Or.inl ⟨by rfl, ?_⟩) ?_ ?_
        rotate_left; (intro w'; go_simp; with_reducible rfl); rotate_left; (simp only [Act.put, List.setIfInBounds_toArray, List.set_cons_zero, List.set_cons_succ, i64_w, i32_w]; rfl)
        refine pure_ (i := 14) (N := some 64) (v := ?_) (a' := ?_) #[true,true,true,true,true,false,true,true,false,false,true,true,false,false,true,false,false,false,false,false,false,false,false,false,false,false] rfl rfl (any_of HT_.out (by kernel_rfl)) (fun _ _ _ h => h) (Or.inl ⟨by rfl, ?_⟩) ?_ ?_
        rotate_left; (intro w'; go_simp; with_reducible rfl); rotate_left; (simp only [Act.put, List.setIfInBounds_toArray, List.set_cons_zero, List.set_cons_succ, i64_w, i32_w]; rfl)
        refine pure_ (i := 15) (N := some 65) (v := ?_) (a' := ?_) #[true,true,true,true,true,false,true,true,false,false,true,true,false,false,true,true,false,false,false,false,false,false,false,false,false,false] rfl rfl (any_of HT_.out (by kernel_rfl)) (fun _ _ _ h => h) (Or.inl ⟨by rfl, ?_⟩) ?_ ?_
        rotate_left; (intro w'; go_simp; with_reducible rfl); rotate_left; (simp only [Act.put, List.setIfInBounds_toArray, List.set_cons_zero, List.set_cons_succ, i64_w, i32_w]; rfl)
        refine pure_ (i := 18) (N := some 68) (v := ?_) (a' := ?_) #[true,true,true,true,true,false,true,true,false,false,true,true,false,false,true,true,false,false,true,false,false,false,false,false,false,false] rfl rfl (any_of HT_.out (by kernel_rfl)) (fun _ _ _ h => h) (Or.inl ⟨by rfl, ?_⟩) ?_ ?_
        rotate_left; (intro w'; go_simp; with_reducible rfl); rotate_left; (simp only [Act.put, List.setIfInBounds_toArray, List.set_cons_zero, List.set_cons_succ, i64_w, i32_w]; rfl)
        refine pure_ (i := 19) (N := some 69) (v := ?_) (a' := ?_) #[true,true,true,true,true,false,true,true,false,false,true,true,false,false,true,true,false,false,true,true,false,false,false,false,false,false] rfl rfl (any_of HT_.out (by kernel_rfl)) (fun _ _ _ h => h) (Or.inl ⟨by rfl, ?_⟩) ?_ ?_
        rotate_left; (intro w'; go_simp; with_reducible rfl); rotate_left; (simp only [Act.put, List.setIfInBounds_toArray, List.set_cons_zero, List.set_cons_succ, i64_w, i32_w]; rfl)
        refine take_ (i := 8) (N := some 58) (v := ?_) (a' := ?_) #[true,true,true,true,true,false,true,true,true,false,true,true,false,false,true,true,false,false,true,true,false,false,false,false,false,false] rfl rfl (take_ofW HT_.out HW_.out (by kernel_rfl)) (fun _ _ _ h => h) (Or.inl ⟨by rfl, ?_⟩) hHeld ?_ ?_
        rotate_left
        ·
         rintro w' ⟨s0, s1, s2, s3, s4, s5⟩
         go_simp
         with_reducible rfl
        rotate_left
        ·
         simp only [Act.put, List.setIfInBounds_toArray, List.set_cons_zero, List.set_cons_succ, i64_w, i32_w]
         rfl
        refine take_ (i := 12) (N := some 62) (v := ?_) (a' := ?_) #[true,true,true,true,true,false,true,true,true,false,true,true,true,false,true,true,false,false,true,true,false,false,false,false,false,false] rfl rfl (take_ofW HT_.out HW_.out (by kernel_rfl)) (fun _ _ _ h => h) (Or.inl ⟨by rfl, ?_⟩) hHeld ?_ ?_
        rotate_left
        ·
         rintro w' ⟨s0, s1, s2, s3, s4, s5⟩
         go_simp
         with_reducible rfl
        rotate_left
        ·
         simp only [Act.put, List.setIfInBounds_toArray, List.set_cons_zero, List.set_cons_succ, i64_w, i32_w]
         rfl
        refine take_ (i := 16) (N := some 66) (v := ?_) (a' := ?_) #[true,true,true,true,true,false,true,true,true,false,true,true,true,false,true,true,true,false,true,true,false,false,false,false,false,false] rfl rfl (take_ofW HT_.out HW_.out (by kernel_rfl)) (fun _ _ _ h => h) (Or.inl ⟨by rfl, ?_⟩) hHeld ?_ ?_
        rotate_left
        ·
         rintro w' ⟨s0, s1, s2, s3, s4, s5⟩
         go_simp
         with_reducible rfl
        rotate_left
        ·
         simp only [Act.put, List.setIfInBounds_toArray, List.set_cons_zero, List.set_cons_succ, i64_w, i32_w]
         rfl
        refine take_ (i := 20) (N := some 70) (v := ?_) (a' := ?_) #[true,true,true,true,true,false,true,true,true,false,true,true,true,false,true,true,true,false,true,true,true,false,false,false,false,false] rfl rfl (take_ofW HT_.out HW_.out (by kernel_rfl)) (fun _ _ _ h => h) (Or.inl ⟨by rfl, ?_⟩) hHeld ?_ ?_
        rotate_left
        ·
         rintro w' ⟨s0, s1, s2, s3, s4, s5⟩
         go_simp
         with_reducible rfl
        rotate_left
        ·
         simp only [Act.put, List.setIfInBounds_toArray, List.set_cons_zero, List.set_cons_succ, i64_w, i32_w]
         rfl
        refine one_ (i := 5) (N := some 55) #[true,true,true,true,true,true,true,true,true,false,true,true,true,false,true,true,true,false,true,true,true,false,false,false,false,false] rfl rfl (one_of HT_.out (by kernel_rfl)) (by decide) (fun K hK => ?_)
        refine goes_ Tryd.func20 (by kernel_rfl) rfl #[.pointer (some ⟨g, 0, none⟩), .int .i64 (wrap64 (Int.tdiv a2 2))] (by rfl) rfl rfl (by (try simp only [List.map_toArray, List.map_cons, List.map_nil]); first | done | rfl | (simp only [List.length_drop, List.length_take]; rfl)) ?_
        with_reducible refine (digest_Number.calls (hrG := ?sideG) g s0_0 (wrap64 (Int.tdiv a2 2)) t161 t162 w0 _ ?side1 ?side2 A59.out).mono ?_
        (case sideG => (first | (with_reducible exact HRG.out) | exact TabG.below HRG.out (by repeat (first | (with_reducible first | exact HB.out | apply below_alloc | apply pw_below_drewN | apply below_drew1 | refine below_set ?_ (IsS75.ge HI0.out) | refine below_set ?_ GE147.out) | (with_reducible exact Below.refl _ _)))))
        (case side1 => repeat (first | (with_reducible first | exact HI0.out | apply IsS75.alloc | apply IsS75.drewN | apply IsS75.drew | apply IsS75.set_0 | (focus (refine IsS75.far ?_ ?_ _; rotate_left; (focus ((repeat (first | (with_reducible exact Nsty.of BK147.out rfl) | apply Nsty.set | apply Nsty.drewN | apply Nsty.drew | apply Nsty.alloc)); done))))) | exact HI0.out))
        (case side2 => repeat (first | (with_reducible first | exact HB.out | apply below_alloc | apply pw_below_drewN | apply below_drew1 | refine below_set ?_ (IsS75.ge HI0.out) | refine below_set ?_ GE147.out) | exact HB.out))
        rintro e w71 ⟨rfl, hi, hb, hk⟩
        refine ⟨_, rfl, ?_⟩
        have n0_ := Aside0.mk (KeepSt.blk hk (g' := gb147) (o := .cells #[.bool true, .int .i64 ((rd_T33 l1 a2).f1), .int .i64 ((rd_T33 l1 a2).f2), .int .i64 ((rd_T33 l1 a2).f3), .int .i64 ((rd_T33 l1 a2).f4), .slice A146_5 ((rd_T33 l1 a2).f5).length c146_5] 33 (0, 0)) (by (with_reducible repeat (first | refine blk_drewN ?_ _ | refine blk_drew ?_ | refine blk_alloc ?_ _)); exact BK147.out) NB147_0.out rfl)
        have n1_ := Aside0.mk (KeepSt.trans (by repeat (first | (with_reducible first | exact HK.out | apply KeepSt.drewN | apply KeepSt.drew | apply KeepSt.alloc | refine KeepSt.far ?_ GW147.out _) | exact HK.out)) hk)
        have n2_ := Aside0.mk (hb)
        have n3_ := Aside0.mk (hi)
        clear BK147
        clear HK
        clear HB
        clear HI0
        have BK147 := n0_
        have HK := n1_
        have HB := n2_
        have HI0 := n3_
        clear n0_ n1_ n2_ n3_
        (try clear hb)
        (try clear hb2)
        (try clear hk)
        (try clear hi)
        refine hK.out _ _ ⟨(blk_cell BK147.out 0).trans rfl, (blk_cell BK147.out 1).trans rfl, (blk_cell BK147.out 2).trans rfl, (blk_cell BK147.out 3).trans rfl, (blk_cell BK147.out 4).trans rfl, (blk_cell BK147.out 5).trans rfl⟩ (fun hHeld => ?_)
        clear hK K
        refine norm_ (a' := ?_) ?_ ?_
        rotate_left
        ·
         show Act.put _ (some 55) _ = _
         simp only [Act.put, List.setIfInBounds_toArray, List.set_cons_zero, List.set_cons_succ, i64_w, i32_w]
         rfl
        refine one_ (i := 9) (N := some 59) #[true,true,true,true,true,true,true,true,true,true,true,true,true,false,true,true,true,false,true,true,true,false,false,false,false,false] rfl rfl (one_of HT_.out (by kernel_rfl)) (by decide) (fun K hK => ?_)
        refine goes_ Tryd.func20 (by kernel_rfl) rfl #[.pointer (some ⟨g, 0, none⟩), .int .i64 ((rd_T33 l1 a2).f2)] (by rfl) rfl rfl (by (try simp only [List.map_toArray, List.map_cons, List.map_nil]); first | done | rfl | (simp only [List.length_drop, List.length_take]; rfl)) ?_
        with_reducible refine (digest_Number.calls (hrG := ?sideG) g t162 ((rd_T33 l1 a2).f2) t163 t164 w0 _ ?side1 ?side2 A60.out).mono ?_
        (case sideG => (first | (with_reducible exact HRG.out) | exact TabG.below HRG.out (by repeat (first | (with_reducible first | exact HB.out | apply below_alloc | apply pw_below_drewN | apply below_drew1 | refine below_set ?_ (IsS75.ge HI0.out) | refine below_set ?_ GE147.out) | (with_reducible exact Below.refl _ _)))))
        (case side1 => repeat (first | (with_reducible first | exact HI0.out | apply IsS75.alloc | apply IsS75.drewN | apply IsS75.drew | apply IsS75.set_0 | (focus (refine IsS75.far ?_ ?_ _; rotate_left; (focus ((repeat (first | (with_reducible exact Nsty.of BK147.out rfl) | apply Nsty.set | apply Nsty.drewN | apply Nsty.drew | apply Nsty.alloc)); done))))) | exact HI0.out))
        (case side2 => repeat (first | (with_reducible first | exact HB.out | apply below_alloc | apply pw_below_drewN | apply below_drew1 | refine below_set ?_ (IsS75.ge HI0.out) | refine below_set ?_ GE147.out) | exact HB.out))
        rintro e w72 ⟨rfl, hi, hb, hk⟩
        refine ⟨_, rfl, ?_⟩
        have n0_ := Aside0.mk (KeepSt.blk hk (g' := gb147) (o := .cells #[.bool true, .int .i64 ((rd_T33 l1 a2).f1), .int .i64 ((rd_T33 l1 a2).f2), .int .i64 ((rd_T33 l1 a2).f3), .int .i64 ((rd_T33 l1 a2).f4), .slice A146_5 ((rd_T33 l1 a2).f5).length c146_5] 33 (0, 0)) (by (with_reducible repeat (first | refine blk_drewN ?_ _ | refine blk_drew ?_ | refine blk_alloc ?_ _)); exact BK147.out) NB147_0.out rfl)
        have n1_ := Aside0.mk (KeepSt.trans (by repeat (first | (with_reducible first | exact HK.out | apply KeepSt.drewN | apply KeepSt.drew | apply KeepSt.alloc | refine KeepSt.far ?_ GW147.out _) | exact HK.out)) hk)
        have n2_ := Aside0.mk (hb)
        have n3_ := Aside0.mk (hi)
        clear BK147
        clear HK
        clear HB
        clear HI0
        have BK147 := n0_
        have HK := n1_
        have HB := n2_
        have HI0 := n3_
        clear n0_ n1_ n2_ n3_
        (try clear hb)
        (try clear hb2)
        (try clear hk)
        (try clear hi)
        refine hK.out _ _ ⟨(blk_cell BK147.out 0).trans rfl, (blk_cell BK147.out 1).trans rfl, (blk_cell BK147.out 2).trans rfl, (blk_cell BK147.out 3).trans rfl, (blk_cell BK147.out 4).trans rfl, (blk_cell BK147.out 5).trans rfl⟩ (fun hHeld => ?_)
        clear hK K
        refine norm_ (a' := ?_) ?_ ?_
        rotate_left
        ·
         show Act.put _ (some 59) _ = _
         simp only [Act.put, List.setIfInBounds_toArray, List.set_cons_zero, List.set_cons_succ, i64_w, i32_w]
         rfl
        refine one_ (i := 13) (N := some 63) #[true,true,true,true,true,true,true,true,true,true,true,true,true,true,true,true,true,false,true,true,true,false,false,false,false,false] rfl rfl (one_of HT_.out (by kernel_rfl)) (by decide) (fun K hK => ?_)
        refine goes_ Tryd.func41 (by kernel_rfl) rfl #[.pointer (some ⟨g, 0, none⟩), .int .i64 ((rd_T33 l1 a2).f1)] (by rfl) rfl rfl (by (try simp only [List.map_toArray, List.map_cons, List.map_nil]); first | done | rfl | (simp only [List.length_drop, List.length_take]; rfl)) ?_
        with_reducible refine (digest_some.calls g t164 ((rd_T33 l1 a2).f1) t165 t166 w0 _ ?side1 ?side2 A61.out).mono ?_
        (case side1 => repeat (first | (with_reducible first | exact HI0.out | apply IsS75.alloc | apply IsS75.drewN | apply IsS75.drew | apply IsS75.set_0 | (focus (refine IsS75.far ?_ ?_ _; rotate_left; (focus ((repeat (first | (with_reducible exact Nsty.of BK147.out rfl) | apply Nsty.set | apply Nsty.drewN | apply Nsty.drew | apply Nsty.alloc)); done))))) | exact HI0.out))
        (case side2 => repeat (first | (with_reducible first | exact HB.out | apply below_alloc | apply pw_below_drewN | apply below_drew1 | refine below_set ?_ (IsS75.ge HI0.out) | refine below_set ?_ GE147.out) | exact HB.out))
        rintro e w73 ⟨rfl, hi, hb, hk⟩
        refine ⟨_, rfl, ?_⟩
        have n0_ := Aside0.mk (KeepSt.blk hk (g' := gb147) (o := .cells #[.bool true, .int .i64 ((rd_T33 l1 a2).f1), .int .i64 ((rd_T33 l1 a2).f2), .int .i64 ((rd_T33 l1 a2).f3), .int .i64 ((rd_T33 l1 a2).f4), .slice A146_5 ((rd_T33 l1 a2).f5).length c146_5] 33 (0, 0)) (by (with_reducible repeat (first | refine blk_drewN ?_ _ | refine blk_drew ?_ | refine blk_alloc ?_ _)); exact BK147.out) NB147_0.out rfl)
        have n1_ := Aside0.mk (KeepSt.trans (by repeat (first | (with_reducible first | exact HK.out | apply KeepSt.drewN | apply KeepSt.drew | apply KeepSt.alloc | refine KeepSt.far ?_ GW147.out _) | exact HK.out)) hk)
        have n2_ := Aside0.mk (hb)
        have n3_ := Aside0.mk (hi)
        clear BK147
        clear HK
        clear HB
        clear HI0
        have BK147 := n0_
        have HK := n1_
        have HB := n2_
        have HI0 := n3_
        clear n0_ n1_ n2_ n3_
        (try clear hb)
        (try clear hb2)
        (try clear hk)
        (try clear hi)
        refine hK.out _ _ ⟨(blk_cell BK147.out 0).trans rfl, (blk_cell BK147.out 1).trans rfl, (blk_cell BK147.out 2).trans rfl, (blk_cell BK147.out 3).trans rfl, (blk_cell BK147.out 4).trans rfl, (blk_cell BK147.out 5).trans rfl⟩ (fun hHeld => ?_)
        clear hK K
        refine norm_ (a' := ?_) ?_ ?_
        rotate_left
        ·
         show Act.put _ (some 63) _ = _
         simp only [Act.put, List.setIfInBounds_toArray, List.set_cons_zero, List.set_cons_succ, i64_w, i32_w]
         rfl
        refine one_ (i := 17) (N := some 67) #[true,true,true,true,true,true,true,true,true,true,true,true,true,true,true,true,true,true,true,true,true,false,false,false,false,false] rfl rfl (one_of HT_.out (by kernel_rfl)) (by decide) (fun K hK => ?_)
        refine goes_ Tryd.func41 (by kernel_rfl) rfl #[.pointer (some ⟨g, 0, none⟩), .int .i64 ((rd_T33 l1 a2).f3)] (by rfl) rfl rfl (by (try simp only [List.map_toArray, List.map_cons, List.map_nil]); first | done | rfl | (simp only [List.length_drop, List.length_take]; rfl)) ?_
        with_reducible refine (digest_some.calls g t166 ((rd_T33 l1 a2).f3) t167 t168 w0 _ ?side1 ?side2 A62.out).mono ?_
        (case side1 => repeat (first | (with_reducible first | exact HI0.out | apply IsS75.alloc | apply IsS75.drewN | apply IsS75.drew | apply IsS75.set_0 | (focus (refine IsS75.far ?_ ?_ _; rotate_left; (focus ((repeat (first | (with_reducible exact Nsty.of BK147.out rfl) | apply Nsty.set | apply Nsty.drewN | apply Nsty.drew | apply Nsty.alloc)); done))))) | exact HI0.out))
        (case side2 => repeat (first | (with_reducible first | exact HB.out | apply below_alloc | apply pw_below_drewN | apply below_drew1 | refine below_set ?_ (IsS75.ge HI0.out) | refine below_set ?_ GE147.out) | exact HB.out))
        rintro e w74 ⟨rfl, hi, hb, hk⟩
        refine ⟨_, rfl, ?_⟩
        have n0_ := Aside0.mk (KeepSt.blk hk (g' := gb147) (o := .cells #[.bool true, .int .i64 ((rd_T33 l1 a2).f1), .int .i64 ((rd_T33 l1 a2).f2), .int .i64 ((rd_T33 l1 a2).f3), .int .i64 ((rd_T33 l1 a2).f4), .slice A146_5 ((rd_T33 l1 a2).f5).length c146_5] 33 (0, 0)) (by (with_reducible repeat (first | refine blk_drewN ?_ _ | refine blk_drew ?_ | refine blk_alloc ?_ _)); exact BK147.out) NB147_0.out rfl)
        have n1_ := Aside0.mk (KeepSt.trans (by repeat (first | (with_reducible first | exact HK.out | apply KeepSt.drewN | apply KeepSt.drew | apply KeepSt.alloc | refine KeepSt.far ?_ GW147.out _) | exact HK.out)) hk)
        have n2_ := Aside0.mk (hb)
        have n3_ := Aside0.mk (hi)
        clear BK147
        clear HK
        clear HB
        clear HI0
        have BK147 := n0_
        have HK := n1_
        have HB := n2_
        have HI0 := n3_
        clear n0_ n1_ n2_ n3_
        (try clear hb)
        (try clear hb2)
        (try clear hk)
        (try clear hi)
        refine hK.out _ _ ⟨(blk_cell BK147.out 0).trans rfl, (blk_cell BK147.out 1).trans rfl, (blk_cell BK147.out 2).trans rfl, (blk_cell BK147.out 3).trans rfl, (blk_cell BK147.out 4).trans rfl, (blk_cell BK147.out 5).trans rfl⟩ (fun hHeld => ?_)
        clear hK K
        refine norm_ (a' := ?_) ?_ ?_
        rotate_left
        ·
         show Act.put _ (some 67) _ = _
         simp only [Act.put, List.setIfInBounds_toArray, List.set_cons_zero, List.set_cons_succ, i64_w, i32_w]
         rfl
        refine one_ (i := 21) (N := some 71) #[true,true,true,true,true,true,true,true,true,true,true,true,true,true,true,true,true,true,true,true,true,true,false,false,false,false] rfl rfl (one_of HT_.out (by kernel_rfl)) (by decide) (fun K hK => ?_)
        refine goes_ Tryd.func41 (by kernel_rfl) rfl #[.pointer (some ⟨g, 0, none⟩), .int .i64 ((rd_T33 l1 a2).f4)] (by rfl) rfl rfl (by (try simp only [List.map_toArray, List.map_cons, List.map_nil]); first | done | rfl | (simp only [List.length_drop, List.length_take]; rfl)) ?_
        with_reducible refine (digest_some.calls g t168 ((rd_T33 l1 a2).f4) t169 t170 w0 _ ?side1 ?side2 A63.out).mono ?_
        (case side1 => repeat (first | (with_reducible first | exact HI0.out | apply IsS75.alloc | apply IsS75.drewN | apply IsS75.drew | apply IsS75.set_0 | (focus (refine IsS75.far ?_ ?_ _; rotate_left; (focus ((repeat (first | (with_reducible exact Nsty.of BK147.out rfl) | apply Nsty.set | apply Nsty.drewN | apply Nsty.drew | apply Nsty.alloc)); done))))) | exact HI0.out))
        (case side2 => repeat (first | (with_reducible first | exact HB.out | apply below_alloc | apply pw_below_drewN | apply below_drew1 | refine below_set ?_ (IsS75.ge HI0.out) | refine below_set ?_ GE147.out) | exact HB.out))
        rintro e w75 ⟨rfl, hi, hb, hk⟩
        refine ⟨_, rfl, ?_⟩
        have n0_ := Aside0.mk (KeepSt.blk hk (g' := gb147) (o := .cells #[.bool true, .int .i64 ((rd_T33 l1 a2).f1), .int .i64 ((rd_T33 l1 a2).f2), .int .i64 ((rd_T33 l1 a2).f3), .int .i64 ((rd_T33 l1 a2).f4), .slice A146_5 ((rd_T33 l1 a2).f5).length c146_5] 33 (0, 0)) (by (with_reducible repeat (first | refine blk_drewN ?_ _ | refine blk_drew ?_ | refine blk_alloc ?_ _)); exact BK147.out) NB147_0.out rfl)
        have n1_ := Aside0.mk (KeepSt.trans (by repeat (first | (with_reducible first | exact HK.out | apply KeepSt.drewN | apply KeepSt.drew | apply KeepSt.alloc | refine KeepSt.far ?_ GW147.out _) | exact HK.out)) hk)
        have n2_ := Aside0.mk (hb)
        have n3_ := Aside0.mk (hi)
        clear BK147
        clear HK
        clear HB
        clear HI0
        have BK147 := n0_
        have HK := n1_
        have HB := n2_
        have HI0 := n3_
        clear n0_ n1_ n2_ n3_
        (try clear hb)
        (try clear hb2)
        (try clear hk)
        (try clear hi)
        refine hK.out _ _ ⟨(blk_cell BK147.out 0).trans rfl, (blk_cell BK147.out 1).trans rfl, (blk_cell BK147.out 2).trans rfl, (blk_cell BK147.out 3).trans rfl, (blk_cell BK147.out 4).trans rfl, (blk_cell BK147.out 5).trans rfl⟩ (fun hHeld => ?_)
        clear hK K
        refine norm_ (a' := ?_) ?_ ?_
        rotate_left
        ·
         show Act.put _ (some 71) _ = _
         simp only [Act.put, List.setIfInBounds_toArray, List.set_cons_zero, List.set_cons_succ, i64_w, i32_w]
         rfl
        refine one_ (i := 22) (N := some 72) #[true,true,true,true,true,true,true,true,true,true,true,true,true,true,true,true,true,true,true,true,true,true,true,false,false,false] rfl rfl (one_of HT_.out (by kernel_rfl)) (by decide) (fun K hK => ?_)
        refine Kd.R_lit_step (Kd.int .i64) _ 3 ?hg (N := 72) ?hd (xs := ([t161, t163, t165, t167, t169] : List Int)) (inner := [.int .i64 t161, .int .i64 t163, .int .i64 t165, .int .i64 t167, .int .i64 t169]) (ok := fun _ => True) (okp := fun _ => True) ?hr ?hp (fun _ hk => hk) trivial (Below.refl _ _) (Nat.le_refl _) (by simp) ?_; (case hd => rfl); (case hg => rfl); (case hr => first | (go_simp; done) | (go_simp; rfl)); (case hp => exact (Reps.one (show Kd.M (Kd.int .i64) _ _ _ t161 [.int .i64 t161] from rfl) (Reps.one (show Kd.M (Kd.int .i64) _ _ _ t163 [.int .i64 t163] from rfl) (Reps.one (show Kd.M (Kd.int .i64) _ _ _ t165 [.int .i64 t165] from rfl) (Reps.one (show Kd.M (Kd.int .i64) _ _ _ t167 [.int .i64 t167] from rfl) (Reps.one (show Kd.M (Kd.int .i64) _ _ _ t169 [.int .i64 t169] from rfl) (Reps.none _ _)))))))
        intro v172 w76 ho77 hb hg_ hnew_
        clear hg_ hnew_
        (first | rw [← Ny171.out] at ho77 | (simp only [Int.reduceToNat] at ho77; rw [← Ny171.out] at ho77))
        have n0_ := Aside0.mk (Kd.R_lower ho77 (KeepSt.size (w := w) (w0 := w0) (by repeat (first | (with_reducible first | exact HK.out | apply KeepSt.drewN | apply KeepSt.drew | apply KeepSt.alloc | refine KeepSt.far ?_ GW147.out _) | exact HK.out))))
        have n1_ := Aside0.mk (IsS75.below (by repeat (first | (with_reducible first | exact HI0.out | apply IsS75.alloc | apply IsS75.drewN | apply IsS75.drew | apply IsS75.set_0 | (focus (refine IsS75.far ?_ ?_ _; rotate_left; (focus ((repeat (first | (with_reducible exact Nsty.of BK147.out rfl) | apply Nsty.set | apply Nsty.drewN | apply Nsty.drew | apply Nsty.alloc)); done))))) | exact HI0.out)) hb)
        have n2_ := Aside0.mk (blk_below (g := gb147) (o := .cells #[.bool true, .int .i64 ((rd_T33 l1 a2).f1), .int .i64 ((rd_T33 l1 a2).f2), .int .i64 ((rd_T33 l1 a2).f3), .int .i64 ((rd_T33 l1 a2).f4), .slice A146_5 ((rd_T33 l1 a2).f5).length c146_5] 33 (0, 0)) (by (with_reducible repeat (first | refine blk_drewN ?_ _ | refine blk_drew ?_ | refine blk_alloc ?_ _)); exact BK147.out) hb)
        have n3_ := Aside0.mk (KeepSt.trans (by repeat (first | (with_reducible first | exact HK.out | apply KeepSt.drewN | apply KeepSt.drew | apply KeepSt.alloc | refine KeepSt.far ?_ GW147.out _) | exact HK.out)) (KeepSt.of_below hb w0))
        have n4_ := Aside0.mk (below_step (by repeat (first | (with_reducible first | exact HB.out | apply below_alloc | apply pw_below_drewN | apply below_drew1 | refine below_set ?_ (IsS75.ge HI0.out) | refine below_set ?_ GE147.out) | exact HB.out)) hb)
        clear HI0
        clear BK147
        clear HK
        clear HB
        have HO173 := n0_
        have HI0 := n1_
        have BK147 := n2_
        have HK := n3_
        have HB := n4_
        clear n0_ n1_ n2_ n3_ n4_
        clear hb ho77
        obtain ⟨Ao78, co78, eo78⟩ := Kd.R_slice HO173.out
        (first | subst eo78 | (injection eo78 with f1_ f2_ f3_; have f4_ := f1_.symm; have f5_ := f3_.symm; clear f1_ f2_ f3_; subst f4_; subst f5_))
        refine hK.out _ _ ⟨(blk_cell BK147.out 0).trans rfl, (blk_cell BK147.out 1).trans rfl, (blk_cell BK147.out 2).trans rfl, (blk_cell BK147.out 3).trans rfl, (blk_cell BK147.out 4).trans rfl, (blk_cell BK147.out 5).trans rfl⟩ (fun hHeld => ?_)
        clear hK K
        refine norm_ (a' := ?_) ?_ ?_
        rotate_left
        ·
         show Act.put _ (some 72) _ = _
         simp only [Act.put, List.setIfInBounds_toArray, List.set_cons_zero, List.set_cons_succ, i64_w, i32_w]
         rfl
        refine one_ (i := 23) (N := some 73) #[true,true,true,true,true,true,true,true,true,true,true,true,true,true,true,true,true,true,true,true,true,true,true,true,false,false] rfl rfl (one_of HT_.out (by kernel_rfl)) (by decide) (fun K hK => ?_)
        refine goes_ Tryd.func34 (by kernel_rfl) rfl #[.pointer (some ⟨g, 0, none⟩), .slice Ao78 y171.length co78] (by rfl) rfl rfl (by (try simp only [List.map_toArray, List.map_cons, List.map_nil]); first | done | rfl | (simp only [List.length_drop, List.length_take]; rfl)) ?_
        with_reducible refine (term_Store_List.calls kj3 g t170 _ _ y171 t174 t175 w0 _ ?side1 ?side2 ?side3 ?side4 ?side5 A64.out).mono ?_
        (case side1 => repeat (first | (with_reducible first | exact HI0.out | apply IsS75.alloc | apply IsS75.drewN | apply IsS75.drew | apply IsS75.set_0 | (focus (refine IsS75.far ?_ ?_ _; rotate_left; (focus ((repeat (first | (with_reducible exact Nsty.of BK147.out rfl) | apply Nsty.set | apply Nsty.drewN | apply Nsty.drew | apply Nsty.alloc)); done))))) | exact HI0.out))
        (case side2 => repeat (first | (with_reducible first | exact HB.out | apply below_alloc | apply pw_below_drewN | apply below_drew1 | refine below_set ?_ (IsS75.ge HI0.out) | refine below_set ?_ GE147.out) | exact HB.out))
        (case side3 => repeat (first | exact (Kd.R_reads' HO173.out).2.2 | (with_reducible refine Kd.C_alloc ?_ _) | (with_reducible refine Kd.C_drewN ?_ _) | (with_reducible refine Kd.C_drew ?_)))
        (case side4 => exact (Kd.R_reads' HO173.out).2.1)
        (case side5 => exact Kd.far_R (by (with_reducible repeat (first | apply Kd.R_alloc | apply Kd.R_drewN | apply Kd.R_drew)); exact HO173.out) (by decide))
        rintro e w79 ⟨rfl, hi, hb, hk⟩
        refine ⟨_, rfl, ?_⟩
        have n0_ := Aside0.mk (KeepSt.blk hk (g' := gb147) (o := .cells #[.bool true, .int .i64 ((rd_T33 l1 a2).f1), .int .i64 ((rd_T33 l1 a2).f2), .int .i64 ((rd_T33 l1 a2).f3), .int .i64 ((rd_T33 l1 a2).f4), .slice A146_5 ((rd_T33 l1 a2).f5).length c146_5] 33 (0, 0)) (by (with_reducible repeat (first | refine blk_drewN ?_ _ | refine blk_drew ?_ | refine blk_alloc ?_ _)); exact BK147.out) NB147_0.out rfl)
        have n1_ := Aside0.mk (Kd.R_mono (Kd.R_keepSt (IsS75.apart (show IsS75 w0 _ g t170 from by repeat (first | (with_reducible first | exact HI0.out | apply IsS75.alloc | apply IsS75.drewN | apply IsS75.drew | apply IsS75.set_0 | (focus (refine IsS75.far ?_ ?_ _; rotate_left; (focus ((repeat (first | (with_reducible exact Nsty.of BK147.out rfl) | apply Nsty.set | apply Nsty.drewN | apply Nsty.drew | apply Nsty.alloc)); done))))) | exact HI0.out)) (by (with_reducible repeat (first | apply Kd.R_alloc | apply Kd.R_drewN | apply Kd.R_drew)); exact HO173.out) (by decide)) hk (fun _ h => h.2)) (fun _ h => h.1))
        have n2_ := Aside0.mk (KeepSt.trans (by repeat (first | (with_reducible first | exact HK.out | apply KeepSt.drewN | apply KeepSt.drew | apply KeepSt.alloc | refine KeepSt.far ?_ GW147.out _) | exact HK.out)) hk)
        have n3_ := Aside0.mk (hb)
        have n4_ := Aside0.mk (hi)
        clear BK147
        clear HO173
        clear HK
        clear HB
        clear HI0
        have BK147 := n0_
        have HO173 := n1_
        have HK := n2_
        have HB := n3_
        have HI0 := n4_
        clear n0_ n1_ n2_ n3_ n4_
        (try clear hb)
        (try clear hb2)
        (try clear hk)
        (try clear hi)
        refine hK.out _ _ ⟨(blk_cell BK147.out 0).trans rfl, (blk_cell BK147.out 1).trans rfl, (blk_cell BK147.out 2).trans rfl, (blk_cell BK147.out 3).trans rfl, (blk_cell BK147.out 4).trans rfl, (blk_cell BK147.out 5).trans rfl⟩ (fun hHeld => ?_)
        clear hK K
        refine norm_ (a' := ?_) ?_ ?_
        rotate_left
        ·
         show Act.put _ (some 73) _ = _
         simp only [Act.put, List.setIfInBounds_toArray, List.set_cons_zero, List.set_cons_succ, i64_w, i32_w]
         rfl
        refine one_ (i := 24) (N := some 74) #[true,true,true,true,true,true,true,true,true,true,true,true,true,true,true,true,true,true,true,true,true,true,true,true,true,false] rfl rfl (one_of HT_.out (by kernel_rfl)) (by decide) (fun K hK => ?_)
        refine goes_ Tryd.func33 (by kernel_rfl) rfl #[.pointer (some ⟨g, 0, none⟩), .string (⟨#[108, 101, 97, 102]⟩ : ByteArray), .int .i64 t174] (by rfl) rfl rfl (by (try simp only [List.map_toArray, List.map_cons, List.map_nil]); first | done | rfl | (simp only [List.length_drop, List.length_take]; rfl)) ?_
        with_reducible refine (term_Store_Hash.calls g t175 (⟨#[108, 101, 97, 102]⟩ : ByteArray) t174 t176 t177 w0 _ ?side1 ?side2 A65.out).mono ?_
        (case side1 => repeat (first | (with_reducible first | exact HI0.out | apply IsS75.alloc | apply IsS75.drewN | apply IsS75.drew | apply IsS75.set_0 | (focus (refine IsS75.far ?_ ?_ _; rotate_left; (focus ((repeat (first | (with_reducible exact Nsty.of BK147.out rfl) | apply Nsty.set | apply Nsty.drewN | apply Nsty.drew | apply Nsty.alloc)); done))))) | exact HI0.out))
        (case side2 => repeat (first | (with_reducible first | exact HB.out | apply below_alloc | apply pw_below_drewN | apply below_drew1 | refine below_set ?_ (IsS75.ge HI0.out) | refine below_set ?_ GE147.out) | exact HB.out))
        rintro e w80 ⟨rfl, hi, hb, hk⟩
        refine ⟨_, rfl, ?_⟩
        have n0_ := Aside0.mk (KeepSt.blk hk (g' := gb147) (o := .cells #[.bool true, .int .i64 ((rd_T33 l1 a2).f1), .int .i64 ((rd_T33 l1 a2).f2), .int .i64 ((rd_T33 l1 a2).f3), .int .i64 ((rd_T33 l1 a2).f4), .slice A146_5 ((rd_T33 l1 a2).f5).length c146_5] 33 (0, 0)) (by (with_reducible repeat (first | refine blk_drewN ?_ _ | refine blk_drew ?_ | refine blk_alloc ?_ _)); exact BK147.out) NB147_0.out rfl)
        have n1_ := Aside0.mk (Kd.R_mono (Kd.R_keepSt (IsS75.apart (show IsS75 w0 _ g t175 from by repeat (first | (with_reducible first | exact HI0.out | apply IsS75.alloc | apply IsS75.drewN | apply IsS75.drew | apply IsS75.set_0 | (focus (refine IsS75.far ?_ ?_ _; rotate_left; (focus ((repeat (first | (with_reducible exact Nsty.of BK147.out rfl) | apply Nsty.set | apply Nsty.drewN | apply Nsty.drew | apply Nsty.alloc)); done))))) | exact HI0.out)) (by (with_reducible repeat (first | apply Kd.R_alloc | apply Kd.R_drewN | apply Kd.R_drew)); exact HO173.out) (by decide)) hk (fun _ h => h.2)) (fun _ h => h.1))
        have n2_ := Aside0.mk (KeepSt.trans (by repeat (first | (with_reducible first | exact HK.out | apply KeepSt.drewN | apply KeepSt.drew | apply KeepSt.alloc | refine KeepSt.far ?_ GW147.out _) | exact HK.out)) hk)
        have n3_ := Aside0.mk (hb)
        have n4_ := Aside0.mk (hi)
        clear BK147
        clear HO173
        clear HK
        clear HB
        clear HI0
        have BK147 := n0_
        have HO173 := n1_
        have HK := n2_
        have HB := n3_
        have HI0 := n4_
        clear n0_ n1_ n2_ n3_ n4_
        (try clear hb)
        (try clear hb2)
        (try clear hk)
        (try clear hi)
        refine hK.out _ _ ⟨(blk_cell BK147.out 0).trans rfl, (blk_cell BK147.out 1).trans rfl, (blk_cell BK147.out 2).trans rfl, (blk_cell BK147.out 3).trans rfl, (blk_cell BK147.out 4).trans rfl, (blk_cell BK147.out 5).trans rfl⟩ (fun hHeld => ?_)
        clear hK K
        refine norm_ (a' := ?_) ?_ ?_
        rotate_left
        ·
         show Act.put _ (some 74) _ = _
         simp only [Act.put, List.setIfInBounds_toArray, List.set_cons_zero, List.set_cons_succ, i64_w, i32_w]
         rfl
        refine pure_ (i := 25) (N := some 6) (v := ?_) (a' := ?_) #[true,true,true,true,true,true,true,true,true,true,true,true,true,true,true,true,true,true,true,true,true,true,true,true,true,true] rfl rfl (any_of HT_.out (by kernel_rfl)) (fun _ _ _ h => h) (Or.inl ⟨by rfl, ?_⟩) ?_ ?_
        rotate_left; (intro w'; go_simp; with_reducible rfl); rotate_left; (simp only [Act.put, List.setIfInBounds_toArray, List.set_cons_zero, List.set_cons_succ, i64_w, i32_w]; rfl)
        refine done_ (done_of HT_.out (by kernel_rfl)) ?_
        try go_wp2
        go_ret
        exact ⟨by first | rfl | (simp [errW_none, errW_some] <;> rfl) | (simp [*, errW_none, errW_some] <;> rfl), by repeat (first | (with_reducible first | exact HI0.out | apply IsS75.alloc | apply IsS75.drewN | apply IsS75.drew | apply IsS75.set_0 | (focus (refine IsS75.far ?_ ?_ _; rotate_left; (focus ((repeat (first | (with_reducible exact Nsty.of BK147.out rfl) | apply Nsty.set | apply Nsty.drewN | apply Nsty.drew | apply Nsty.alloc)); done))))) | exact HI0.out), by repeat (first | (with_reducible first | exact HB.out | apply below_alloc | apply pw_below_drewN | apply below_drew1 | refine below_set ?_ (IsS75.ge HI0.out) | refine below_set ?_ GE147.out) | exact HB.out), by repeat (first | (with_reducible first | exact HK.out | apply KeepSt.drewN | apply KeepSt.drew | apply KeepSt.alloc | refine KeepSt.far ?_ GW147.out _) | exact HK.out)⟩
       ·
        replace c58 := Bool.eq_false_iff.mpr c58
        subst c58
        have H1 : ((digest_Number.f s0_0 (wrap64 (Int.tdiv a2 2))).bind fun bt152 => ((term_Store_List.f kj3 bt152.2 (([bt152.1] : List Int))).bind fun bt157 => ((term_Store_Hash.f bt157.2 (⟨#[108, 101, 97, 102]⟩ : ByteArray) bt157.1).bind fun bt159 => (some (bt159.1, bt159.2))))) = some (r1, r2) := by rw [if_neg (show ¬ (false = true) by decide)] at H; exact H
        clear H
        have H := H1
        clear H1
        replace H := Option.bind_eq_some_iff.mp H
        obtain ⟨⟨t152, t153⟩, A810, H⟩ := H
        replace H : ((term_Store_List.f kj3 t153 (([t152] : List Int))).bind fun bt157 => ((term_Store_Hash.f bt157.2 (⟨#[108, 101, 97, 102]⟩ : ByteArray) bt157.1).bind fun bt159 => (some (bt159.1, bt159.2)))) = some (r1, r2) := H
        have A81 := Aside0.mk A810
        clear A810
        obtain ⟨y154, hy154⟩ : ∃ y_ : List Int, y_ = (([t152] : List Int)) := ⟨_, rfl⟩
        replace H : ((term_Store_List.f kj3 t153 y154).bind fun bt157 => ((term_Store_Hash.f bt157.2 (⟨#[108, 101, 97, 102]⟩ : ByteArray) bt157.1).bind fun bt159 => (some (bt159.1, bt159.2)))) = some (r1, r2) := by first | (rw [hy154]; with_reducible exact H) | (have H2_ := (Option.bind_some _ _).symm.trans H; rw [hy154]; with_reducible exact H2_) | (have H2_ := (Option.bind_some _ _).symm.trans H; with_reducible exact H2_) | with_reducible exact H | (rw [hy154]; exact H) | exact H
        have Ny154 := Aside0.mk hy154
        clear hy154
        replace H := Option.bind_eq_some_iff.mp H
        obtain ⟨⟨t157, t158⟩, A820, H⟩ := H
        replace H : ((term_Store_Hash.f t158 (⟨#[108, 101, 97, 102]⟩ : ByteArray) t157).bind fun bt159 => (some (bt159.1, bt159.2))) = some (r1, r2) := H
        have A82 := Aside0.mk A820
        clear A820
        replace H := Option.bind_eq_some_iff.mp H
        obtain ⟨⟨t159, t160⟩, A830, H⟩ := H
        replace H : (some (t159, t160)) = some (r1, r2) := H
        have A83 := Aside0.mk A830
        clear A830
        simp only [Option.some.injEq, Prod.mk.injEq] at H
        obtain ⟨rfl, rfl⟩ := H
        have p146 : 0 ≤ (a2 : Int) := of_decide_eq_true (by first | (with_reducible assumption) | assumption)
        have q146 : a2 < (l1.length : Int) := of_decide_eq_true (by first | (with_reducible assumption) | assumption)
        obtain ⟨ad146, A146_5, c146_5, e146, hx146_0, hx146_1, hx146_2, hx146_3, hx146_4, hx146_5, hl146_5, hi146_5⟩ := at_T33 (Kd.C_footSt_now HR1.out HK.out) a2 p146 q146
        have HF146_5 := Aside0.mk (foot_inner33 HR1.out HK.out p146 q146 e146 hx146_5)
        (try rw [← Nbq57.out] at hx146_0)
        cases e146
        have HR146_5 := Aside0.mk hi146_5
        have HC146_5 := Aside0.mk hl146_5
        clear hi146_5 hl146_5
        replace p146 := eq_true p146
        replace q146 := eq_true q146
        go_wp2_with (first | ((with_reducible refine gate_dst (N := 7) rfl ?_); (try (refine gate_guard (by rfl) ?_; dsimp only)); refine box_event ?hg (N := 7) ?hd (cs := #[.bool false, .int .i64 0, .int .i64 0, .int .i64 0, .int .i64 0, .slice none 0 0]) (t := 33) ?hr ?_; (case hd => rfl); (case hg => rfl); (case hr => first | (go_simp; done) | (go_simp; rfl)); intro gb147 hg w84 hbox hb; have n0_ := Aside0.mk (IsS75.below (by repeat (first | (with_reducible first |exact HI0.out |apply IsS75.alloc |apply IsS75.drewN |apply IsS75.drew |apply IsS75.set_0) |exact HI0.out)) hb); have n1_ := Aside0.mk (Kd.C_below (by repeat (first | (with_reducible exact HR146_5.out) | (with_reducible refine Kd.C_alloc ?_ _) | (with_reducible refine Kd.C_drewN ?_ _) | (with_reducible refine Kd.C_drew ?_) |exact HR146_5.out)) hb); have n2_ := Aside0.mk (KeepSt.trans (by repeat (first | (with_reducible first |exact HK.out |apply KeepSt.drewN |apply KeepSt.drew |apply KeepSt.alloc) |exact HK.out)) (KeepSt.of_below hb w0)); have n3_ := Aside0.mk (below_step (by repeat (first | (with_reducible first |exact HB.out |apply below_alloc |apply pw_below_drewN |apply below_drew1 |refine below_set ?_ (IsS75.ge HI0.out)) |exact HB.out)) hb); have n4_ := Aside0.mk (hbox); have n5_ := Aside0.mk ((by rw [hg]; exact (KeepSt.size (w := w) (w0 := w0) (by repeat (first | (with_reducible first |exact HK.out |apply KeepSt.drewN |apply KeepSt.drew |apply KeepSt.alloc) |exact HK.out))) : w.heap.size ≤ gb147)); have n6_ := Aside0.mk ((Nat.le_trans HW0.out (by rw [hg]; exact (KeepSt.size (w := w) (w0 := w0) (by repeat (first | (with_reducible first |exact HK.out |apply KeepSt.drewN |apply KeepSt.drew |apply KeepSt.alloc) |exact HK.out))) : w.heap.size ≤ gb147) : w0.heap.size ≤ gb147)); have n7_ := Aside0.mk ((by rw [hg]; exact Nat.ne_of_lt (IsS75.lt (show IsS75 w0 _ g s0_0 from by repeat (first | (with_reducible first |exact HI0.out |apply IsS75.alloc |apply IsS75.drewN |apply IsS75.drew |apply IsS75.set_0) |exact HI0.out))) : g ≠ gb147)); have n8_ := Aside0.mk ((by rw [hg]; exact Nat.ne_of_gt (IsS75.lt (show IsS75 w0 _ g s0_0 from by repeat (first | (with_reducible first |exact HI0.out |apply IsS75.alloc |apply IsS75.drewN |apply IsS75.drew |apply IsS75.set_0) |exact HI0.out))) : gb147 ≠ g)); clear HI0; clear HR146_5; clear HK; clear HB; have HI0 := n0_; have HR146_5 := n1_; have HK := n2_; have HB := n3_; have BK147 := n4_; have GW147 := n5_; have GE147 := n6_; have NB0_147 := n7_; have NB147_0 := n8_; clear n0_ n1_ n2_ n3_ n4_ n5_ n6_ n7_ n8_; clear hb hbox hg; have hnb85 := NB147_0.out; have hnc85 := NB0_147.out; have hcz86_0 : w84.cell? ⟨gb147, 0, none⟩ = some (.bool false) := (blk_cell BK147.out 0).trans rfl; have hcz86_1 : w84.cell? ⟨gb147, 1, none⟩ = some (.int .i64 0) := (blk_cell BK147.out 1).trans rfl; have hcz86_2 : w84.cell? ⟨gb147, 2, none⟩ = some (.int .i64 0) := (blk_cell BK147.out 2).trans rfl; have hcz86_3 : w84.cell? ⟨gb147, 3, none⟩ = some (.int .i64 0) := (blk_cell BK147.out 3).trans rfl; have hcz86_4 : w84.cell? ⟨gb147, 4, none⟩ = some (.int .i64 0) := (blk_cell BK147.out 4).trans rfl; have hcz86_5 : w84.cell? ⟨gb147, 5, none⟩ = some (.slice none 0 0) := (blk_cell BK147.out 5).trans rfl; have hfz86_0 := blk_frozen BK147.out 0; have hfz86_1 := blk_frozen BK147.out 1; have hfz86_2 := blk_frozen BK147.out 2; have hfz86_3 := blk_frozen BK147.out 3; have hfz86_4 := blk_frozen BK147.out 4; have hfz86_5 := blk_frozen BK147.out 5) | ((with_reducible refine gate_callee (f := 39) rfl ?_); refine goesL_ (some 31) rfl rfl Tryd.func39 (by kernel_rfl) rfl #[.slice (some ad146) l1.length c1] rfl (by (try simp only [List.map_toArray, List.map_cons, List.map_nil]); first | done | rfl | (simp only [List.length_drop, List.length_take]; rfl)) ?_; (with_reducible refine (tree_Leaves.calls _ _ l1 t148 _ ?side1 ?side2 A9.out).mono ?_); (case side1 => exact Kd.C_footSt_now HR1.out (by repeat (first | (with_reducible first |exact HK.out |apply KeepSt.drewN |apply KeepSt.drew |apply KeepSt.alloc |refine KeepSt.far ?_ GW147.out _) |exact HK.out))); (case side2 => exact HC1.out); rintro e w' ⟨rfl, ⟨nd, rfl⟩⟩; refine ⟨_, rfl, ?_⟩) | ((with_reducible refine gate_callee (f := 40) rfl ?_); refine goesL_ (some 32) rfl rfl Tryd.func40 (by kernel_rfl) rfl #[.int .i64 a2, .int .i64 t148] rfl (by (try simp only [List.map_toArray, List.map_cons, List.map_nil]); first | done | rfl | (simp only [List.length_drop, List.length_take]; rfl)) ?_; (with_reducible refine (heap_Children.calls (hrG := ?sideG) a2 t148 t149 t150 t151 _ A10.out).mono ?_); (case sideG => (first | (with_reducible exact HRG.out) |exact TabG.below HRG.out (by repeat (first | (with_reducible first |exact HB.out |apply below_alloc |apply pw_below_drewN |apply below_drew1 |refine below_set ?_ (IsS75.ge HI0.out) |refine below_set ?_ GE147.out) | (with_reducible exact Below.refl _ _))))); rintro e w' ⟨rfl, ⟨nd, rfl⟩⟩; refine ⟨_, rfl, ?_⟩) | ((with_reducible refine gate_callee (f := 20) rfl ?_); refine goesL_ (some 46) rfl rfl Tryd.func20 (by kernel_rfl) rfl #[.pointer (some ⟨g, 0, none⟩), .int .i64 (wrap64 (Int.tdiv a2 2))] rfl (by (try simp only [List.map_toArray, List.map_cons, List.map_nil]); first | done | rfl | (simp only [List.length_drop, List.length_take]; rfl)) ?_; (with_reducible refine (digest_Number.calls (hrG := ?sideG) g s0_0 (wrap64 (Int.tdiv a2 2)) t152 t153 w0 _ ?side1 ?side2 A81.out).mono ?_); (case sideG => (first | (with_reducible exact HRG.out) |exact TabG.below HRG.out (by repeat (first | (with_reducible first |exact HB.out |apply below_alloc |apply pw_below_drewN |apply below_drew1 |refine below_set ?_ (IsS75.ge HI0.out) |refine below_set ?_ GE147.out) | (with_reducible exact Below.refl _ _))))); (case side1 => repeat (first | (with_reducible first |exact HI0.out |apply IsS75.alloc |apply IsS75.drewN |apply IsS75.drew |apply IsS75.set_0 | (focus (refine IsS75.far ?_ ?_ _; rotate_left; (focus ((repeat (first | (with_reducible exact Nsty.of BK147.out rfl) |apply Nsty.set |apply Nsty.drewN |apply Nsty.drew |apply Nsty.alloc)); done))))) |exact HI0.out)); (case side2 => repeat (first | (with_reducible first |exact HB.out |apply below_alloc |apply pw_below_drewN |apply below_drew1 |refine below_set ?_ (IsS75.ge HI0.out) |refine below_set ?_ GE147.out) |exact HB.out)); rintro e w87 ⟨rfl, hi, hb, hk⟩; refine ⟨_, rfl, ?_⟩; have n0_ := Aside0.mk (KeepSt.blk hk (g' := gb147) (o := .cells #[.bool false, .int .i64 ((rd_T33 l1 a2).f1), .int .i64 ((rd_T33 l1 a2).f2), .int .i64 ((rd_T33 l1 a2).f3), .int .i64 ((rd_T33 l1 a2).f4), .slice A146_5 ((rd_T33 l1 a2).f5).length c146_5] 33 (0, 0)) (by (with_reducible repeat (first |refine blk_drewN ?_ _ |refine blk_drew ?_ |refine blk_alloc ?_ _)); refine blk_put (cs := #[.bool false, .int .i64 ((rd_T33 l1 a2).f1), .int .i64 ((rd_T33 l1 a2).f2), .int .i64 ((rd_T33 l1 a2).f3), .int .i64 ((rd_T33 l1 a2).f4), .slice none 0 0]) ?_ 5 _ rfl; (with_reducible repeat (first |refine blk_drewN ?_ _ |refine blk_drew ?_ |refine blk_alloc ?_ _)); refine blk_put (cs := #[.bool false, .int .i64 ((rd_T33 l1 a2).f1), .int .i64 ((rd_T33 l1 a2).f2), .int .i64 ((rd_T33 l1 a2).f3), .int .i64 0, .slice none 0 0]) ?_ 4 _ rfl; (with_reducible repeat (first |refine blk_drewN ?_ _ |refine blk_drew ?_ |refine blk_alloc ?_ _)); refine blk_put (cs := #[.bool false, .int .i64 ((rd_T33 l1 a2).f1), .int .i64 ((rd_T33 l1 a2).f2), .int .i64 0, .int .i64 0, .slice none 0 0]) ?_ 3 _ rfl; (with_reducible repeat (first |refine blk_drewN ?_ _ |refine blk_drew ?_ |refine blk_alloc ?_ _)); refine blk_put (cs := #[.bool false, .int .i64 ((rd_T33 l1 a2).f1), .int .i64 0, .int .i64 0, .int .i64 0, .slice none 0 0]) ?_ 2 _ rfl; (with_reducible repeat (first |refine blk_drewN ?_ _ |refine blk_drew ?_ |refine blk_alloc ?_ _)); refine blk_put (cs := #[.bool false, .int .i64 0, .int .i64 0, .int .i64 0, .int .i64 0, .slice none 0 0]) ?_ 1 _ rfl; (with_reducible repeat (first |refine blk_drewN ?_ _ |refine blk_drew ?_ |refine blk_alloc ?_ _)); refine blk_put (cs := #[.bool false, .int .i64 0, .int .i64 0, .int .i64 0, .int .i64 0, .slice none 0 0]) ?_ 0 _ rfl; (with_reducible repeat (first |refine blk_drewN ?_ _ |refine blk_drew ?_ |refine blk_alloc ?_ _)); exact BK147.out) NB147_0.out rfl); have n1_ := Aside0.mk (KeepSt.trans (by repeat (first | (with_reducible first |exact HK.out |apply KeepSt.drewN |apply KeepSt.drew |apply KeepSt.alloc |refine KeepSt.far ?_ GW147.out _) |exact HK.out)) hk); have n2_ := Aside0.mk (hb); have n3_ := Aside0.mk (hi); clear BK147; clear HK; clear HB; clear HI0; have BK147 := n0_; have HK := n1_; have HB := n2_; have HI0 := n3_; clear n0_ n1_ n2_ n3_; (try clear hb); (try clear hb2); (try clear hk); (try clear hi)) | ((with_reducible refine gate_dst (N := 47) rfl ?_); (try (refine gate_guard (by rfl) ?_; dsimp only)); refine Kd.R_lit (Kd.int .i64) _ 3 ?hg (N := 47) ?hd (xs := ([t152] : List Int)) (inner := [.int .i64 t152]) (ok := fun _ => True) (okp := fun _ => True) ?hr ?hp (fun _ hk => hk) trivial (Below.refl _ _) (Nat.le_refl _) (by simp) ?_; (case hd => rfl); (case hg => rfl); (case hr => first | (go_simp; done) | (go_simp; rfl)); (case hp => exact (Reps.one (show Kd.M (Kd.int .i64) _ _ _ t152 [.int .i64 t152] from rfl) (Reps.none _ _))); intro v155 w88 ho89 hb hg_ hnew_; clear hg_ hnew_; (first | rw [← Ny154.out] at ho89 | (simp only [Int.reduceToNat] at ho89; rw [← Ny154.out] at ho89)); have n0_ := Aside0.mk (Kd.R_lower ho89 (KeepSt.size (w := w) (w0 := w0) (by repeat (first | (with_reducible first |exact HK.out |apply KeepSt.drewN |apply KeepSt.drew |apply KeepSt.alloc |refine KeepSt.far ?_ GW147.out _) |exact HK.out)))); have n1_ := Aside0.mk (IsS75.below (by repeat (first | (with_reducible first |exact HI0.out |apply IsS75.alloc |apply IsS75.drewN |apply IsS75.drew |apply IsS75.set_0 | (focus (refine IsS75.far ?_ ?_ _; rotate_left; (focus ((repeat (first | (with_reducible exact Nsty.of BK147.out rfl) |apply Nsty.set |apply Nsty.drewN |apply Nsty.drew |apply Nsty.alloc)); done))))) |exact HI0.out)) hb); have n2_ := Aside0.mk (blk_below (g := gb147) (o := .cells #[.bool false, .int .i64 ((rd_T33 l1 a2).f1), .int .i64 ((rd_T33 l1 a2).f2), .int .i64 ((rd_T33 l1 a2).f3), .int .i64 ((rd_T33 l1 a2).f4), .slice A146_5 ((rd_T33 l1 a2).f5).length c146_5] 33 (0, 0)) (by (with_reducible repeat (first |refine blk_drewN ?_ _ |refine blk_drew ?_ |refine blk_alloc ?_ _)); exact BK147.out) hb); have n3_ := Aside0.mk (KeepSt.trans (by repeat (first | (with_reducible first |exact HK.out |apply KeepSt.drewN |apply KeepSt.drew |apply KeepSt.alloc |refine KeepSt.far ?_ GW147.out _) |exact HK.out)) (KeepSt.of_below hb w0)); have n4_ := Aside0.mk (below_step (by repeat (first | (with_reducible first |exact HB.out |apply below_alloc |apply pw_below_drewN |apply below_drew1 |refine below_set ?_ (IsS75.ge HI0.out) |refine below_set ?_ GE147.out) |exact HB.out)) hb); clear HI0; clear BK147; clear HK; clear HB; have HO156 := n0_; have HI0 := n1_; have BK147 := n2_; have HK := n3_; have HB := n4_; clear n0_ n1_ n2_ n3_ n4_; clear hb ho89; obtain ⟨Ao90, co90, eo90⟩ := Kd.R_slice HO156.out; subst eo90) | ((with_reducible refine gate_callee (f := 34) rfl ?_); refine goesL_ (some 48) rfl rfl Tryd.func34 (by kernel_rfl) rfl #[.pointer (some ⟨g, 0, none⟩), .slice Ao90 y154.length co90] rfl (by (try simp only [List.map_toArray, List.map_cons, List.map_nil]); first | done | rfl | (simp only [List.length_drop, List.length_take]; rfl)) ?_; (with_reducible refine (term_Store_List.calls kj3 g t153 _ _ y154 t157 t158 w0 _ ?side1 ?side2 ?side3 ?side4 ?side5 A82.out).mono ?_); (case side1 => repeat (first | (with_reducible first |exact HI0.out |apply IsS75.alloc |apply IsS75.drewN |apply IsS75.drew |apply IsS75.set_0 | (focus (refine IsS75.far ?_ ?_ _; rotate_left; (focus ((repeat (first | (with_reducible exact Nsty.of BK147.out rfl) |apply Nsty.set |apply Nsty.drewN |apply Nsty.drew |apply Nsty.alloc)); done))))) |exact HI0.out)); (case side2 => repeat (first | (with_reducible first |exact HB.out |apply below_alloc |apply pw_below_drewN |apply below_drew1 |refine below_set ?_ (IsS75.ge HI0.out) |refine below_set ?_ GE147.out) |exact HB.out)); (case side3 => repeat (first |exact (Kd.R_reads' HO156.out).2.2 | (with_reducible refine Kd.C_alloc ?_ _) | (with_reducible refine Kd.C_drewN ?_ _) | (with_reducible refine Kd.C_drew ?_))); (case side4 => exact (Kd.R_reads' HO156.out).2.1); (case side5 => exact Kd.far_R (by (with_reducible repeat (first |apply Kd.R_alloc |apply Kd.R_drewN |apply Kd.R_drew)); exact HO156.out) (by decide)); rintro e w91 ⟨rfl, hi, hb, hk⟩; refine ⟨_, rfl, ?_⟩; have n0_ := Aside0.mk (KeepSt.blk hk (g' := gb147) (o := .cells #[.bool false, .int .i64 ((rd_T33 l1 a2).f1), .int .i64 ((rd_T33 l1 a2).f2), .int .i64 ((rd_T33 l1 a2).f3), .int .i64 ((rd_T33 l1 a2).f4), .slice A146_5 ((rd_T33 l1 a2).f5).length c146_5] 33 (0, 0)) (by (with_reducible repeat (first |refine blk_drewN ?_ _ |refine blk_drew ?_ |refine blk_alloc ?_ _)); exact BK147.out) NB147_0.out rfl); have n1_ := Aside0.mk (Kd.R_mono (Kd.R_keepSt (IsS75.apart (show IsS75 w0 _ g t153 from by repeat (first | (with_reducible first |exact HI0.out |apply IsS75.alloc |apply IsS75.drewN |apply IsS75.drew |apply IsS75.set_0 | (focus (refine IsS75.far ?_ ?_ _; rotate_left; (focus ((repeat (first | (with_reducible exact Nsty.of BK147.out rfl) |apply Nsty.set |apply Nsty.drewN |apply Nsty.drew |apply Nsty.alloc)); done))))) |exact HI0.out)) (by (with_reducible repeat (first |apply Kd.R_alloc |apply Kd.R_drewN |apply Kd.R_drew)); exact HO156.out) (by decide)) hk (fun _ h => h.2)) (fun _ h => h.1)); have n2_ := Aside0.mk (KeepSt.trans (by repeat (first | (with_reducible first |exact HK.out |apply KeepSt.drewN |apply KeepSt.drew |apply KeepSt.alloc |refine KeepSt.far ?_ GW147.out _) |exact HK.out)) hk); have n3_ := Aside0.mk (hb); have n4_ := Aside0.mk (hi); clear BK147; clear HO156; clear HK; clear HB; clear HI0; have BK147 := n0_; have HO156 := n1_; have HK := n2_; have HB := n3_; have HI0 := n4_; clear n0_ n1_ n2_ n3_ n4_; (try clear hb); (try clear hb2); (try clear hk); (try clear hi)) | ((with_reducible refine gate_callee (f := 33) rfl ?_); refine goesL_ (some 49) rfl rfl Tryd.func33 (by kernel_rfl) rfl #[.pointer (some ⟨g, 0, none⟩), .string (⟨#[108, 101, 97, 102]⟩ : ByteArray), .int .i64 t157] rfl (by (try simp only [List.map_toArray, List.map_cons, List.map_nil]); first | done | rfl | (simp only [List.length_drop, List.length_take]; rfl)) ?_; (with_reducible refine (term_Store_Hash.calls g t158 (⟨#[108, 101, 97, 102]⟩ : ByteArray) t157 t159 t160 w0 _ ?side1 ?side2 A83.out).mono ?_); (case side1 => repeat (first | (with_reducible first |exact HI0.out |apply IsS75.alloc |apply IsS75.drewN |apply IsS75.drew |apply IsS75.set_0 | (focus (refine IsS75.far ?_ ?_ _; rotate_left; (focus ((repeat (first | (with_reducible exact Nsty.of BK147.out rfl) |apply Nsty.set |apply Nsty.drewN |apply Nsty.drew |apply Nsty.alloc)); done))))) |exact HI0.out)); (case side2 => repeat (first | (with_reducible first |exact HB.out |apply below_alloc |apply pw_below_drewN |apply below_drew1 |refine below_set ?_ (IsS75.ge HI0.out) |refine below_set ?_ GE147.out) |exact HB.out)); rintro e w92 ⟨rfl, hi, hb, hk⟩; refine ⟨_, rfl, ?_⟩; have n0_ := Aside0.mk (KeepSt.blk hk (g' := gb147) (o := .cells #[.bool false, .int .i64 ((rd_T33 l1 a2).f1), .int .i64 ((rd_T33 l1 a2).f2), .int .i64 ((rd_T33 l1 a2).f3), .int .i64 ((rd_T33 l1 a2).f4), .slice A146_5 ((rd_T33 l1 a2).f5).length c146_5] 33 (0, 0)) (by (with_reducible repeat (first |refine blk_drewN ?_ _ |refine blk_drew ?_ |refine blk_alloc ?_ _)); exact BK147.out) NB147_0.out rfl); have n1_ := Aside0.mk (Kd.R_mono (Kd.R_keepSt (IsS75.apart (show IsS75 w0 _ g t158 from by repeat (first | (with_reducible first |exact HI0.out |apply IsS75.alloc |apply IsS75.drewN |apply IsS75.drew |apply IsS75.set_0 | (focus (refine IsS75.far ?_ ?_ _; rotate_left; (focus ((repeat (first | (with_reducible exact Nsty.of BK147.out rfl) |apply Nsty.set |apply Nsty.drewN |apply Nsty.drew |apply Nsty.alloc)); done))))) |exact HI0.out)) (by (with_reducible repeat (first |apply Kd.R_alloc |apply Kd.R_drewN |apply Kd.R_drew)); exact HO156.out) (by decide)) hk (fun _ h => h.2)) (fun _ h => h.1)); have n2_ := Aside0.mk (KeepSt.trans (by repeat (first | (with_reducible first |exact HK.out |apply KeepSt.drewN |apply KeepSt.drew |apply KeepSt.alloc |refine KeepSt.far ?_ GW147.out _) |exact HK.out)) hk); have n3_ := Aside0.mk (hb); have n4_ := Aside0.mk (hi); clear BK147; clear HO156; clear HK; clear HB; clear HI0; have BK147 := n0_; have HO156 := n1_; have HK := n2_; have HB := n3_; have HI0 := n4_; clear n0_ n1_ n2_ n3_ n4_; (try clear hb); (try clear hb2); (try clear hk); (try clear hi)))
        go_ret
        exact ⟨by first | rfl | (simp [errW_none, errW_some] <;> rfl) | (simp [*, errW_none, errW_some] <;> rfl), by repeat (first | (with_reducible first | exact HI0.out | apply IsS75.alloc | apply IsS75.drewN | apply IsS75.drew | apply IsS75.set_0 | (focus (refine IsS75.far ?_ ?_ _; rotate_left; (focus ((repeat (first | (with_reducible exact Nsty.of BK147.out rfl) | apply Nsty.set | apply Nsty.drewN | apply Nsty.drew | apply Nsty.alloc)); done))))) | exact HI0.out), by repeat (first | (with_reducible first | exact HB.out | apply below_alloc | apply pw_below_drewN | apply below_drew1 | refine below_set ?_ (IsS75.ge HI0.out) | refine below_set ?_ GE147.out) | exact HB.out), by repeat (first | (with_reducible first | exact HK.out | apply KeepSt.drewN | apply KeepSt.drew | apply KeepSt.alloc | refine KeepSt.far ?_ GW147.out _) | exact HK.out)⟩
     ·
      rw [if_neg c8] at H
      exact absurd H (by simp)
    ·
     rw [if_neg c7] at H
     exact absurd H (by simp)
end Go.Proofs.YtdipiigfjcaijaaDoor.PDi
