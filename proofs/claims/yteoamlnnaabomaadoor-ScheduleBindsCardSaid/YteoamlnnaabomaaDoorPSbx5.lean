/- What this claim reaches of a longer text of this session. -/
import Derived.Test.YteoamlnnaabomaaDoorPSbx0
import Derived.Test.YteoamlnnaabomaaDoorPSbx1
import Derived.Test.YteoamlnnaabomaaDoorPSbx2
import Derived.Test.YteoamlnnaabomaaDoorPSbx3
import Derived.Test.YteoamlnnaabomaaDoorPSbx4
namespace Go.Proofs.YteoamlnnaabomaaDoor.PSb
open Go.RowKit Go.Proofs.YteoamlnnaabomaaDoorW.PrintWords Go.Proofs.YteoamlnnaabomaaDoorW.PrintLast Go.Proofs.YteoamlnnaabomaaDoorW.PrintMore
attribute [local go_sem] max2_int min2_int max_two min_two max_three min_three max_four min_four   -- for this text's walks alone
set_option linter.unusedVariables false
set_option linter.unusedSimpArgs false
def conclavelaw07_ScheduleBinds.j0 : Nat → List Int → List Int → Bool → Option (Bool)
  | 0, _, _, _ => none
  | k + 1, x0, x1, x35 => if x35 = true then (some true) else ((conclavelaw07_stores.f 9).bind fun t233 => (if 3 < (x0.length : Int) then (if 4 < (x0.length : Int) then (if 0 < (x0.length : Int) then (if 1 < (x0.length : Int) then ((schedule_Context.f k t233 (rd x0 3) (rd x0 4) (rd x0 0) (rd x0 1)).bind fun bt239 => (if 3 < (x1.length : Int) then (if 4 < (x1.length : Int) then (if 0 < (x1.length : Int) then (if 1 < (x1.length : Int) then ((schedule_Context.f k bt239.2 (rd x1 3) (rd x1 4) (rd x1 0) (rd x1 1)).bind fun bt245 => (if 2 < (x0.length : Int) then ((schedule_Confirmed.f k bt245.2 (rd x0 0) (rd x0 1) (rd x0 2)).bind fun bt250 => (if 2 < (x1.length : Int) then ((schedule_Confirmed.f k bt250.2 (rd x1 0) (rd x1 1) (rd x1 2)).bind fun bt255 => ((schedule_Interim.f k bt255.2 (rd x0 0) (rd x0 1)).bind fun bt259 => ((schedule_Interim.f k bt259.2 (rd x1 0) (rd x1 1)).bind fun bt263 => (if (rd x0 0) = (rd x1 0) then (if bt239.1 = 0 then (some false) else (if bt250.1 = 0 then (some false) else (if bt259.1 = 0 then (some false) else (if (rd x0 1) = (rd x1 1) then (if (rd x0 3) = (rd x1 3) then (if ((bt239.1 == bt245.1) == ((rd x0 4) == (rd x1 4))) = true then (if ((bt250.1 == bt255.1) == ((rd x0 2) == (rd x1 2))) = true then (if ((bt259.1 == bt263.1) == ((rd x0 1) == (rd x1 1))) = true then (if bt239.1 = bt250.1 then (some false) else (some (bt250.1 != bt259.1))) else (some false)) else (some false)) else (some false)) else (if ((bt239.1 == bt245.1) == false) = true then (if ((bt250.1 == bt255.1) == ((rd x0 2) == (rd x1 2))) = true then (if ((bt259.1 == bt263.1) == ((rd x0 1) == (rd x1 1))) = true then (if bt239.1 = bt250.1 then (some false) else (some (bt250.1 != bt259.1))) else (some false)) else (some false)) else (some false))) else (if ((bt239.1 == bt245.1) == false) = true then (if ((bt250.1 == bt255.1) == false) = true then (if ((bt259.1 == bt263.1) == ((rd x0 1) == (rd x1 1))) = true then (if bt239.1 = bt250.1 then (some false) else (some (bt250.1 != bt259.1))) else (some false)) else (some false)) else (some false)))))) else (if bt239.1 = 0 then (some false) else (if bt250.1 = 0 then (some false) else (if bt259.1 = 0 then (some false) else (if ((bt239.1 == bt245.1) == false) = true then (if ((bt250.1 == bt255.1) == false) = true then (if ((bt259.1 == bt263.1) == false) = true then (if bt239.1 = bt250.1 then (some false) else (some (bt250.1 != bt259.1))) else (some false)) else (some false)) else (some false))))))))) else (none))) else (none))) else (none)) else (none)) else (none)) else (none))) else (none)) else (none)) else (none)) else (none)))
def conclavelaw07_ScheduleBinds.f (k : Nat) (l0 : List Int) (l1 : List Int) : Option (Bool) := (conclavelaw07_anchor.f k).bind fun t228 => (if t228 = true then (if (l0.length : Int) = 5 then (if (l1.length : Int) = 5 then (if 3 ≤ (l0.length : Int) then ((conclavelaw07_right.f k (l0.take 3) 9).bind fun t230 => (if t230 = true then (if 3 ≤ (l1.length : Int) then ((conclavelaw07_right.f k (l1.take 3) 9).bind fun t232 => (conclavelaw07_ScheduleBinds.j0 k l0 l1 (!t232))) else (none)) else (conclavelaw07_ScheduleBinds.j0 k l0 l1 true))) else (none)) else (conclavelaw07_ScheduleBinds.j0 k l0 l1 true)) else (conclavelaw07_ScheduleBinds.j0 k l0 l1 true)) else (some false))
theorem conclavelaw07_ScheduleBinds.mono_l : ∀ k, (∀ y0 y1 y2, LeO (conclavelaw07_ScheduleBinds.j0 k y0 y1 y2) (conclavelaw07_ScheduleBinds.j0 (k + 1) y0 y1 y2))
  | 0 => fun _ _ _ r h => by simp [conclavelaw07_ScheduleBinds.j0] at h
  | k + 1 => by
    have ih0 := conclavelaw07_ScheduleBinds.mono_l k
    · intro y0 y1 y2
      unfold conclavelaw07_ScheduleBinds.j0
      repeat' first
      | (with_reducible exact ih0 _ _ _)
      | (with_reducible exact conclavelaw07_anchor.mono _)
      | (with_reducible exact conclavelaw07_right.mono _ _ _)
      | (with_reducible exact schedule_Confirmed.mono _ _ _ _ _)
      | (with_reducible exact schedule_Context.mono _ _ _ _ _ _)
      | (with_reducible exact schedule_Interim.mono _ _ _ _)
      | (with_reducible exact LeO.refl _)
      | (with_reducible exact LeO.none _)
      | (with_reducible refine LeO.ite ?_ ?_)
      | (with_reducible refine LeO.bind ?_ (fun _ => ?_))
      | exact ih0 _ _ _
      | exact conclavelaw07_anchor.mono _
      | exact conclavelaw07_right.mono _ _ _
      | exact schedule_Confirmed.mono _ _ _ _ _
      | exact schedule_Context.mono _ _ _ _ _ _
      | exact schedule_Interim.mono _ _ _ _
      | exact LeO.none _
      | refine LeO.ite ?_ ?_
      | refine LeO.bind ?_ (fun _ => ?_)
theorem conclavelaw07_ScheduleBinds.mono : ∀ a0 a1 k, LeO (conclavelaw07_ScheduleBinds.f k a0 a1) (conclavelaw07_ScheduleBinds.f (k + 1) a0 a1) := by
  intro a0 a1 k
  have ih0 := conclavelaw07_ScheduleBinds.mono_l k
  unfold conclavelaw07_ScheduleBinds.f
  repeat' first
      | (with_reducible exact ih0 _ _ _)
      | (with_reducible exact conclavelaw07_anchor.mono _)
      | (with_reducible exact conclavelaw07_right.mono _ _ _)
      | (with_reducible exact schedule_Confirmed.mono _ _ _ _ _)
      | (with_reducible exact schedule_Context.mono _ _ _ _ _ _)
      | (with_reducible exact schedule_Interim.mono _ _ _ _)
      | (with_reducible exact LeO.refl _)
      | (with_reducible exact LeO.none _)
      | (with_reducible refine LeO.ite ?_ ?_)
      | (with_reducible refine LeO.bind ?_ (fun _ => ?_))
      | exact ih0 _ _ _
      | exact conclavelaw07_anchor.mono _
      | exact conclavelaw07_right.mono _ _ _
      | exact schedule_Confirmed.mono _ _ _ _ _
      | exact schedule_Context.mono _ _ _ _ _ _
      | exact schedule_Interim.mono _ _ _ _
      | exact LeO.none _
      | refine LeO.ite ?_ ?_
      | refine LeO.bind ?_ (fun _ => ?_)
def conclavelaw07_ScheduleBinds.T8 : Bool × List (List Nat × List Nat) := (true, [([], []), ([], []), ([1], [1]), ([2], [2]), ([], []), ([4], [4]), ([5], [5]), ([], []), ([7], [7]), ([8], [8]), ([], []), ([10], [10]), ([11], [11]), ([0, 3, 6, 9, 12], [0, 3, 6, 9, 12]), ([], []), ([], []), ([15], [15]), ([16], [16]), ([], []), ([18], [18]), ([19], [19]), ([], []), ([21], [21]), ([22], [22]), ([], []), ([24], [24]), ([25], [25]), ([14, 17, 20, 23, 26, 13], [14, 17, 20, 23, 26]), ([13, 27, 0, 1, 2, 3, 4, 5, 6, 7, 8, 9, 10, 11, 12, 13], [13]), ([27, 28, 0, 1, 2, 3, 4, 5, 6, 7, 8, 9, 10, 11, 12, 13, 14, 15, 16, 17, 18, 19, 20, 21, 22, 23, 24, 25, 26, 27, 28], [27])])
def conclavelaw07_ScheduleBinds.B8 : List Nat := [0, 0, 2, 6, 0, 16, 48, 0, 128, 384, 0, 1024, 3072, 8191, 0, 0, 32768, 98304, 0, 262144, 786432, 0, 2097152, 6291456, 0, 16777216, 50331648, 134217727, 268435455, 536870911]
theorem conclavelaw07_ScheduleBinds.tab8 : rtab .any (opsOf Tryd.f4 8) = conclavelaw07_ScheduleBinds.T8 := by kernel_rfl
theorem conclavelaw07_ScheduleBinds.bits8 : waitsOk conclavelaw07_ScheduleBinds.T8.2 conclavelaw07_ScheduleBinds.B8 = true := by kernel_rfl
def conclavelaw07_ScheduleBinds.T9 : Bool × List (List Nat × List Nat) := (true, [([], []), ([], []), ([1], [1]), ([2], [2]), ([], []), ([4], [4]), ([5], [5]), ([], []), ([7], [7]), ([8], [8]), ([0, 3, 6, 9], [0, 3, 6, 9]), ([], []), ([], []), ([12], [12]), ([13], [13]), ([], []), ([15], [15]), ([16], [16]), ([], []), ([18], [18]), ([19], [19]), ([11, 14, 17, 20, 10], [11, 14, 17, 20]), ([10, 21, 0, 1, 2, 3, 4, 5, 6, 7, 8, 9, 10], [10]), ([21, 22, 0, 1, 2, 3, 4, 5, 6, 7, 8, 9, 10, 11, 12, 13, 14, 15, 16, 17, 18, 19, 20, 21, 22], [21])])
def conclavelaw07_ScheduleBinds.B9 : List Nat := [0, 0, 2, 6, 0, 16, 48, 0, 128, 384, 1023, 0, 0, 4096, 12288, 0, 32768, 98304, 0, 262144, 786432, 2097151, 4194303, 8388607]
theorem conclavelaw07_ScheduleBinds.tab9 : rtab .any (opsOf Tryd.f4 9) = conclavelaw07_ScheduleBinds.T9 := by kernel_rfl
theorem conclavelaw07_ScheduleBinds.bits9 : waitsOk conclavelaw07_ScheduleBinds.T9.2 conclavelaw07_ScheduleBinds.B9 = true := by kernel_rfl
def conclavelaw07_ScheduleBinds.T10 : Bool × List (List Nat × List Nat) := (true, [([], []), ([], []), ([1], [1]), ([2], [2]), ([], []), ([4], [4]), ([5], [5]), ([0, 3, 6], [0, 3, 6]), ([], []), ([], []), ([9], [9]), ([10], [10]), ([], []), ([12], [12]), ([13], [13]), ([8, 11, 14, 7], [8, 11, 14]), ([7, 15, 0, 1, 2, 3, 4, 5, 6, 7], [7]), ([15, 16, 0, 1, 2, 3, 4, 5, 6, 7, 8, 9, 10, 11, 12, 13, 14, 15, 16], [15])])
def conclavelaw07_ScheduleBinds.B10 : List Nat := [0, 0, 2, 6, 0, 16, 48, 127, 0, 0, 512, 1536, 0, 4096, 12288, 32767, 65535, 131071]
theorem conclavelaw07_ScheduleBinds.tab10 : rtab .any (opsOf Tryd.f4 10) = conclavelaw07_ScheduleBinds.T10 := by kernel_rfl
theorem conclavelaw07_ScheduleBinds.bits10 : waitsOk conclavelaw07_ScheduleBinds.T10.2 conclavelaw07_ScheduleBinds.B10 = true := by kernel_rfl
def conclavelaw07_ScheduleBinds.T11 : Bool × List (List Nat × List Nat) := (true, [([], []), ([0], [0]), ([1], [1]), ([], []), ([3], [3]), ([4], [4]), ([2, 5], [2, 5]), ([6], [6]), ([7], [7]), ([8, 7], [7, 8]), ([9, 7], [7, 9]), ([7], [7]), ([11, 7], [7, 11]), ([12, 7], [7, 12]), ([10, 13, 7], [7, 10, 13]), ([7, 14], [7, 14]), ([15, 7, 0, 1, 2, 3, 4, 5, 6, 7, 8, 9, 10, 11, 12, 13, 14, 15], [15])])
def conclavelaw07_ScheduleBinds.B11 : List Nat := [0, 1, 3, 0, 8, 24, 63, 127, 255, 511, 1023, 255, 2303, 6399, 16383, 32767, 65535]
theorem conclavelaw07_ScheduleBinds.tab11 : rtab .any (opsOf Tryd.f4 11) = conclavelaw07_ScheduleBinds.T11 := by kernel_rfl
theorem conclavelaw07_ScheduleBinds.bits11 : waitsOk conclavelaw07_ScheduleBinds.T11.2 conclavelaw07_ScheduleBinds.B11 = true := by kernel_rfl
def conclavelaw07_ScheduleBinds.T12 : Bool × List (List Nat × List Nat) := (true, [([], []), ([0], [0]), ([1], [1]), ([2], [2]), ([3, 2], [2, 3]), ([2, 4], [2, 4]), ([5, 2], [5]), ([6], [6]), ([7, 6], [6, 7]), ([6, 8], [6, 8]), ([9, 6], [9]), ([10], [10]), ([10], [10]), ([11, 12, 10], [10, 11, 12]), ([10], [10]), ([14, 10, 10], [10, 14]), ([15], [15]), ([16, 15], [15, 16]), ([17, 15], [15, 17]), ([15], [15]), ([19, 15], [15, 19]), ([20, 15], [15, 20]), ([18, 21, 15], [15, 18, 21]), ([15, 22, 10], [10, 15, 22]), ([23, 15, 10], [10, 23]), ([24], [24]), ([25, 24], [24, 25]), ([26, 24], [24, 26]), ([24], [24]), ([28, 24], [24, 28]), ([29, 24], [24, 29]), ([27, 30, 24], [24, 27, 30]), ([24, 31, 10], [10, 24, 31]), ([13, 32, 10], [10, 13, 32]), ([10, 33], [10, 33]), ([34, 24], [34]), ([35], [35]), ([35], [35]), ([36, 37, 35], [35, 36, 37]), ([35], [35]), ([39, 35, 35], [35, 39]), ([40], [40]), ([41, 40], [40, 41]), ([42, 40], [40, 42]), ([40], [40]), ([44, 40], [40, 44]), ([45, 40], [40, 45]), ([43, 46, 40], [40, 43, 46]), ([40, 47, 35], [35, 40, 47]), ([38, 48, 35], [35, 38, 48]), ([35, 49], [35, 49]), ([50, 40], [50]), ([51], [51]), ([51], [51]), ([52, 53, 51], [51, 52, 53]), ([51], [51]), ([54, 55, 51], [51, 54, 55]), ([51, 56], [51, 56]), ([57, 51], [57]), ([58], [58]), ([58], [58]), ([59, 60, 58], [58, 59, 60]), ([58, 61], [58, 61]), ([62, 58], [62]), ([63], [63]), ([63], [63]), ([64, 65, 63], [63, 64, 65]), ([63, 66], [63, 66]), ([67, 63, 0, 1, 2, 3, 4, 5, 6, 7, 8, 9, 10, 11, 12, 13, 14, 15, 16, 17, 18, 19, 20, 21, 22, 23, 24, 25, 26, 27, 28, 29, 30, 31, 32, 33, 34, 35, 36, 37, 38, 39, 40, 41, 42, 43, 44, 45, 46, 47, 48, 49, 50, 51, 52, 53, 54, 55, 56, 57, 58, 59, 60, 61, 62, 63, 64, 65, 66, 67], [67])])
def conclavelaw07_ScheduleBinds.B12 : List Nat := [0, 1, 3, 7, 15, 31, 63, 127, 255, 511, 1023, 2047, 2047, 8191, 2047, 18431, 51199, 116735, 247807, 51199, 575487, 1624063, 4179967, 8374271, 16762879, 33540095, 67094527, 134203391, 33540095, 301975551, 838846463, 2147469311, 4294952959, 8589934591, 17179869183, 34359738367, 68719476735, 68719476735, 274877906943, 68719476735, 618475290623, 1717986918399, 3917010173951, 8315056685055, 1717986918399, 19310172962815, 54494545051647, 140256452018175, 280993940373503, 562949953421311, 1125899906842623, 2251799813685247, 4503599627370495, 4503599627370495, 18014398509481983, 4503599627370495, 72057594037927935, 144115188075855871, 288230376151711743, 576460752303423487, 576460752303423487, 2305843009213693951, 4611686018427387903, 9223372036854775807, 18446744073709551615, 18446744073709551615, 73786976294838206463, 147573952589676412927, 295147905179352825855]
theorem conclavelaw07_ScheduleBinds.tab12 : rtab .any (opsOf Tryd.f4 12) = conclavelaw07_ScheduleBinds.T12 := by kernel_rfl
theorem conclavelaw07_ScheduleBinds.bits12 : waitsOk conclavelaw07_ScheduleBinds.T12.2 conclavelaw07_ScheduleBinds.B12 = true := by kernel_rfl
end Go.Proofs.YteoamlnnaabomaaDoor.PSb
