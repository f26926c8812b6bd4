/- What this claim reaches of a longer text of this session. -/
import Derived.Test.YteoamlnnaabomaaDoorPSbx0
import Derived.Test.YteoamlnnaabomaaDoorPSbx1
import Derived.Test.YteoamlnnaabomaaDoorPSbx2
import Derived.Test.YteoamlnnaabomaaDoorStW
import Derived.Test.YteoamlnnaabomaaDoorRef
import Derived.Test.YteoamlnnaabomaaDoorStW
import Derived.Test.YteoamlnnaabomaaDoorRef
import Derived.Test.YteoamlnnaabomaaDoorBase
import Derived.Shelf.Spec.TrailingZeros
import Derived.Lib.ItoaNum
import Derived.Lib.LaidTab
import Derived.Test.YteoamlnnaabomaaDoorShelf
import Derived.Test.YteoamlnnaabomaaDoorStW
import Derived.Lib.ItoaNum
import Derived.Lib.LaidTab
namespace Go.Proofs.YteoamlnnaabomaaDoor.PSb
open Go.RowKit Go.Proofs.YteoamlnnaabomaaDoorW.PrintWords Go.Proofs.YteoamlnnaabomaaDoorW.PrintLast Go.Proofs.YteoamlnnaabomaaDoorW.PrintMore
attribute [local go_sem] max2_int min2_int max_two min_two max_three min_three max_four min_four   -- for this text's walks alone
set_option linter.unusedVariables false
set_option linter.unusedSimpArgs false
def conclavelaw07_right.l0 : Nat → Int → List Int → Int → Int → Option (Bool)
  | 0, _, _, _, _ => none
  | k + 1, x1, x7, x8, x9 => if x9 < x8 then (if 0 ≤ x9 then (if x9 < (x7.length : Int) then (if (rd x7 x9) < 1 then (some false) else (if (rd x7 x9) > x1 then (some false) else (conclavelaw07_right.l0 k x1 x7 x8 (wrap64 (x9 + 1))))) else (none)) else (none)) else (some true)
def conclavelaw07_right.f (k : Nat) (l0 : List Int) (a1 : Int) : Option (Bool) := conclavelaw07_right.l0 k a1 l0 (l0.length : Int) 0
theorem conclavelaw07_right.mono_l : ∀ k, (∀ y0 y1 y2 y3, LeO (conclavelaw07_right.l0 k y0 y1 y2 y3) (conclavelaw07_right.l0 (k + 1) y0 y1 y2 y3))
  | 0 => fun _ _ _ _ r h => by simp [conclavelaw07_right.l0] at h
  | k + 1 => by
    have ih0 := conclavelaw07_right.mono_l k
    · intro y0 y1 y2 y3
      unfold conclavelaw07_right.l0
      repeat' first
      | (with_reducible exact ih0 _ _ _ _)
      | (with_reducible exact LeO.refl _)
      | (with_reducible exact LeO.none _)
      | (with_reducible refine LeO.ite ?_ ?_)
      | (with_reducible refine LeO.bind ?_ (fun _ => ?_))
      | exact ih0 _ _ _ _
      | exact LeO.none _
      | refine LeO.ite ?_ ?_
      | refine LeO.bind ?_ (fun _ => ?_)
theorem conclavelaw07_right.mono : ∀ a0 a1 k, LeO (conclavelaw07_right.f k a0 a1) (conclavelaw07_right.f (k + 1) a0 a1) := by
  intro a0 a1 k
  have ih0 := conclavelaw07_right.mono_l k
  unfold conclavelaw07_right.f
  repeat' first
      | (with_reducible exact ih0 _ _ _ _)
      | (with_reducible exact LeO.refl _)
      | (with_reducible exact LeO.none _)
      | (with_reducible refine LeO.ite ?_ ?_)
      | (with_reducible refine LeO.bind ?_ (fun _ => ?_))
      | exact ih0 _ _ _ _
      | exact LeO.none _
      | refine LeO.ite ?_ ?_
      | refine LeO.bind ?_ (fun _ => ?_)
set_option maxHeartbeats 8000000 in
set_option maxRecDepth 100000 in
theorem conclavelaw07_right.calls (k : Nat) (A0 : Option Addr) (c0 : Nat) (l0 : List Int) (a1 : Int) (r : Bool) (w : World) (hr0 : Kd.C (Kd.int .i64) w A0 l0.length l0) (hc0 : l0.length ≤ c0) (h : conclavelaw07_right.f k l0 a1 = some r) :
    Calls Tryd.prog 7 #[.slice A0 l0.length c0, .int .i64 a1] w fun e w' => e = .returned (.bool r) ∧ Drawn0 w w' := by
  have HR0 := Aside0.mk hr0
  have HC0 := Aside0.mk hc0
  clear hr0 hc0
  have H : (conclavelaw07_right.l0 k a1 l0 (l0.length : Int) 0) = some r := h
  clear h
  have H' := Aside0.mk H
  clear H
  go_enter Tryd.func7, Tryd.ntmps7
  go_wp2
  go_loopg [9] k (fun kq v9 w' => ∃ (x9_1 : Int), v9 = .int .i64 x9_1 ∧ Aside0 (conclavelaw07_right.l0 kq a1 l0 (l0.length : Int) x9_1 = some r) ∧ Aside0 (kq ≤ k) ∧ Drawn0 w w')
  case atStart => exact ⟨(0), (by first | rfl | (simp; done) | (simp [*]; done)), H', ⟨Nat.le_refl _⟩, by repeat (first | exact Drawn0.refl _ | apply Drawn0.step)⟩
  case round =>
    clear H'
    try clear p2
    obtain ⟨x9_1, rfl, HA, HK1, ⟨m1, rfl⟩⟩ := hrel
    cases gk with
    | zero => exact absurd HA.out (by simp [conclavelaw07_right.l0])
    | succ k1 =>
      have H := HA.out
      clear HA
      simp only [conclavelaw07_right.l0] at H
      by_cases c3 : x9_1 < (l0.length : Int)
      · rw [if_pos c3] at H
        have c3b0 : decide (x9_1 < (l0.length : Int)) = true := decide_eq_true c3
        clear c3
        by_cases c4 : 0 ≤ x9_1
        · rw [if_pos c4] at H
          have c4b0 : decide (0 ≤ x9_1) = true := decide_eq_true c4
          clear c4
          by_cases c5 : x9_1 < (l0.length : Int)
          · rw [if_pos c5] at H
            have c5b0 : decide (x9_1 < (l0.length : Int)) = true := decide_eq_true c5
            clear c5
            by_cases c6 : (rd l0 x9_1) < 1
            · rw [if_pos c6] at H
              have c6b0 : decide ((rd l0 x9_1) < 1) = true := decide_eq_true c6
              clear c6
              obtain rfl := Option.some.inj H
              have p177 : 0 ≤ (x9_1 : Int) := of_decide_eq_true (by first | (with_reducible assumption) | assumption)
              have q177 : x9_1 < (l0.length : Int) := of_decide_eq_true (by first | (with_reducible assumption) | assumption)
              obtain ⟨ad177, e177, hx177_0⟩ := Kd.at_int HR0.out x9_1 p177 q177
              cases e177
              replace p177 := eq_true p177
              replace q177 := eq_true q177
              go_wp2
              go_ret
              exact ⟨by first | rfl | (simp; done) | (simp [*]; done), by repeat (first | exact Drawn0.refl _ | apply Drawn0.step)⟩
            · rw [if_neg c6] at H
              have c6b0 : decide ((rd l0 x9_1) < 1) = false := decide_eq_false c6
              clear c6
              by_cases c7 : (rd l0 x9_1) > a1
              · rw [if_pos c7] at H
                have c7b0 : decide (a1 < (rd l0 x9_1)) = true := decide_eq_true c7
                clear c7
                obtain rfl := Option.some.inj H
                have p177 : 0 ≤ (x9_1 : Int) := of_decide_eq_true (by first | (with_reducible assumption) | assumption)
                have q177 : x9_1 < (l0.length : Int) := of_decide_eq_true (by first | (with_reducible assumption) | assumption)
                obtain ⟨ad177, e177, hx177_0⟩ := Kd.at_int HR0.out x9_1 p177 q177
                cases e177
                replace p177 := eq_true p177
                replace q177 := eq_true q177
                go_wp2
                go_ret
                exact ⟨by first | rfl | (simp; done) | (simp [*]; done), by repeat (first | exact Drawn0.refl _ | apply Drawn0.step)⟩
              · rw [if_neg c7] at H
                have c7b0 : decide (a1 < (rd l0 x9_1)) = false := decide_eq_false c7
                clear c7
                have H' := Aside0.mk H
                clear H
                have p177 : 0 ≤ (x9_1 : Int) := of_decide_eq_true (by first | (with_reducible assumption) | assumption)
                have q177 : x9_1 < (l0.length : Int) := of_decide_eq_true (by first | (with_reducible assumption) | assumption)
                obtain ⟨ad177, e177, hx177_0⟩ := Kd.at_int HR0.out x9_1 p177 q177
                cases e177
                replace p177 := eq_true p177
                replace q177 := eq_true q177
                go_wp2
                go_roundg k1
                case measure => have := HK1.out; omega
                case rel => exact ⟨(wrap64 (x9_1 + 1)), (by first | rfl | (simp; done) | (simp [*]; done)), H', ⟨by have := HK1.out; omega⟩, by repeat (first | exact Drawn0.refl _ | apply Drawn0.step)⟩
          · rw [if_neg c5] at H
            exact absurd H (by simp)
        · rw [if_neg c4] at H
          exact absurd H (by simp)
      · rw [if_neg c3] at H
        have c3b0 : decide (x9_1 < (l0.length : Int)) = false := decide_eq_false c3
        clear c3
        obtain rfl := Option.some.inj H
        go_wp2
        go_ret
        exact ⟨by first | rfl | (simp; done) | (simp [*]; done), by repeat (first | exact Drawn0.refl _ | apply Drawn0.step)⟩
def term_Store_known.f (s0_0 : TS) (a1 : Int) : Option (Bool × TS) := some (knownB s0_0.nodes.length a1, s0_0)
theorem term_Store_known.calls (g : Nat) (s0_0 : TS) (a1 : Int) (r1 : Bool) (r2 : TS) (w0 w : World) (hI : IsS80 w0 w g s0_0) (hB : Below w0.heap.size w0 w) (h : term_Store_known.f s0_0 a1 = some (r1, r2)) :
    Calls Tryd.prog 45 #[.pointer (some ⟨g, 0, none⟩), .int .i64 a1] w fun e w' => e = .returned (.bool r1) ∧ IsS80 w0 w' g r2 ∧ Below w0.heap.size w0 w' ∧ KeepSt w w' w0 := by
  cases h
  obtain ⟨q, h1, h2, h3, h4, h5⟩ := StoreAt.of hI
  have := known_calls h4 a1
  rw [St.ptr, h1, h2] at this
  refine this.mono ?_
  rintro e w' ⟨rfl, rfl⟩
  exact ⟨rfl, hI, hB, .refl _ _⟩
def term_Store_Pair.f (s0_0 : TS) (a1 : Int) (a2 : Int) : Option (Int × TS) := some (put s0_0 ⟨3, ByteArray.empty, a1, a2⟩)
theorem term_Store_Pair.calls (g : Nat) (s0_0 : TS) (a1 : Int) (a2 : Int) (r1 : Int) (r2 : TS) (w0 w : World) (hI : IsS80 w0 w g s0_0) (hB : Below w0.heap.size w0 w) (h : term_Store_Pair.f s0_0 a1 a2 = some (r1, r2)) :
    Calls Tryd.prog 46 #[.pointer (some ⟨g, 0, none⟩), .int .i64 a1, .int .i64 a2] w fun e w' => e = .returned (.int .i64 r1) ∧ IsS80 w0 w' g r2 ∧ Below w0.heap.size w0 w' ∧ KeepSt w w' w0 := by
  cases h
  refine st_next hI hB fun q h1 h2 h3 h4 => ?_
  have := pair_calls h4 a1 a2
  rw [St.ptr, h1, h2, h3] at this
  exact this
mutual
def term_Store_List.l0 : Nat → List Int → List Int → Int → Int → TS → Option (Int × TS)
  | 0, _, _, _, _, _ => none
  | k + 1, x1, x9, x10, x11, x1000 => if x11 < x10 then (if 0 ≤ x11 then (if x11 < (x9.length : Int) then ((term_Store_known.f x1000 (rd x9 x11)).bind fun bt179 => (if bt179.1 = true then (term_Store_List.l0 k x1 x9 x10 (wrap64 (x11 + 1)) bt179.2) else (some (0, bt179.2)))) else (none)) else (none)) else ((term_Store_Text.f x1000 (⟨#[]⟩ : ByteArray)).bind fun bt181 => (term_Store_List.l1 k x1 bt181.1 (wrap64 ((x1.length : Int) - 1)) bt181.2))
def term_Store_List.l1 : Nat → List Int → Int → Int → TS → Option (Int × TS)
  | 0, _, _, _, _ => none
  | k + 1, x1, x7, x8, x1000 => if x8 ≥ 0 then (if 0 ≤ x8 then (if x8 < (x1.length : Int) then ((term_Store_Pair.f x1000 (rd x1 x8) x7).bind fun bt184 => (term_Store_List.l1 k x1 bt184.1 (wrap64 (x8 - 1)) bt184.2)) else (none)) else (none)) else (some (x7, x1000))
end
def term_Store_List.f (k : Nat) (s0_0 : TS) (l1 : List Int) : Option (Int × TS) := term_Store_List.l0 k l1 l1 (l1.length : Int) 0 s0_0
theorem term_Store_List.mono_l : ∀ k, (∀ y0 y1 y2 y3 y4, LeO (term_Store_List.l0 k y0 y1 y2 y3 y4) (term_Store_List.l0 (k + 1) y0 y1 y2 y3 y4)) ∧ (∀ y0 y1 y2 y3, LeO (term_Store_List.l1 k y0 y1 y2 y3) (term_Store_List.l1 (k + 1) y0 y1 y2 y3))
  | 0 => ⟨fun _ _ _ _ _ r h => by simp [term_Store_List.l0] at h, fun _ _ _ _ r h => by simp [term_Store_List.l1] at h⟩
  | k + 1 => by
    obtain ⟨ih0, ih1⟩ := term_Store_List.mono_l k
    refine ⟨?_, ?_⟩
    · intro y0 y1 y2 y3 y4
      unfold term_Store_List.l0
      repeat' first
      | (with_reducible exact ih0 _ _ _ _ _)
      | (with_reducible exact ih1 _ _ _ _)
      | (with_reducible exact LeO.refl _)
      | (with_reducible exact LeO.none _)
      | (with_reducible refine LeO.ite ?_ ?_)
      | (with_reducible refine LeO.bind ?_ (fun _ => ?_))
      | exact ih0 _ _ _ _ _
      | exact ih1 _ _ _ _
      | exact LeO.none _
      | refine LeO.ite ?_ ?_
      | refine LeO.bind ?_ (fun _ => ?_)
    · intro y0 y1 y2 y3
      unfold term_Store_List.l1
      repeat' first
      | (with_reducible exact ih0 _ _ _ _ _)
      | (with_reducible exact ih1 _ _ _ _)
      | (with_reducible exact LeO.refl _)
      | (with_reducible exact LeO.none _)
      | (with_reducible refine LeO.ite ?_ ?_)
      | (with_reducible refine LeO.bind ?_ (fun _ => ?_))
      | exact ih0 _ _ _ _ _
      | exact ih1 _ _ _ _
      | exact LeO.none _
      | refine LeO.ite ?_ ?_
      | refine LeO.bind ?_ (fun _ => ?_)
theorem term_Store_List.mono : ∀ a0 a1 k, LeO (term_Store_List.f k a0 a1) (term_Store_List.f (k + 1) a0 a1) := by
  intro a0 a1 k
  obtain ⟨ih0, ih1⟩ := term_Store_List.mono_l k
  unfold term_Store_List.f
  repeat' first
      | (with_reducible exact ih0 _ _ _ _ _)
      | (with_reducible exact ih1 _ _ _ _)
      | (with_reducible exact LeO.refl _)
      | (with_reducible exact LeO.none _)
      | (with_reducible refine LeO.ite ?_ ?_)
      | (with_reducible refine LeO.bind ?_ (fun _ => ?_))
      | exact ih0 _ _ _ _ _
      | exact ih1 _ _ _ _
      | exact LeO.none _
      | refine LeO.ite ?_ ?_
      | refine LeO.bind ?_ (fun _ => ?_)
set_option maxHeartbeats 8000000 in
set_option maxRecDepth 100000 in
theorem term_Store_List.calls (k : Nat) (g : Nat) (s0_0 : TS) (A1 : Option Addr) (c1 : Nat) (l1 : List Int) (r1 : Int) (r2 : TS) (w0 w : World) (hI : IsS80 w0 w g s0_0) (hB : Below w0.heap.size w0 w) (hr1 : Kd.C (Kd.int .i64) w A1 l1.length l1) (hc1 : l1.length ≤ c1) (hf1 : ∀ ad, A1 = some ad → 0 < l1.length → SepB w0 w ad.block) (h : term_Store_List.f k s0_0 l1 = some (r1, r2)) :
    Calls Tryd.prog 33 #[.pointer (some ⟨g, 0, none⟩), .slice A1 l1.length c1] w fun e w' => e = .returned (.int .i64 r1) ∧ IsS80 w0 w' g r2 ∧ Below w0.heap.size w0 w' ∧ KeepSt w w' w0 := by
  have HR1 := Aside0.mk hr1
  have HC1 := Aside0.mk hc1
  clear hr1 hc1
  have HI0 := Aside0.mk hI
  have HK := Aside0.mk (KeepSt.refl w w0)
  have HL := Aside0.mk hB.size
  clear hI
  have HW0 := Aside0.mk hB.size
  have HB := Aside0.mk hB
  clear hB
  have H : (term_Store_List.l0 k l1 l1 (l1.length : Int) 0 s0_0) = some (r1, r2) := h
  clear h
  have H' := Aside0.mk H
  clear H
  go_enter Tryd.func33, Tryd.ntmps33
  go_wp2
  go_loopg [11] k (fun kq v11 w' => ∃ (x11_1 : Int) (x1000_1 : TS), v11 = .int .i64 x11_1 ∧ Aside0 (term_Store_List.l0 kq l1 l1 (l1.length : Int) x11_1 x1000_1 = some (r1, r2)) ∧ Aside0 (kq ≤ k) ∧ Aside0 (IsS80 w0 w' g x1000_1) ∧ Aside0 (KeepSt w w' w0) ∧ Aside0 (Below w0.heap.size w0 w'))
  case atStart => exact ⟨(0), (s0_0), (by first | rfl | (simp; done) | (simp [*]; done)), H', ⟨Nat.le_refl _⟩, ⟨by repeat (first | (with_reducible first | exact HI0.out | apply IsS80.alloc | apply IsS80.drewN | apply IsS80.drew | apply IsS80.set_0) | exact HI0.out)⟩, ⟨by repeat (first | (with_reducible first | exact HK.out | apply KeepSt.drewN | apply KeepSt.drew | apply KeepSt.alloc) | exact HK.out)⟩, ⟨by repeat (first | (with_reducible first | exact HB.out | apply below_alloc | apply pw_below_drewN | apply below_drew1 | refine below_set ?_ (IsS80.ge HI0.out)) | exact HB.out)⟩⟩
  case round =>
    clear H'
    try clear c1
    try clear p2
    obtain ⟨x11_1, x1000_1, rfl, HA, HK1, HI0, HK, HB⟩ := hrel
    cases gk with
    | zero => exact absurd HA.out (by simp [term_Store_List.l0])
    | succ k1 =>
      have H := HA.out
      clear HA
      simp only [term_Store_List.l0] at H
      by_cases c3 : x11_1 < (l1.length : Int)
      · rw [if_pos c3] at H
        have c3b0 : decide (x11_1 < (l1.length : Int)) = true := decide_eq_true c3
        clear c3
        by_cases c4 : 0 ≤ x11_1
        · rw [if_pos c4] at H
          have c4b0 : decide (0 ≤ x11_1) = true := decide_eq_true c4
          clear c4
          by_cases c5 : x11_1 < (l1.length : Int)
          · rw [if_pos c5] at H
            have c5b0 : decide (x11_1 < (l1.length : Int)) = true := decide_eq_true c5
            clear c5
            replace H := Option.bind_eq_some_iff.mp H
            obtain ⟨⟨t179, t180⟩, A60, H⟩ := H
            replace H : (if t179 = true then (term_Store_List.l0 k1 l1 l1 (l1.length : Int) (wrap64 (x11_1 + 1)) t180) else (some (0, t180))) = some (r1, r2) := H
            have A6 := Aside0.mk A60
            clear A60
            by_cases c7 : t179 = true
            · subst c7
              have H1 : (term_Store_List.l0 k1 l1 l1 (l1.length : Int) (wrap64 (x11_1 + 1)) t180) = some (r1, r2) := by rw [if_pos rfl] at H; exact H
              clear H
              have H := H1
              clear H1
              have H' := Aside0.mk H
              clear H
              have p178 : 0 ≤ (x11_1 : Int) := of_decide_eq_true (by first | (with_reducible assumption) | assumption)
              have q178 : x11_1 < (l1.length : Int) := of_decide_eq_true (by first | (with_reducible assumption) | assumption)
              obtain ⟨ad178, e178, hx178_0⟩ := Kd.at_int HR1.out x11_1 p178 q178
              cases e178
              replace hx178_0 := KeepSt.cell HK.out hx178_0 (by first | (rw [add_block]; exact hf1 _ rfl (by omega)) | exact hf1 _ rfl (by omega) | exact hf1 ad178 rfl (by omega))
              replace p178 := eq_true p178
              replace q178 := eq_true q178
              go_wp2_with (first | ((with_reducible refine gate_callee (f := 45) rfl ?_); refine goesL_ (some 17) rfl rfl Tryd.func45 (by kernel_rfl) rfl #[.pointer (some ⟨g, 0, none⟩), .int .i64 (rd l1 x11_1)] rfl (by (try simp only [List.map_toArray, List.map_cons, List.map_nil]); first | done | rfl | (simp only [List.length_drop, List.length_take]; rfl)) ?_; (with_reducible refine (term_Store_known.calls g x1000_1 (rd l1 x11_1) true t180 w0 _ ?side1 ?side2 A6.out).mono ?_); (case side1 => repeat (first | (with_reducible first | exact HI0.out | apply IsS80.alloc | apply IsS80.drewN | apply IsS80.drew | apply IsS80.set_0) | exact HI0.out)); (case side2 => repeat (first | (with_reducible first | exact HB.out | apply below_alloc | apply pw_below_drewN | apply below_drew1 | refine below_set ?_ (IsS80.ge HI0.out)) | exact HB.out)); rintro e w8 ⟨rfl, hi, hb, hk⟩; refine ⟨_, rfl, ?_⟩; have n0_ := Aside0.mk (KeepSt.trans (by repeat (first | (with_reducible first | exact HK.out | apply KeepSt.drewN | apply KeepSt.drew | apply KeepSt.alloc) | exact HK.out)) hk); have n1_ := Aside0.mk (hb); have n2_ := Aside0.mk (hi); clear HK; clear HB; clear HI0; have HK := n0_; have HB := n1_; have HI0 := n2_; clear n0_ n1_ n2_; (try clear hb); (try clear hb2); (try clear hk); (try clear hi)))
              go_roundg k1
              case measure => have := HK1.out; omega
              case rel => exact ⟨(wrap64 (x11_1 + 1)), (t180), (by first | rfl | (simp; done) | (simp [*]; done)), H', ⟨by have := HK1.out; omega⟩, ⟨by repeat (first | (with_reducible first | exact HI0.out | apply IsS80.alloc | apply IsS80.drewN | apply IsS80.drew | apply IsS80.set_0) | exact HI0.out)⟩, ⟨by repeat (first | (with_reducible first | exact HK.out | apply KeepSt.drewN | apply KeepSt.drew | apply KeepSt.alloc) | exact HK.out)⟩, ⟨by repeat (first | (with_reducible first | exact HB.out | apply below_alloc | apply pw_below_drewN | apply below_drew1 | refine below_set ?_ (IsS80.ge HI0.out)) | exact HB.out)⟩⟩
            · replace c7 := Bool.eq_false_iff.mpr c7
              subst c7
              have H1 : (some (0, t180)) = some (r1, r2) := by rw [if_neg (show ¬ (false = true) by decide)] at H; exact H
              clear H
              have H := H1
              clear H1
              simp only [Option.some.injEq, Prod.mk.injEq] at H
              obtain ⟨rfl, rfl⟩ := H
              have p178 : 0 ≤ (x11_1 : Int) := of_decide_eq_true (by first | (with_reducible assumption) | assumption)
              have q178 : x11_1 < (l1.length : Int) := of_decide_eq_true (by first | (with_reducible assumption) | assumption)
              obtain ⟨ad178, e178, hx178_0⟩ := Kd.at_int HR1.out x11_1 p178 q178
              cases e178
              replace hx178_0 := KeepSt.cell HK.out hx178_0 (by first | (rw [add_block]; exact hf1 _ rfl (by omega)) | exact hf1 _ rfl (by omega) | exact hf1 ad178 rfl (by omega))
              replace p178 := eq_true p178
              replace q178 := eq_true q178
              go_wp2_with (first | ((with_reducible refine gate_callee (f := 45) rfl ?_); refine goesL_ (some 17) rfl rfl Tryd.func45 (by kernel_rfl) rfl #[.pointer (some ⟨g, 0, none⟩), .int .i64 (rd l1 x11_1)] rfl (by (try simp only [List.map_toArray, List.map_cons, List.map_nil]); first | done | rfl | (simp only [List.length_drop, List.length_take]; rfl)) ?_; (with_reducible refine (term_Store_known.calls g x1000_1 (rd l1 x11_1) false t180 w0 _ ?side1 ?side2 A6.out).mono ?_); (case side1 => repeat (first | (with_reducible first | exact HI0.out | apply IsS80.alloc | apply IsS80.drewN | apply IsS80.drew | apply IsS80.set_0) | exact HI0.out)); (case side2 => repeat (first | (with_reducible first | exact HB.out | apply below_alloc | apply pw_below_drewN | apply below_drew1 | refine below_set ?_ (IsS80.ge HI0.out)) | exact HB.out)); rintro e w9 ⟨rfl, hi, hb, hk⟩; refine ⟨_, rfl, ?_⟩; have n0_ := Aside0.mk (KeepSt.trans (by repeat (first | (with_reducible first | exact HK.out | apply KeepSt.drewN | apply KeepSt.drew | apply KeepSt.alloc) | exact HK.out)) hk); have n1_ := Aside0.mk (hb); have n2_ := Aside0.mk (hi); clear HK; clear HB; clear HI0; have HK := n0_; have HB := n1_; have HI0 := n2_; clear n0_ n1_ n2_; (try clear hb); (try clear hb2); (try clear hk); (try clear hi)))
              go_ret
              exact ⟨by first | rfl | (simp [errW_none, errW_some] <;> rfl) | (simp [*, errW_none, errW_some] <;> rfl), by repeat (first | (with_reducible first | exact HI0.out | apply IsS80.alloc | apply IsS80.drewN | apply IsS80.drew | apply IsS80.set_0) | exact HI0.out), by repeat (first | (with_reducible first | exact HB.out | apply below_alloc | apply pw_below_drewN | apply below_drew1 | refine below_set ?_ (IsS80.ge HI0.out)) | exact HB.out), by repeat (first | (with_reducible first | exact HK.out | apply KeepSt.drewN | apply KeepSt.drew | apply KeepSt.alloc) | exact HK.out)⟩
          · rw [if_neg c5] at H
            exact absurd H (by simp)
        · rw [if_neg c4] at H
          exact absurd H (by simp)
      · rw [if_neg c3] at H
        have c3b0 : decide (x11_1 < (l1.length : Int)) = false := decide_eq_false c3
        clear c3
        replace H := Option.bind_eq_some_iff.mp H
        obtain ⟨⟨t181, t182⟩, A100, H⟩ := H
        replace H : (term_Store_List.l1 k1 l1 t181 (wrap64 ((l1.length : Int) - 1)) t182) = some (r1, r2) := H
        have A10 := Aside0.mk A100
        clear A100
        have H' := Aside0.mk H
        clear H
        go_wp2_with (first | ((with_reducible refine gate_callee (f := 11) rfl ?_); refine goesL_ (some 21) rfl rfl Tryd.func11 (by kernel_rfl) rfl #[.pointer (some ⟨g, 0, none⟩), .string (⟨#[]⟩ : ByteArray)] rfl (by (try simp only [List.map_toArray, List.map_cons, List.map_nil]); first | done | rfl | (simp only [List.length_drop, List.length_take]; rfl)) ?_; (with_reducible refine (term_Store_Text.calls g x1000_1 (⟨#[]⟩ : ByteArray) t181 t182 w0 _ ?side1 ?side2 A10.out).mono ?_); (case side1 => repeat (first | (with_reducible first | exact HI0.out | apply IsS80.alloc | apply IsS80.drewN | apply IsS80.drew | apply IsS80.set_0) | exact HI0.out)); (case side2 => repeat (first | (with_reducible first | exact HB.out | apply below_alloc | apply pw_below_drewN | apply below_drew1 | refine below_set ?_ (IsS80.ge HI0.out)) | exact HB.out)); rintro e w11 ⟨rfl, hi, hb, hk⟩; refine ⟨_, rfl, ?_⟩; have n0_ := Aside0.mk (KeepSt.trans (by repeat (first | (with_reducible first | exact HK.out | apply KeepSt.drewN | apply KeepSt.drew | apply KeepSt.alloc) | exact HK.out)) hk); have n1_ := Aside0.mk (hb); have n2_ := Aside0.mk (hi); clear HK; clear HB; clear HI0; have HK := n0_; have HB := n1_; have HI0 := n2_; clear n0_ n1_ n2_; (try clear hb); (try clear hb2); (try clear hk); (try clear hi)))
        go_loopg [7, 8] k1 (fun kq v7 v8 w' => ∃ (x7_2 : Int) (x8_2 : Int) (x1000_2 : TS), v7 = .int .i64 x7_2 ∧ v8 = .int .i64 x8_2 ∧ Aside0 (term_Store_List.l1 kq l1 x7_2 x8_2 x1000_2 = some (r1, r2)) ∧ Aside0 (kq ≤ k1) ∧ Aside0 (IsS80 w0 w' g x1000_2) ∧ Aside0 (KeepSt w w' w0) ∧ Aside0 (Below w0.heap.size w0 w'))
        case atStart => exact ⟨(t181), (wrap64 ((l1.length : Int) - 1)), (t182), (by first | rfl | (simp; done) | (simp [*]; done)), (by first | rfl | (simp; done) | (simp [*]; done)), H', ⟨Nat.le_refl _⟩, ⟨by repeat (first | (with_reducible first | exact HI0.out | apply IsS80.alloc | apply IsS80.drewN | apply IsS80.drew | apply IsS80.set_0) | exact HI0.out)⟩, ⟨by repeat (first | (with_reducible first | exact HK.out | apply KeepSt.drewN | apply KeepSt.drew | apply KeepSt.alloc) | exact HK.out)⟩, ⟨by repeat (first | (with_reducible first | exact HB.out | apply below_alloc | apply pw_below_drewN | apply below_drew1 | refine below_set ?_ (IsS80.ge HI0.out)) | exact HB.out)⟩⟩
        case round =>
          clear H'
          try clear c1
          try clear p1
          try clear q1
          try clear hx1
          try clear p2
          try clear c3
          try clear c3b0
          try clear c4
          try clear c4b0
          try clear c5
          try clear c5b0
          try clear p6
          try clear c7
          try clear c11
          try clear hx178_0
          try clear p178
          try clear p2
          try clear q178
          obtain ⟨x7_2, x8_2, x1000_2, rfl, rfl, HA, HK2, HI0, HK, HB⟩ := hrel
          cases gk with
          | zero => exact absurd HA.out (by simp [term_Store_List.l1])
          | succ k2 =>
            have H := HA.out
            clear HA
            simp only [term_Store_List.l1] at H
            by_cases c12 : x8_2 ≥ 0
            · rw [if_pos c12] at H
              have c12b0 : decide (0 ≤ x8_2) = true := decide_eq_true c12
              clear c12
              by_cases c13 : 0 ≤ x8_2
              · rw [if_pos c13] at H
                have c13b0 : decide (0 ≤ x8_2) = true := decide_eq_true c13
                clear c13
                by_cases c14 : x8_2 < (l1.length : Int)
                · rw [if_pos c14] at H
                  have c14b0 : decide (x8_2 < (l1.length : Int)) = true := decide_eq_true c14
                  clear c14
                  replace H := Option.bind_eq_some_iff.mp H
                  obtain ⟨⟨t184, t185⟩, A150, H⟩ := H
                  replace H : (term_Store_List.l1 k2 l1 t184 (wrap64 (x8_2 - 1)) t185) = some (r1, r2) := H
                  have A15 := Aside0.mk A150
                  clear A150
                  have H' := Aside0.mk H
                  clear H
                  have p183 : 0 ≤ (x8_2 : Int) := of_decide_eq_true (by first | (with_reducible assumption) | assumption)
                  have q183 : x8_2 < (l1.length : Int) := of_decide_eq_true (by first | (with_reducible assumption) | assumption)
                  obtain ⟨ad183, e183, hx183_0⟩ := Kd.at_int HR1.out x8_2 p183 q183
                  cases e183
                  replace hx183_0 := KeepSt.cell HK.out hx183_0 (by first | (rw [add_block]; exact hf1 _ rfl (by omega)) | exact hf1 _ rfl (by omega) | exact hf1 ad183 rfl (by omega))
                  replace p183 := eq_true p183
                  replace q183 := eq_true q183
                  go_wp2_with (first | ((with_reducible refine gate_callee (f := 46) rfl ?_); refine goesL_ (some 35) rfl rfl Tryd.func46 (by kernel_rfl) rfl #[.pointer (some ⟨g, 0, none⟩), .int .i64 (rd l1 x8_2), .int .i64 x7_2] rfl (by (try simp only [List.map_toArray, List.map_cons, List.map_nil]); first | done | rfl | (simp only [List.length_drop, List.length_take]; rfl)) ?_; (with_reducible refine (term_Store_Pair.calls g x1000_2 (rd l1 x8_2) x7_2 t184 t185 w0 _ ?side1 ?side2 A15.out).mono ?_); (case side1 => repeat (first | (with_reducible first | exact HI0.out | apply IsS80.alloc | apply IsS80.drewN | apply IsS80.drew | apply IsS80.set_0) | exact HI0.out)); (case side2 => repeat (first | (with_reducible first | exact HB.out | apply below_alloc | apply pw_below_drewN | apply below_drew1 | refine below_set ?_ (IsS80.ge HI0.out)) | exact HB.out)); rintro e w16 ⟨rfl, hi, hb, hk⟩; refine ⟨_, rfl, ?_⟩; have n0_ := Aside0.mk (KeepSt.trans (by repeat (first | (with_reducible first | exact HK.out | apply KeepSt.drewN | apply KeepSt.drew | apply KeepSt.alloc) | exact HK.out)) hk); have n1_ := Aside0.mk (hb); have n2_ := Aside0.mk (hi); clear HK; clear HB; clear HI0; have HK := n0_; have HB := n1_; have HI0 := n2_; clear n0_ n1_ n2_; (try clear hb); (try clear hb2); (try clear hk); (try clear hi)))
                  go_roundg k2
                  case measure => have := HK1.out; have := HK2.out; omega
                  case rel => exact ⟨(t184), (wrap64 (x8_2 - 1)), (t185), (by first | rfl | (simp; done) | (simp [*]; done)), (by first | rfl | (simp; done) | (simp [*]; done)), H', ⟨by have := HK1.out; have := HK2.out; omega⟩, ⟨by repeat (first | (with_reducible first | exact HI0.out | apply IsS80.alloc | apply IsS80.drewN | apply IsS80.drew | apply IsS80.set_0) | exact HI0.out)⟩, ⟨by repeat (first | (with_reducible first | exact HK.out | apply KeepSt.drewN | apply KeepSt.drew | apply KeepSt.alloc) | exact HK.out)⟩, ⟨by repeat (first | (with_reducible first | exact HB.out | apply below_alloc | apply pw_below_drewN | apply below_drew1 | refine below_set ?_ (IsS80.ge HI0.out)) | exact HB.out)⟩⟩
                · rw [if_neg c14] at H
                  exact absurd H (by simp)
              · rw [if_neg c13] at H
                exact absurd H (by simp)
            · rw [if_neg c12] at H
              have c12b0 : decide (0 ≤ x8_2) = false := decide_eq_false c12
              clear c12
              simp only [Option.some.injEq, Prod.mk.injEq] at H
              obtain ⟨rfl, rfl⟩ := H
              go_wp2
              go_ret
              exact ⟨by first | rfl | (simp [errW_none, errW_some] <;> rfl) | (simp [*, errW_none, errW_some] <;> rfl), by repeat (first | (with_reducible first | exact HI0.out | apply IsS80.alloc | apply IsS80.drewN | apply IsS80.drew | apply IsS80.set_0) | exact HI0.out), by repeat (first | (with_reducible first | exact HB.out | apply below_alloc | apply pw_below_drewN | apply below_drew1 | refine below_set ?_ (IsS80.ge HI0.out)) | exact HB.out), by repeat (first | (with_reducible first | exact HK.out | apply KeepSt.drewN | apply KeepSt.drew | apply KeepSt.alloc) | exact HK.out)⟩
def TabH (w : World) : Prop := ∀ j, j < Lib.deBruijn64tab.length → w.cell? ⟨2, j, none⟩ = some (.int .u8 (Lib.deBruijn64tab.getD j 0))
theorem TabH.lt {w : World} (h : TabH w) : 2 < w.heap.size := World.block_lt_of_cell? w _ (h 0 (by decide))
theorem TabH.heap {w w' : World} (h : TabH w) (hb : w'.heap[2]? = w.heap[2]?) : TabH w' := fun j hj => by
  rw [show w'.cell? ⟨2, j, none⟩ = w.cell? ⟨2, j, none⟩ by simp [World.cell?, hb]]; exact h j hj
theorem TabH.below {w w' : World} (h : TabH w) (hb : Below w.heap.size w w') : TabH w' := h.heap (hb.block _ h.lt)
theorem TabH.drewN {w : World} (h : TabH w) (n : Nat) : TabH (w.drewN n) := h
def TabN (w : World) : Prop := Lib.TabIs Tryd.prog w "internal/strconv.uint64pow10" .u64 Lib.pow10Tab
theorem gPow : Tryd.prog.globalNamed "internal/strconv.uint64pow10" = some 0 := by kernel_rfl
theorem TabN.lt {w : World} (h : TabN w) : 0 < w.heap.size := by
  unfold TabN Lib.TabIs World.var? at h
  rw [gPow, Option.bind_some] at h
  cases hq : w.heap[0]? with
  | none => rw [hq] at h; cases h
  | some o => exact (Array.getElem?_eq_some_iff.1 hq).1
theorem TabN.below {w w' : World} (h : TabN w) (hb : Below w.heap.size w w') : TabN w' := by
  have hl := h.lt
  unfold TabN Lib.TabIs World.var? at *
  rw [gPow, Option.bind_some] at *
  rw [hb.block _ hl]
  exact h
theorem TabN.drewN {w : World} (h : TabN w) (n : Nat) : TabN (w.drewN n) := h
def TabG (w : World) : Prop := TabN w ∧ TabH w
theorem TabG.n {w : World} (h : TabG w) : TabN w := h.1
theorem TabG.h {w : World} (h : TabG w) : TabH w := h.2
theorem TabG.below {w w' : World} (h : TabG w) (hb : Below w.heap.size w w') : TabG w' := ⟨h.1.below hb, h.2.below hb⟩
theorem TabG.drewN {w : World} (h : TabG w) (n : Nat) : TabG (w.drewN n) := h
theorem TabG.lt {w : World} (h : TabG w) : 2 < w.heap.size := by have := h.h.lt; have := (show TabG w from h); first | exact h.h.lt | exact h.1.lt
theorem grow_below (B : Nat) (w : World) (hB : B ≤ w.heap.size) (k : Nat) (os : Array Obj) : Below B w (Go.«Sort».grow (w.drewN k) os) :=
  ⟨rfl, rfl, rfl, by simp [Go.«Sort».grow], fun i hi => by
    show (w.heap ++ os)[i]? = w.heap[i]?
    rw [Array.getElem?_append_left (by omega)]⟩
def decF : Nat → Nat → List UInt8
  | 0, _ => []
  | f + 1, u => if u < 10 then [UInt8.ofNat (48 + u)] else decF f (u / 10) ++ [UInt8.ofNat (48 + u % 10)]
theorem decF_eq : ∀ (f u : Nat), u < 10 ^ (f + 1) → decF (f + 1) u = Lib.decDigits u
  | f, u, h => by
    rw [decF, Lib.decDigits]
    by_cases hu : u < 10
    · rw [if_pos hu, dif_pos hu]
    · rw [if_neg hu, dif_neg hu]
      match f, h with
      | 0, h => simp at h; omega
      | f + 1, h => rw [decF_eq f (u / 10) (by rw [Nat.pow_succ] at h; omega)]
def numL (n : Int) : List UInt8 := if n < 0 then 45 :: decF 20 n.natAbs else decF 20 n.toNat
theorem numL_eq (n : Int) (h0 : -9223372036854775808 ≤ n) (h1 : n ≤ 9223372036854775807) : numL n = Lib.itoa n := by
  unfold numL Lib.itoa
  rw [decF_eq 19 _ (by simp; omega), decF_eq 19 _ (by simp; omega)]
def num (n : Int) : ByteArray := ⟨(numL n).toArray⟩
def digest_Number.f (s0_0 : TS) (a1 : Int) : Option (Int × TS) := if -9223372036854775808 ≤ a1 ∧ a1 ≤ 9223372036854775807 then some (put s0_0 ⟨2, num a1, 0, 0⟩) else none
set_option maxHeartbeats 1000000 in
theorem digest_Number.calls (g : Nat) (s0_0 : TS) (a1 : Int) (r1 : Int) (r2 : TS) (w0 w : World) (hrG : TabG w0) (hI : IsS80 w0 w g s0_0) (hB : Below w0.heap.size w0 w) (h : digest_Number.f s0_0 a1 = some (r1, r2)) :
    Calls Tryd.prog 34 #[.pointer (some ⟨g, 0, none⟩), .int .i64 a1] w fun e w' => e = .returned (.int .i64 r1) ∧ IsS80 w0 w' g r2 ∧ Below w0.heap.size w0 w' ∧ KeepSt w w' w0 := by
  unfold digest_Number.f at h
  split at h
  case isFalse => cases h
  rename_i hn
  have hT := (hrG.below hB).n
  have hi0 := Tryd.strconv_Itoa a1 hn.1 hn.2 w hT
  rw [← numL_eq a1 hn.1 hn.2] at hi0
  have hi := Lib.hid hi0
  clear hi0
  have ht := fun wx (hx : IsS80 w0 wx g s0_0) (hb : Below w0.heap.size w0 wx) => term_Store_Text.calls g s0_0 (num a1) r1 r2 w0 wx hx hb (by simpa [term_Store_Text.f] using h)
  have HT := Lib.hid ht
  have HI := Lib.hid hI
  have HB := Lib.hid hB
  clear ht hT h hI hB hrG hn
  go_enter Tryd.func34, Tryd.ntmps34
  go_wp2_with fail
  refine hi.out.mono ?_
  rintro e w1 ⟨rfl, k, os, rfl⟩
  have hb1 := Lib.hid (grow_below w.heap.size w (Nat.le_refl _) k os)
  have HI1 := Lib.hid (HI.out.below hb1.out)
  have HB1 := Lib.hid (HB.out.trans (hb1.out.mono HB.out.size))
  generalize Go.«Sort».grow (w.drewN k) os = w1 at *
  go_wp2_with fail
  refine (HT.out _ HI1.out HB1.out).mono ?_
  rintro e w2 ⟨rfl, h2, h3, h4⟩
  go_wp2
  go_ret
  exact ⟨rfl, h2, h3, (KeepSt.of_below hb1.out w0).trans h4⟩
def schedule_Context.f (k : Nat) (s0_0 : TS) (a1 : Int) (a2 : Int) (a3 : Int) (a4 : Int) : Option (Int × TS) := (digest_Number.f s0_0 a1).bind fun bt205 => ((digest_Number.f bt205.2 a2).bind fun bt207 => ((term_Store_List.f k bt207.2 (([bt205.1, bt207.1, a3, a4] : List Int))).bind fun bt212 => (some (bt212.1, bt212.2))))
theorem schedule_Context.mono : ∀ a0 a1 a2 a3 a4 k, LeO (schedule_Context.f k a0 a1 a2 a3 a4) (schedule_Context.f (k + 1) a0 a1 a2 a3 a4) := by
  intro a0 a1 a2 a3 a4 k
  unfold schedule_Context.f
  repeat' first
      | (with_reducible exact term_Store_List.mono _ _ _)
      | (with_reducible exact LeO.refl _)
      | (with_reducible exact LeO.none _)
      | (with_reducible refine LeO.ite ?_ ?_)
      | (with_reducible refine LeO.bind ?_ (fun _ => ?_))
      | exact term_Store_List.mono _ _ _
      | exact LeO.none _
      | refine LeO.ite ?_ ?_
      | refine LeO.bind ?_ (fun _ => ?_)
set_option maxHeartbeats 8000000 in
set_option maxRecDepth 100000 in
theorem schedule_Context.calls (k : Nat) (g : Nat) (s0_0 : TS) (a1 : Int) (a2 : Int) (a3 : Int) (a4 : Int) (r1 : Int) (r2 : TS) (w0 w : World) (hrG : TabG w0) (hI : IsS80 w0 w g s0_0) (hB : Below w0.heap.size w0 w) (h : schedule_Context.f k s0_0 a1 a2 a3 a4 = some (r1, r2)) :
    Calls Tryd.prog 9 #[.pointer (some ⟨g, 0, none⟩), .int .i64 a1, .int .i64 a2, .int .i64 a3, .int .i64 a4] w fun e w' => e = .returned (.int .i64 r1) ∧ IsS80 w0 w' g r2 ∧ Below w0.heap.size w0 w' ∧ KeepSt w w' w0 := by
  have HRG := Aside0.mk hrG
  clear hrG
  have HI0 := Aside0.mk hI
  have HK := Aside0.mk (KeepSt.refl w w0)
  have HL := Aside0.mk hB.size
  clear hI
  have HW0 := Aside0.mk hB.size
  have HB := Aside0.mk hB
  clear hB
  have H : ((digest_Number.f s0_0 a1).bind fun bt205 => ((digest_Number.f bt205.2 a2).bind fun bt207 => ((term_Store_List.f k bt207.2 (([bt205.1, bt207.1, a3, a4] : List Int))).bind fun bt212 => (some (bt212.1, bt212.2))))) = some (r1, r2) := h
  clear h
  replace H := Option.bind_eq_some_iff.mp H
  obtain ⟨⟨t205, t206⟩, A60, H⟩ := H
  replace H : ((digest_Number.f t206 a2).bind fun bt207 => ((term_Store_List.f k bt207.2 (([t205, bt207.1, a3, a4] : List Int))).bind fun bt212 => (some (bt212.1, bt212.2)))) = some (r1, r2) := H
  have A6 := Aside0.mk A60
  clear A60
  replace H := Option.bind_eq_some_iff.mp H
  obtain ⟨⟨t207, t208⟩, A70, H⟩ := H
  replace H : ((term_Store_List.f k t208 (([t205, t207, a3, a4] : List Int))).bind fun bt212 => (some (bt212.1, bt212.2))) = some (r1, r2) := H
  have A7 := Aside0.mk A70
  clear A70
  obtain ⟨y209, hy209⟩ : ∃ y_ : List Int, y_ = (([t205, t207, a3, a4] : List Int)) := ⟨_, rfl⟩
  replace H : ((term_Store_List.f k t208 y209).bind fun bt212 => (some (bt212.1, bt212.2))) = some (r1, r2) := by first | (rw [hy209]; with_reducible exact H) | (have H2_ := (Option.bind_some _ _).symm.trans H; rw [hy209]; with_reducible exact H2_) | (have H2_ := (Option.bind_some _ _).symm.trans H; with_reducible exact H2_) | with_reducible exact H | (rw [hy209]; exact H) | exact H
  have Ny209 := Aside0.mk hy209
  clear hy209
  replace H := Option.bind_eq_some_iff.mp H
  obtain ⟨⟨t212, t213⟩, A80, H⟩ := H
  replace H : (some (t212, t213)) = some (r1, r2) := H
  have A8 := Aside0.mk A80
  clear A80
  simp only [Option.some.injEq, Prod.mk.injEq] at H
  obtain ⟨rfl, rfl⟩ := H
  go_enter Tryd.func9, Tryd.ntmps9
  go_wp2_with (first | ((with_reducible refine gate_callee (f := 34) rfl ?_); refine goesL_ (some 14) rfl rfl Tryd.func34 (by kernel_rfl) rfl #[.pointer (some ⟨g, 0, none⟩), .int .i64 a1] rfl (by (try simp only [List.map_toArray, List.map_cons, List.map_nil]); first | done | rfl | (simp only [List.length_drop, List.length_take]; rfl)) ?_; (with_reducible refine (digest_Number.calls (hrG := ?sideG) g s0_0 a1 t205 t206 w0 _ ?side1 ?side2 A6.out).mono ?_); (case sideG => (first | (with_reducible exact HRG.out) | exact TabG.below HRG.out (by repeat (first | (with_reducible first | exact HB.out | apply below_alloc | apply pw_below_drewN | apply below_drew1 | refine below_set ?_ (IsS80.ge HI0.out)) | (with_reducible exact Below.refl _ _))))); (case side1 => repeat (first | (with_reducible first | exact HI0.out | apply IsS80.alloc | apply IsS80.drewN | apply IsS80.drew | apply IsS80.set_0) | exact HI0.out)); (case side2 => repeat (first | (with_reducible first | exact HB.out | apply below_alloc | apply pw_below_drewN | apply below_drew1 | refine below_set ?_ (IsS80.ge HI0.out)) | exact HB.out)); rintro e w9 ⟨rfl, hi, hb, hk⟩; refine ⟨_, rfl, ?_⟩; have n0_ := Aside0.mk (KeepSt.trans (by repeat (first | (with_reducible first | exact HK.out | apply KeepSt.drewN | apply KeepSt.drew | apply KeepSt.alloc) | exact HK.out)) hk); have n1_ := Aside0.mk (hb); have n2_ := Aside0.mk (hi); clear HK; clear HB; clear HI0; have HK := n0_; have HB := n1_; have HI0 := n2_; clear n0_ n1_ n2_; (try clear hb); (try clear hb2); (try clear hk); (try clear hi)) | ((with_reducible refine gate_callee (f := 34) rfl ?_); refine goesL_ (some 17) rfl rfl Tryd.func34 (by kernel_rfl) rfl #[.pointer (some ⟨g, 0, none⟩), .int .i64 a2] rfl (by (try simp only [List.map_toArray, List.map_cons, List.map_nil]); first | done | rfl | (simp only [List.length_drop, List.length_take]; rfl)) ?_; (with_reducible refine (digest_Number.calls (hrG := ?sideG) g t206 a2 t207 t208 w0 _ ?side1 ?side2 A7.out).mono ?_); (case sideG => (first | (with_reducible exact HRG.out) | exact TabG.below HRG.out (by repeat (first | (with_reducible first | exact HB.out | apply below_alloc | apply pw_below_drewN | apply below_drew1 | refine below_set ?_ (IsS80.ge HI0.out)) | (with_reducible exact Below.refl _ _))))); (case side1 => repeat (first | (with_reducible first | exact HI0.out | apply IsS80.alloc | apply IsS80.drewN | apply IsS80.drew | apply IsS80.set_0) | exact HI0.out)); (case side2 => repeat (first | (with_reducible first | exact HB.out | apply below_alloc | apply pw_below_drewN | apply below_drew1 | refine below_set ?_ (IsS80.ge HI0.out)) | exact HB.out)); rintro e w10 ⟨rfl, hi, hb, hk⟩; refine ⟨_, rfl, ?_⟩; have n0_ := Aside0.mk (KeepSt.trans (by repeat (first | (with_reducible first | exact HK.out | apply KeepSt.drewN | apply KeepSt.drew | apply KeepSt.alloc) | exact HK.out)) hk); have n1_ := Aside0.mk (hb); have n2_ := Aside0.mk (hi); clear HK; clear HB; clear HI0; have HK := n0_; have HB := n1_; have HI0 := n2_; clear n0_ n1_ n2_; (try clear hb); (try clear hb2); (try clear hk); (try clear hi)) | ((with_reducible refine gate_dst (N := 20) rfl ?_); refine Kd.R_lit (Kd.int .i64) _ 3 ?hg (N := 20) ?hd (xs := ([t205, t207, a3, a4] : List Int)) (inner := [.int .i64 t205, .int .i64 t207, .int .i64 a3, .int .i64 a4]) (ok := fun _ => True) (okp := fun _ => True) ?hr ?hp (fun _ hk => hk) trivial (Below.refl _ _) (Nat.le_refl _) (by simp) ?_; (case hd => rfl); (case hg => rfl); (case hr => first | (go_simp; done) | (go_simp; rfl)); (case hp => exact (Reps.one (show Kd.M (Kd.int .i64) _ _ _ t205 [.int .i64 t205] from rfl) (Reps.one (show Kd.M (Kd.int .i64) _ _ _ t207 [.int .i64 t207] from rfl) (Reps.one (show Kd.M (Kd.int .i64) _ _ _ a3 [.int .i64 a3] from rfl) (Reps.one (show Kd.M (Kd.int .i64) _ _ _ a4 [.int .i64 a4] from rfl) (Reps.none _ _)))))); intro v210 w11 ho12 hb hg_ hnew_; clear hg_ hnew_; (first | rw [← Ny209.out] at ho12 | (simp only [Int.reduceToNat] at ho12; rw [← Ny209.out] at ho12)); have n0_ := Aside0.mk (Kd.R_lower ho12 (KeepSt.size (w := w) (w0 := w0) (by repeat (first | (with_reducible first | exact HK.out | apply KeepSt.drewN | apply KeepSt.drew | apply KeepSt.alloc) | exact HK.out)))); have n1_ := Aside0.mk (IsS80.below (by repeat (first | (with_reducible first | exact HI0.out | apply IsS80.alloc | apply IsS80.drewN | apply IsS80.drew | apply IsS80.set_0) | exact HI0.out)) hb); have n2_ := Aside0.mk (KeepSt.trans (by repeat (first | (with_reducible first | exact HK.out | apply KeepSt.drewN | apply KeepSt.drew | apply KeepSt.alloc) | exact HK.out)) (KeepSt.of_below hb w0)); have n3_ := Aside0.mk (below_step (by repeat (first | (with_reducible first | exact HB.out | apply below_alloc | apply pw_below_drewN | apply below_drew1 | refine below_set ?_ (IsS80.ge HI0.out)) | exact HB.out)) hb); clear HI0; clear HK; clear HB; have HO211 := n0_; have HI0 := n1_; have HK := n2_; have HB := n3_; clear n0_ n1_ n2_ n3_; clear hb ho12; obtain ⟨Ao13, co13, eo13⟩ := Kd.R_slice HO211.out; subst eo13) | ((with_reducible refine gate_callee (f := 33) rfl ?_); refine goesL_ (some 21) rfl rfl Tryd.func33 (by kernel_rfl) rfl #[.pointer (some ⟨g, 0, none⟩), .slice Ao13 y209.length co13] rfl (by (try simp only [List.map_toArray, List.map_cons, List.map_nil]); first | done | rfl | (simp only [List.length_drop, List.length_take]; rfl)) ?_; (with_reducible refine (term_Store_List.calls k g t208 _ _ y209 t212 t213 w0 _ ?side1 ?side2 ?side3 ?side4 ?side5 A8.out).mono ?_); (case side1 => repeat (first | (with_reducible first | exact HI0.out | apply IsS80.alloc | apply IsS80.drewN | apply IsS80.drew | apply IsS80.set_0) | exact HI0.out)); (case side2 => repeat (first | (with_reducible first | exact HB.out | apply below_alloc | apply pw_below_drewN | apply below_drew1 | refine below_set ?_ (IsS80.ge HI0.out)) | exact HB.out)); (case side3 => repeat (first | exact (Kd.R_reads' HO211.out).2.2 | (with_reducible refine Kd.C_alloc ?_ _) | (with_reducible refine Kd.C_drewN ?_ _) | (with_reducible refine Kd.C_drew ?_))); (case side4 => exact (Kd.R_reads' HO211.out).2.1); (case side5 => exact Kd.far_R (by (with_reducible repeat (first | apply Kd.R_alloc | apply Kd.R_drewN | apply Kd.R_drew)); exact HO211.out) (by decide)); rintro e w14 ⟨rfl, hi, hb, hk⟩; refine ⟨_, rfl, ?_⟩; have n0_ := Aside0.mk (Kd.R_mono (Kd.R_keepSt (IsS80.apart (show IsS80 w0 _ g t208 from by repeat (first | (with_reducible first | exact HI0.out | apply IsS80.alloc | apply IsS80.drewN | apply IsS80.drew | apply IsS80.set_0) | exact HI0.out)) (by (with_reducible repeat (first | apply Kd.R_alloc | apply Kd.R_drewN | apply Kd.R_drew)); exact HO211.out) (by decide)) hk (fun _ h => h.2)) (fun _ h => h.1)); have n1_ := Aside0.mk (KeepSt.trans (by repeat (first | (with_reducible first | exact HK.out | apply KeepSt.drewN | apply KeepSt.drew | apply KeepSt.alloc) | exact HK.out)) hk); have n2_ := Aside0.mk (hb); have n3_ := Aside0.mk (hi); clear HO211; clear HK; clear HB; clear HI0; have HO211 := n0_; have HK := n1_; have HB := n2_; have HI0 := n3_; clear n0_ n1_ n2_ n3_; (try clear hb); (try clear hb2); (try clear hk); (try clear hi)))
  go_ret
  exact ⟨by first | rfl | (simp [errW_none, errW_some] <;> rfl) | (simp [*, errW_none, errW_some] <;> rfl), by repeat (first | (with_reducible first | exact HI0.out | apply IsS80.alloc | apply IsS80.drewN | apply IsS80.drew | apply IsS80.set_0) | exact HI0.out), by repeat (first | (with_reducible first | exact HB.out | apply below_alloc | apply pw_below_drewN | apply below_drew1 | refine below_set ?_ (IsS80.ge HI0.out)) | exact HB.out), by repeat (first | (with_reducible first | exact HK.out | apply KeepSt.drewN | apply KeepSt.drew | apply KeepSt.alloc) | exact HK.out)⟩
def term_Store_Hash.f (s0_0 : TS) (a1 : ByteArray) (a2 : Int) : Option (Int × TS) := some (put s0_0 ⟨4, a1, a2, 0⟩)
theorem term_Store_Hash.calls (g : Nat) (s0_0 : TS) (a1 : ByteArray) (a2 : Int) (r1 : Int) (r2 : TS) (w0 w : World) (hI : IsS80 w0 w g s0_0) (hB : Below w0.heap.size w0 w) (h : term_Store_Hash.f s0_0 a1 a2 = some (r1, r2)) :
    Calls Tryd.prog 36 #[.pointer (some ⟨g, 0, none⟩), .string a1, .int .i64 a2] w fun e w' => e = .returned (.int .i64 r1) ∧ IsS80 w0 w' g r2 ∧ Below w0.heap.size w0 w' ∧ KeepSt w w' w0 := by
  cases h
  refine st_next hI hB fun q h1 h2 h3 h4 => ?_
  have := hash_calls h4 a1 a2
  rw [St.ptr, h1, h2, h3] at this
  exact this
def schedule_Confirmed.f (k : Nat) (s0_0 : TS) (a1 : Int) (a2 : Int) (a3 : Int) : Option (Int × TS) := (term_Store_List.f k s0_0 (([a1, a2, a3] : List Int))).bind fun bt217 => ((term_Store_Hash.f bt217.2 (⟨#[99, 111, 110, 102, 105, 114, 109, 101, 100]⟩ : ByteArray) bt217.1).bind fun bt219 => (some (bt219.1, bt219.2)))
theorem schedule_Confirmed.mono : ∀ a0 a1 a2 a3 k, LeO (schedule_Confirmed.f k a0 a1 a2 a3) (schedule_Confirmed.f (k + 1) a0 a1 a2 a3) := by
  intro a0 a1 a2 a3 k
  unfold schedule_Confirmed.f
  repeat' first
      | (with_reducible exact term_Store_List.mono _ _ _)
      | (with_reducible exact LeO.refl _)
      | (with_reducible exact LeO.none _)
      | (with_reducible refine LeO.ite ?_ ?_)
      | (with_reducible refine LeO.bind ?_ (fun _ => ?_))
      | exact term_Store_List.mono _ _ _
      | exact LeO.none _
      | refine LeO.ite ?_ ?_
      | refine LeO.bind ?_ (fun _ => ?_)
set_option maxHeartbeats 8000000 in
set_option maxRecDepth 100000 in
theorem schedule_Confirmed.calls (k : Nat) (g : Nat) (s0_0 : TS) (a1 : Int) (a2 : Int) (a3 : Int) (r1 : Int) (r2 : TS) (w0 w : World) (hI : IsS80 w0 w g s0_0) (hB : Below w0.heap.size w0 w) (h : schedule_Confirmed.f k s0_0 a1 a2 a3 = some (r1, r2)) :
    Calls Tryd.prog 15 #[.pointer (some ⟨g, 0, none⟩), .int .i64 a1, .int .i64 a2, .int .i64 a3] w fun e w' => e = .returned (.int .i64 r1) ∧ IsS80 w0 w' g r2 ∧ Below w0.heap.size w0 w' ∧ KeepSt w w' w0 := by
  have HI0 := Aside0.mk hI
  have HK := Aside0.mk (KeepSt.refl w w0)
  have HL := Aside0.mk hB.size
  clear hI
  have HW0 := Aside0.mk hB.size
  have HB := Aside0.mk hB
  clear hB
  have H : ((term_Store_List.f k s0_0 (([a1, a2, a3] : List Int))).bind fun bt217 => ((term_Store_Hash.f bt217.2 (⟨#[99, 111, 110, 102, 105, 114, 109, 101, 100]⟩ : ByteArray) bt217.1).bind fun bt219 => (some (bt219.1, bt219.2)))) = some (r1, r2) := h
  clear h
  obtain ⟨y214, hy214⟩ : ∃ y_ : List Int, y_ = (([a1, a2, a3] : List Int)) := ⟨_, rfl⟩
  replace H : ((term_Store_List.f k s0_0 y214).bind fun bt217 => ((term_Store_Hash.f bt217.2 (⟨#[99, 111, 110, 102, 105, 114, 109, 101, 100]⟩ : ByteArray) bt217.1).bind fun bt219 => (some (bt219.1, bt219.2)))) = some (r1, r2) := by first | (rw [hy214]; with_reducible exact H) | (have H2_ := (Option.bind_some _ _).symm.trans H; rw [hy214]; with_reducible exact H2_) | (have H2_ := (Option.bind_some _ _).symm.trans H; with_reducible exact H2_) | with_reducible exact H | (rw [hy214]; exact H) | exact H
  have Ny214 := Aside0.mk hy214
  clear hy214
  replace H := Option.bind_eq_some_iff.mp H
  obtain ⟨⟨t217, t218⟩, A50, H⟩ := H
  replace H : ((term_Store_Hash.f t218 (⟨#[99, 111, 110, 102, 105, 114, 109, 101, 100]⟩ : ByteArray) t217).bind fun bt219 => (some (bt219.1, bt219.2))) = some (r1, r2) := H
  have A5 := Aside0.mk A50
  clear A50
  replace H := Option.bind_eq_some_iff.mp H
  obtain ⟨⟨t219, t220⟩, A60, H⟩ := H
  replace H : (some (t219, t220)) = some (r1, r2) := H
  have A6 := Aside0.mk A60
  clear A60
  simp only [Option.some.injEq, Prod.mk.injEq] at H
  obtain ⟨rfl, rfl⟩ := H
  go_enter Tryd.func15, Tryd.ntmps15
  go_wp2_with (first | ((with_reducible refine gate_dst (N := 14) rfl ?_); refine Kd.R_lit (Kd.int .i64) _ 3 ?hg (N := 14) ?hd (xs := ([a1, a2, a3] : List Int)) (inner := [.int .i64 a1, .int .i64 a2, .int .i64 a3]) (ok := fun _ => True) (okp := fun _ => True) ?hr ?hp (fun _ hk => hk) trivial (Below.refl _ _) (Nat.le_refl _) (by simp) ?_; (case hd => rfl); (case hg => rfl); (case hr => first | (go_simp; done) | (go_simp; rfl)); (case hp => exact (Reps.one (show Kd.M (Kd.int .i64) _ _ _ a1 [.int .i64 a1] from rfl) (Reps.one (show Kd.M (Kd.int .i64) _ _ _ a2 [.int .i64 a2] from rfl) (Reps.one (show Kd.M (Kd.int .i64) _ _ _ a3 [.int .i64 a3] from rfl) (Reps.none _ _))))); intro v215 w7 ho8 hb hg_ hnew_; clear hg_ hnew_; (first | rw [← Ny214.out] at ho8 | (simp only [Int.reduceToNat] at ho8; rw [← Ny214.out] at ho8)); have n0_ := Aside0.mk (Kd.R_lower ho8 (KeepSt.size (w := w) (w0 := w0) (by repeat (first | (with_reducible first | exact HK.out | apply KeepSt.drewN | apply KeepSt.drew | apply KeepSt.alloc) | exact HK.out)))); have n1_ := Aside0.mk (IsS80.below (by repeat (first | (with_reducible first | exact HI0.out | apply IsS80.alloc | apply IsS80.drewN | apply IsS80.drew | apply IsS80.set_0) | exact HI0.out)) hb); have n2_ := Aside0.mk (KeepSt.trans (by repeat (first | (with_reducible first | exact HK.out | apply KeepSt.drewN | apply KeepSt.drew | apply KeepSt.alloc) | exact HK.out)) (KeepSt.of_below hb w0)); have n3_ := Aside0.mk (below_step (by repeat (first | (with_reducible first | exact HB.out | apply below_alloc | apply pw_below_drewN | apply below_drew1 | refine below_set ?_ (IsS80.ge HI0.out)) | exact HB.out)) hb); clear HI0; clear HK; clear HB; have HO216 := n0_; have HI0 := n1_; have HK := n2_; have HB := n3_; clear n0_ n1_ n2_ n3_; clear hb ho8; obtain ⟨Ao9, co9, eo9⟩ := Kd.R_slice HO216.out; subst eo9) | ((with_reducible refine gate_callee (f := 33) rfl ?_); refine goesL_ (some 15) rfl rfl Tryd.func33 (by kernel_rfl) rfl #[.pointer (some ⟨g, 0, none⟩), .slice Ao9 y214.length co9] rfl (by (try simp only [List.map_toArray, List.map_cons, List.map_nil]); first | done | rfl | (simp only [List.length_drop, List.length_take]; rfl)) ?_; (with_reducible refine (term_Store_List.calls k g s0_0 _ _ y214 t217 t218 w0 _ ?side1 ?side2 ?side3 ?side4 ?side5 A5.out).mono ?_); (case side1 => repeat (first | (with_reducible first | exact HI0.out | apply IsS80.alloc | apply IsS80.drewN | apply IsS80.drew | apply IsS80.set_0) | exact HI0.out)); (case side2 => repeat (first | (with_reducible first | exact HB.out | apply below_alloc | apply pw_below_drewN | apply below_drew1 | refine below_set ?_ (IsS80.ge HI0.out)) | exact HB.out)); (case side3 => repeat (first | exact (Kd.R_reads' HO216.out).2.2 | (with_reducible refine Kd.C_alloc ?_ _) | (with_reducible refine Kd.C_drewN ?_ _) | (with_reducible refine Kd.C_drew ?_))); (case side4 => exact (Kd.R_reads' HO216.out).2.1); (case side5 => exact Kd.far_R (by (with_reducible repeat (first | apply Kd.R_alloc | apply Kd.R_drewN | apply Kd.R_drew)); exact HO216.out) (by decide)); rintro e w10 ⟨rfl, hi, hb, hk⟩; refine ⟨_, rfl, ?_⟩; have n0_ := Aside0.mk (Kd.R_mono (Kd.R_keepSt (IsS80.apart (show IsS80 w0 _ g s0_0 from by repeat (first | (with_reducible first | exact HI0.out | apply IsS80.alloc | apply IsS80.drewN | apply IsS80.drew | apply IsS80.set_0) | exact HI0.out)) (by (with_reducible repeat (first | apply Kd.R_alloc | apply Kd.R_drewN | apply Kd.R_drew)); exact HO216.out) (by decide)) hk (fun _ h => h.2)) (fun _ h => h.1)); have n1_ := Aside0.mk (KeepSt.trans (by repeat (first | (with_reducible first | exact HK.out | apply KeepSt.drewN | apply KeepSt.drew | apply KeepSt.alloc) | exact HK.out)) hk); have n2_ := Aside0.mk (hb); have n3_ := Aside0.mk (hi); clear HO216; clear HK; clear HB; clear HI0; have HO216 := n0_; have HK := n1_; have HB := n2_; have HI0 := n3_; clear n0_ n1_ n2_ n3_; (try clear hb); (try clear hb2); (try clear hk); (try clear hi)) | ((with_reducible refine gate_callee (f := 36) rfl ?_); refine goesL_ (some 16) rfl rfl Tryd.func36 (by kernel_rfl) rfl #[.pointer (some ⟨g, 0, none⟩), .string (⟨#[99, 111, 110, 102, 105, 114, 109, 101, 100]⟩ : ByteArray), .int .i64 t217] rfl (by (try simp only [List.map_toArray, List.map_cons, List.map_nil]); first | done | rfl | (simp only [List.length_drop, List.length_take]; rfl)) ?_; (with_reducible refine (term_Store_Hash.calls g t218 (⟨#[99, 111, 110, 102, 105, 114, 109, 101, 100]⟩ : ByteArray) t217 t219 t220 w0 _ ?side1 ?side2 A6.out).mono ?_); (case side1 => repeat (first | (with_reducible first | exact HI0.out | apply IsS80.alloc | apply IsS80.drewN | apply IsS80.drew | apply IsS80.set_0) | exact HI0.out)); (case side2 => repeat (first | (with_reducible first | exact HB.out | apply below_alloc | apply pw_below_drewN | apply below_drew1 | refine below_set ?_ (IsS80.ge HI0.out)) | exact HB.out)); rintro e w11 ⟨rfl, hi, hb, hk⟩; refine ⟨_, rfl, ?_⟩; have n0_ := Aside0.mk (Kd.R_mono (Kd.R_keepSt (IsS80.apart (show IsS80 w0 _ g t218 from by repeat (first | (with_reducible first | exact HI0.out | apply IsS80.alloc | apply IsS80.drewN | apply IsS80.drew | apply IsS80.set_0) | exact HI0.out)) (by (with_reducible repeat (first | apply Kd.R_alloc | apply Kd.R_drewN | apply Kd.R_drew)); exact HO216.out) (by decide)) hk (fun _ h => h.2)) (fun _ h => h.1)); have n1_ := Aside0.mk (KeepSt.trans (by repeat (first | (with_reducible first | exact HK.out | apply KeepSt.drewN | apply KeepSt.drew | apply KeepSt.alloc) | exact HK.out)) hk); have n2_ := Aside0.mk (hb); have n3_ := Aside0.mk (hi); clear HO216; clear HK; clear HB; clear HI0; have HO216 := n0_; have HK := n1_; have HB := n2_; have HI0 := n3_; clear n0_ n1_ n2_ n3_; (try clear hb); (try clear hb2); (try clear hk); (try clear hi)))
  go_ret
  exact ⟨by first | rfl | (simp [errW_none, errW_some] <;> rfl) | (simp [*, errW_none, errW_some] <;> rfl), by repeat (first | (with_reducible first | exact HI0.out | apply IsS80.alloc | apply IsS80.drewN | apply IsS80.drew | apply IsS80.set_0) | exact HI0.out), by repeat (first | (with_reducible first | exact HB.out | apply below_alloc | apply pw_below_drewN | apply below_drew1 | refine below_set ?_ (IsS80.ge HI0.out)) | exact HB.out), by repeat (first | (with_reducible first | exact HK.out | apply KeepSt.drewN | apply KeepSt.drew | apply KeepSt.alloc) | exact HK.out)⟩
def schedule_Interim.f (k : Nat) (s0_0 : TS) (a1 : Int) (a2 : Int) : Option (Int × TS) := (term_Store_List.f k s0_0 (([a1, a2] : List Int))).bind fun bt224 => ((term_Store_Hash.f bt224.2 (⟨#[105, 110, 116, 101, 114, 105, 109]⟩ : ByteArray) bt224.1).bind fun bt226 => (some (bt226.1, bt226.2)))
theorem schedule_Interim.mono : ∀ a0 a1 a2 k, LeO (schedule_Interim.f k a0 a1 a2) (schedule_Interim.f (k + 1) a0 a1 a2) := by
  intro a0 a1 a2 k
  unfold schedule_Interim.f
  repeat' first
      | (with_reducible exact term_Store_List.mono _ _ _)
      | (with_reducible exact LeO.refl _)
      | (with_reducible exact LeO.none _)
      | (with_reducible refine LeO.ite ?_ ?_)
      | (with_reducible refine LeO.bind ?_ (fun _ => ?_))
      | exact term_Store_List.mono _ _ _
      | exact LeO.none _
      | refine LeO.ite ?_ ?_
      | refine LeO.bind ?_ (fun _ => ?_)
set_option maxHeartbeats 8000000 in
set_option maxRecDepth 100000 in
theorem schedule_Interim.calls (k : Nat) (g : Nat) (s0_0 : TS) (a1 : Int) (a2 : Int) (r1 : Int) (r2 : TS) (w0 w : World) (hI : IsS80 w0 w g s0_0) (hB : Below w0.heap.size w0 w) (h : schedule_Interim.f k s0_0 a1 a2 = some (r1, r2)) :
    Calls Tryd.prog 16 #[.pointer (some ⟨g, 0, none⟩), .int .i64 a1, .int .i64 a2] w fun e w' => e = .returned (.int .i64 r1) ∧ IsS80 w0 w' g r2 ∧ Below w0.heap.size w0 w' ∧ KeepSt w w' w0 := by
  have HI0 := Aside0.mk hI
  have HK := Aside0.mk (KeepSt.refl w w0)
  have HL := Aside0.mk hB.size
  clear hI
  have HW0 := Aside0.mk hB.size
  have HB := Aside0.mk hB
  clear hB
  have H : ((term_Store_List.f k s0_0 (([a1, a2] : List Int))).bind fun bt224 => ((term_Store_Hash.f bt224.2 (⟨#[105, 110, 116, 101, 114, 105, 109]⟩ : ByteArray) bt224.1).bind fun bt226 => (some (bt226.1, bt226.2)))) = some (r1, r2) := h
  clear h
  obtain ⟨y221, hy221⟩ : ∃ y_ : List Int, y_ = (([a1, a2] : List Int)) := ⟨_, rfl⟩
  replace H : ((term_Store_List.f k s0_0 y221).bind fun bt224 => ((term_Store_Hash.f bt224.2 (⟨#[105, 110, 116, 101, 114, 105, 109]⟩ : ByteArray) bt224.1).bind fun bt226 => (some (bt226.1, bt226.2)))) = some (r1, r2) := by first | (rw [hy221]; with_reducible exact H) | (have H2_ := (Option.bind_some _ _).symm.trans H; rw [hy221]; with_reducible exact H2_) | (have H2_ := (Option.bind_some _ _).symm.trans H; with_reducible exact H2_) | with_reducible exact H | (rw [hy221]; exact H) | exact H
  have Ny221 := Aside0.mk hy221
  clear hy221
  replace H := Option.bind_eq_some_iff.mp H
  obtain ⟨⟨t224, t225⟩, A40, H⟩ := H
  replace H : ((term_Store_Hash.f t225 (⟨#[105, 110, 116, 101, 114, 105, 109]⟩ : ByteArray) t224).bind fun bt226 => (some (bt226.1, bt226.2))) = some (r1, r2) := H
  have A4 := Aside0.mk A40
  clear A40
  replace H := Option.bind_eq_some_iff.mp H
  obtain ⟨⟨t226, t227⟩, A50, H⟩ := H
  replace H : (some (t226, t227)) = some (r1, r2) := H
  have A5 := Aside0.mk A50
  clear A50
  simp only [Option.some.injEq, Prod.mk.injEq] at H
  obtain ⟨rfl, rfl⟩ := H
  go_enter Tryd.func16, Tryd.ntmps16
  go_wp2_with (first | ((with_reducible refine gate_dst (N := 11) rfl ?_); refine Kd.R_lit (Kd.int .i64) _ 3 ?hg (N := 11) ?hd (xs := ([a1, a2] : List Int)) (inner := [.int .i64 a1, .int .i64 a2]) (ok := fun _ => True) (okp := fun _ => True) ?hr ?hp (fun _ hk => hk) trivial (Below.refl _ _) (Nat.le_refl _) (by simp) ?_; (case hd => rfl); (case hg => rfl); (case hr => first | (go_simp; done) | (go_simp; rfl)); (case hp => exact (Reps.one (show Kd.M (Kd.int .i64) _ _ _ a1 [.int .i64 a1] from rfl) (Reps.one (show Kd.M (Kd.int .i64) _ _ _ a2 [.int .i64 a2] from rfl) (Reps.none _ _)))); intro v222 w6 ho7 hb hg_ hnew_; clear hg_ hnew_; (first | rw [← Ny221.out] at ho7 | (simp only [Int.reduceToNat] at ho7; rw [← Ny221.out] at ho7)); have n0_ := Aside0.mk (Kd.R_lower ho7 (KeepSt.size (w := w) (w0 := w0) (by repeat (first | (with_reducible first | exact HK.out | apply KeepSt.drewN | apply KeepSt.drew | apply KeepSt.alloc) | exact HK.out)))); have n1_ := Aside0.mk (IsS80.below (by repeat (first | (with_reducible first | exact HI0.out | apply IsS80.alloc | apply IsS80.drewN | apply IsS80.drew | apply IsS80.set_0) | exact HI0.out)) hb); have n2_ := Aside0.mk (KeepSt.trans (by repeat (first | (with_reducible first | exact HK.out | apply KeepSt.drewN | apply KeepSt.drew | apply KeepSt.alloc) | exact HK.out)) (KeepSt.of_below hb w0)); have n3_ := Aside0.mk (below_step (by repeat (first | (with_reducible first | exact HB.out | apply below_alloc | apply pw_below_drewN | apply below_drew1 | refine below_set ?_ (IsS80.ge HI0.out)) | exact HB.out)) hb); clear HI0; clear HK; clear HB; have HO223 := n0_; have HI0 := n1_; have HK := n2_; have HB := n3_; clear n0_ n1_ n2_ n3_; clear hb ho7; obtain ⟨Ao8, co8, eo8⟩ := Kd.R_slice HO223.out; subst eo8) | ((with_reducible refine gate_callee (f := 33) rfl ?_); refine goesL_ (some 12) rfl rfl Tryd.func33 (by kernel_rfl) rfl #[.pointer (some ⟨g, 0, none⟩), .slice Ao8 y221.length co8] rfl (by (try simp only [List.map_toArray, List.map_cons, List.map_nil]); first | done | rfl | (simp only [List.length_drop, List.length_take]; rfl)) ?_; (with_reducible refine (term_Store_List.calls k g s0_0 _ _ y221 t224 t225 w0 _ ?side1 ?side2 ?side3 ?side4 ?side5 A4.out).mono ?_); (case side1 => repeat (first | (with_reducible first | exact HI0.out | apply IsS80.alloc | apply IsS80.drewN | apply IsS80.drew | apply IsS80.set_0) | exact HI0.out)); (case side2 => repeat (first | (with_reducible first | exact HB.out | apply below_alloc | apply pw_below_drewN | apply below_drew1 | refine below_set ?_ (IsS80.ge HI0.out)) | exact HB.out)); (case side3 => repeat (first | exact (Kd.R_reads' HO223.out).2.2 | (with_reducible refine Kd.C_alloc ?_ _) | (with_reducible refine Kd.C_drewN ?_ _) | (with_reducible refine Kd.C_drew ?_))); (case side4 => exact (Kd.R_reads' HO223.out).2.1); (case side5 => exact Kd.far_R (by (with_reducible repeat (first | apply Kd.R_alloc | apply Kd.R_drewN | apply Kd.R_drew)); exact HO223.out) (by decide)); rintro e w9 ⟨rfl, hi, hb, hk⟩; refine ⟨_, rfl, ?_⟩; have n0_ := Aside0.mk (Kd.R_mono (Kd.R_keepSt (IsS80.apart (show IsS80 w0 _ g s0_0 from by repeat (first | (with_reducible first | exact HI0.out | apply IsS80.alloc | apply IsS80.drewN | apply IsS80.drew | apply IsS80.set_0) | exact HI0.out)) (by (with_reducible repeat (first | apply Kd.R_alloc | apply Kd.R_drewN | apply Kd.R_drew)); exact HO223.out) (by decide)) hk (fun _ h => h.2)) (fun _ h => h.1)); have n1_ := Aside0.mk (KeepSt.trans (by repeat (first | (with_reducible first | exact HK.out | apply KeepSt.drewN | apply KeepSt.drew | apply KeepSt.alloc) | exact HK.out)) hk); have n2_ := Aside0.mk (hb); have n3_ := Aside0.mk (hi); clear HO223; clear HK; clear HB; clear HI0; have HO223 := n0_; have HK := n1_; have HB := n2_; have HI0 := n3_; clear n0_ n1_ n2_ n3_; (try clear hb); (try clear hb2); (try clear hk); (try clear hi)) | ((with_reducible refine gate_callee (f := 36) rfl ?_); refine goesL_ (some 13) rfl rfl Tryd.func36 (by kernel_rfl) rfl #[.pointer (some ⟨g, 0, none⟩), .string (⟨#[105, 110, 116, 101, 114, 105, 109]⟩ : ByteArray), .int .i64 t224] rfl (by (try simp only [List.map_toArray, List.map_cons, List.map_nil]); first | done | rfl | (simp only [List.length_drop, List.length_take]; rfl)) ?_; (with_reducible refine (term_Store_Hash.calls g t225 (⟨#[105, 110, 116, 101, 114, 105, 109]⟩ : ByteArray) t224 t226 t227 w0 _ ?side1 ?side2 A5.out).mono ?_); (case side1 => repeat (first | (with_reducible first | exact HI0.out | apply IsS80.alloc | apply IsS80.drewN | apply IsS80.drew | apply IsS80.set_0) | exact HI0.out)); (case side2 => repeat (first | (with_reducible first | exact HB.out | apply below_alloc | apply pw_below_drewN | apply below_drew1 | refine below_set ?_ (IsS80.ge HI0.out)) | exact HB.out)); rintro e w10 ⟨rfl, hi, hb, hk⟩; refine ⟨_, rfl, ?_⟩; have n0_ := Aside0.mk (Kd.R_mono (Kd.R_keepSt (IsS80.apart (show IsS80 w0 _ g t225 from by repeat (first | (with_reducible first | exact HI0.out | apply IsS80.alloc | apply IsS80.drewN | apply IsS80.drew | apply IsS80.set_0) | exact HI0.out)) (by (with_reducible repeat (first | apply Kd.R_alloc | apply Kd.R_drewN | apply Kd.R_drew)); exact HO223.out) (by decide)) hk (fun _ h => h.2)) (fun _ h => h.1)); have n1_ := Aside0.mk (KeepSt.trans (by repeat (first | (with_reducible first | exact HK.out | apply KeepSt.drewN | apply KeepSt.drew | apply KeepSt.alloc) | exact HK.out)) hk); have n2_ := Aside0.mk (hb); have n3_ := Aside0.mk (hi); clear HO223; clear HK; clear HB; clear HI0; have HO223 := n0_; have HK := n1_; have HB := n2_; have HI0 := n3_; clear n0_ n1_ n2_ n3_; (try clear hb); (try clear hb2); (try clear hk); (try clear hi)))
  go_ret
  exact ⟨by first | rfl | (simp [errW_none, errW_some] <;> rfl) | (simp [*, errW_none, errW_some] <;> rfl), by repeat (first | (with_reducible first | exact HI0.out | apply IsS80.alloc | apply IsS80.drewN | apply IsS80.drew | apply IsS80.set_0) | exact HI0.out), by repeat (first | (with_reducible first | exact HB.out | apply below_alloc | apply pw_below_drewN | apply below_drew1 | refine below_set ?_ (IsS80.ge HI0.out)) | exact HB.out), by repeat (first | (with_reducible first | exact HK.out | apply KeepSt.drewN | apply KeepSt.drew | apply KeepSt.alloc) | exact HK.out)⟩
end Go.Proofs.YteoamlnnaabomaaDoor.PSb
