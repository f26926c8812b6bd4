/- CardNames returns true at every input, and its arguments read as they did: the tied card (math/bits' tables as the program's text lays them). -/
import Derived.Test.YteljmaebhjhedaaDoorRows
import Derived.Test.YteljmaebhjhedaaDoorPCnx8
import Derived.Test.YteljmaebhjhedaaDoorRowG
import Derived.Test.YteljmaebhjhedaaDoorPureCardNames
import Derived.Test.YteljmaebhjhedaaDoorCards
import Derived.Test.YteljmaebhjhedaaDoorTie
import Derived.Test.YteljmaebhjhedaaDoorDoor
import Derived.LaidMore
import Derived.Stop.Joined
import Derived.SevenTiedAt
import Derived.WalkKit
import Derived.ProofKit
import Derived.OpenShut
import Derived.ShutString
import Derived.ChangeOld
import Derived.Below
import Derived.SizedLaws
namespace Go.Proofs.YteljmaebhjhedaaDoor.cardNames
open Go.ChangeShapes Go.WideShapes Go.ChangeAt Go.RowKit
open Go.ChangeMaps (open_string shut_string)
set_option linter.unusedVariables false
theorem own : ownKnob Tryd.prog.godebug = none := by kernel_rfl
theorem laidOut : laidOutB Tryd.prog = true := by kernel_rfl
set_option maxRecDepth 100000 in
theorem lifted (os : Os) (started : os.Started) (H : Type) (enc : TypeId × Value → H) :
    ReturnsInHanded {} Tryd.checked os 6 .any (fun w args => (Rows.cardNamesSpec.pre enc Tryd.prog Tryd.f6 Rows.cardNamesRow.domain false w args ∧ laidMetH Tryd.prog laidL w) ∧ sizedMet enc Tryd.prog Tryd.f6 (OpenSpec.ofChange Rows.cardNamesSpec) false w args)
      (Rows.cardNamesSpec.post enc Tryd.prog Tryd.f6 false true false false) := by
  refine returnsInHanded_of_change_and (C := Tryd.checked) (X := fun w _ => laidMetH Tryd.prog laidL w) (fun _ _ _ hh h => h.of_heap hh) own started (by kernel_rfl) Tryd.func6
    (ChangeSpec.witness_shaped (enc := enc) (C := Tryd.checked) (os := os) (X := fun w _ => laidMetH Tryd.prog laidL w) false (World.doorLaid Tryd.prog 4000 os) #[.agg #[.int .i64 0, .int .i64 0, .int .i64 0, .int .i64 0, .int .i64 0], .agg #[.int .i64 0, .int .i64 0, .int .i64 0, .int .i64 0, .int .i64 0]] 8 rfl (World.shaped_of_RefB (by kernel_rfl) (by kernel_rfl)) (by kernel_rfl) (by kernel_rfl) (by kernel_rfl) (door_met os _)) ?_
  intro W base args ds gs before hval0 hW hcnd hsz0 hL _
  have hval : ∀ (j : Nat) t v, Tryd.f6.params[j]? = some t → args[j]? = some v → Value.okWide Tryd.prog W .any base t v := hval0
  have hW' := hW
  obtain ⟨p, q, hA0, hV, rfl, hfz, hnd⟩ := hW
  have hA : DataW.TrodAll enc Tryd.prog W 0 (fun _ => true) true Tryd.f6.params.toList args.toList ds p := hA0
  rw [Tryd.params6] at hA hval
  obtain ⟨v0, vs0, d0, ds0, p0, q0, hargs, rfl, rfl, h0, r0⟩ := trodAll_cons hA
  obtain ⟨v1, vs1, d1, ds1, p1, q1, rfl, rfl, rfl, h1, r1⟩ := trodAll_cons r0
  obtain ⟨rfl, rfl, rfl⟩ := trodAll_nil r1
  obtain rfl : args = #[v0, v1] := by cases args; simp_all
  obtain ⟨rfl, rfl⟩ := trodVars_none hV
  have k0 := h0
  have lt0 : ∀ x ∈ p0, x.block < W.heap.size := by obtain ⟨m, hm⟩ := k0; exact DataW.trod_lt m _ _ _ hm
  obtain ⟨cs0, rfl, hs0, hf0⟩ := open_arr_ints Tryd.underlying46 (by kernel_rfl) Tryd.underlying3 (by kernel_rfl) (hval 0 46 v0 rfl rfl) h0
  obtain ⟨a0_0, e0_0, w0_0⟩ := hf0 0 (by decide)
  obtain ⟨a0_1, e0_1, w0_1⟩ := hf0 1 (by decide)
  obtain ⟨a0_2, e0_2, w0_2⟩ := hf0 2 (by decide)
  obtain ⟨a0_3, e0_3, w0_3⟩ := hf0 3 (by decide)
  obtain ⟨a0_4, e0_4, w0_4⟩ := hf0 4 (by decide)
  obtain rfl : cs0 = #[.int .i64 a0_0, .int .i64 a0_1, .int .i64 a0_2, .int .i64 a0_3, .int .i64 a0_4] := Array.ext (by rw [hs0]; rfl) (fun j h1 h2 => by
    have hj : j < 5 := h2
    have := Array.getElem?_eq_getElem h1
    rcases (by omega : j = 0 ∨ j = 1 ∨ j = 2 ∨ j = 3 ∨ j = 4) with rfl | rfl | rfl | rfl | rfl
    · exact Option.some.inj (this.symm.trans e0_0)
    · exact Option.some.inj (this.symm.trans e0_1)
    · exact Option.some.inj (this.symm.trans e0_2)
    · exact Option.some.inj (this.symm.trans e0_3)
    · exact Option.some.inj (this.symm.trans e0_4))
  have k1 := h1
  have lt1 : ∀ x ∈ p1, x.block < W.heap.size := by obtain ⟨m, hm⟩ := k1; exact DataW.trod_lt m _ _ _ hm
  obtain ⟨cs1, rfl, hs1, hf1⟩ := open_arr_ints Tryd.underlying46 (by kernel_rfl) Tryd.underlying3 (by kernel_rfl) (hval 1 46 v1 rfl rfl) h1
  obtain ⟨a1_0, e1_0, w1_0⟩ := hf1 0 (by decide)
  obtain ⟨a1_1, e1_1, w1_1⟩ := hf1 1 (by decide)
  obtain ⟨a1_2, e1_2, w1_2⟩ := hf1 2 (by decide)
  obtain ⟨a1_3, e1_3, w1_3⟩ := hf1 3 (by decide)
  obtain ⟨a1_4, e1_4, w1_4⟩ := hf1 4 (by decide)
  obtain rfl : cs1 = #[.int .i64 a1_0, .int .i64 a1_1, .int .i64 a1_2, .int .i64 a1_3, .int .i64 a1_4] := Array.ext (by rw [hs1]; rfl) (fun j h1 h2 => by
    have hj : j < 5 := h2
    have := Array.getElem?_eq_getElem h1
    rcases (by omega : j = 0 ∨ j = 1 ∨ j = 2 ∨ j = 3 ∨ j = 4) with rfl | rfl | rfl | rfl | rfl
    · exact Option.some.inj (this.symm.trans e1_0)
    · exact Option.some.inj (this.symm.trans e1_1)
    · exact Option.some.inj (this.symm.trans e1_2)
    · exact Option.some.inj (this.symm.trans e1_3)
    · exact Option.some.inj (this.symm.trans e1_4))
  clear hA0 hval0
  refine (PCn.conclavelaw09_CardNames.walk Pure.CardNames a0_0 a0_1 a0_2 a0_3 a0_4 a1_0 a1_1 a1_2 a1_3 a1_4 W (of_laid hL) w0_0 w0_1 w0_2 w0_3 w0_4 w1_0 w1_1 w1_2 w1_3 w1_4).mono fun e W' ⟨he, bel⟩ => ?_
  subst he
  exact ⟨_, rfl, _, _, _, [], _, [], hW', trodAll_mk1 (shut_bool Tryd.underlying4 _), (trodAll_cons_mk (Below.trod laidOut (by kernel_rfl) (of_decide_eq_true (by kernel_rfl)) k0 bel lt0) (trodAll_cons_mk (Below.trod laidOut (by kernel_rfl) (of_decide_eq_true (by kernel_rfl)) k1 bel lt1) trodAll_mk0)), rfl, bel.frame _, fun h => by cases h⟩
theorem over : Rows.cardNamesRow.holds Tryd.pinned (OpenSpec.ofChange Rows.cardNamesSpec) :=
  OpenClaim.holds_of_wide 6 Tryd.f6 rfl rfl rfl rfl rfl rfl rfl ⟨rfl, rfl, rfl, rfl, rfl⟩ rfl rfl rfl rfl rfl (by kernel_rfl) Tryd.func6 (by kernel_rfl)
    (of_decide_eq_true (by kernel_rfl)) (by unfold Func.isWrapper; first | (rw [if_pos (by decide +kernel)]; kernel_rfl) | (rw [if_neg (by decide +kernel)]; exact ⟨rfl, rfl⟩))
    (fun os started H enc _ => lifted os started H enc)
theorem proved : Rows.CardNamesCardSaid :=
  Claim7.holds_tied_plain_at .later [] [.data, .data, .data] true (true, "52abb91e1ffcad7548653d7858870fb5e84fe3333b01e0d8b2aa86d15e3d9906") false
    over (fun _ h => by cases h) (by kernel_rfl) (fun _ h => by cases h) cardNames_row_tie rfl ⟨rfl, rfl⟩ (by kernel_rfl) rfl
    (fun f fn hf hfn => by
      obtain rfl : f = 6 := Option.some.inj ((show Tryd.prog.funcNamed "conclave/conclavelaw09.CardNames" = some 6 by kernel_rfl).symm.trans hf) |>.symm
      obtain rfl : fn = Tryd.f6 := (Option.some.inj (Tryd.func6.symm.trans hfn)).symm
      exact ⟨by kernel_rfl, fun j t ht => by
        rw [Tryd.params6] at ht
        have hm : t ∈ ([46, 46] : List Nat) := by
          have := Array.mem_of_getElem? ht
          simpa using this
        have hall : (([46, 46] : List Nat).all fun u => !Tryd.prog.wantsStandIn u) = true := by kernel_rfl
        exact (show Tryd.prog.wantsStandIn t = false by simpa using List.all_eq_true.1 hall t hm)⟩)
    (by kernel_rfl)
#print axioms proved
end Go.Proofs.YteljmaebhjhedaaDoor.cardNames
namespace Go.Proofs.YteljmaebhjhedaaDoor
theorem cardNames_holds : Rows.CardNamesCardSaid := cardNames.proved
end Go.Proofs.YteljmaebhjhedaaDoor
