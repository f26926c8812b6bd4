/- TreeChecks returns true at every input, and its arguments read as they did: the tied card (math/bits' tables as the program's text lays them). -/
import Derived.Test.YtbblomnhobodkaaDoorRows
import Derived.Test.YtbblomnhobodkaaDoorPTvx12
import Derived.Test.YtbblomnhobodkaaDoorRowVS
import Derived.Test.YtbblomnhobodkaaDoorPureTreeChecks
import Derived.Test.YtbblomnhobodkaaDoorCards
import Derived.Test.YtbblomnhobodkaaDoorTie
import Derived.Test.YtbblomnhobodkaaDoorDoor
import Derived.LaidMore
import Derived.Stop.Joined
import Derived.SevenTiedAt
import Derived.WalkKit
import Derived.ProofKit
import Derived.OpenShut
import Derived.ShutString
import Derived.ChangeOld
import Derived.Below
import Derived.SizedLaws
namespace Go.Proofs.YtbblomnhobodkaaDoor.treeChecks
open Go.ChangeShapes Go.WideShapes Go.ChangeAt Go.RowKit
open Go.ChangeMaps (open_string shut_string)
set_option linter.unusedVariables false
theorem own : ownKnob Tryd.prog.godebug = none := by kernel_rfl
theorem laidOut : laidOutB Tryd.prog = true := by kernel_rfl
set_option maxRecDepth 100000 in
theorem lifted (os : Os) (started : os.Started) (H : Type) (enc : TypeId × Value → H) :
    ReturnsInHanded {} Tryd.checked os 3 .any (fun w args => (Rows.treeChecksSpec.pre enc Tryd.prog Tryd.f3 Rows.treeChecksRow.domain false w args ∧ laidMetH Tryd.prog laidL w) ∧ sizedMet enc Tryd.prog Tryd.f3 (OpenSpec.ofChange Rows.treeChecksSpec) false w args)
      (Rows.treeChecksSpec.post enc Tryd.prog Tryd.f3 false true false false) := by
  refine returnsInHanded_of_change_and (C := Tryd.checked) (X := fun w _ => laidMetH Tryd.prog laidL w) (fun _ _ _ hh h => h.of_heap hh) own started (by kernel_rfl) Tryd.func3
    (ChangeSpec.witness_shaped (enc := enc) (C := Tryd.checked) (os := os) (X := fun w _ => laidMetH Tryd.prog laidL w) false (World.doorLaid Tryd.prog 4000 os) #[.slice none 0 0] 8 rfl (World.shaped_of_RefB (by kernel_rfl) (by kernel_rfl)) (by kernel_rfl) (by kernel_rfl) (by kernel_rfl) (door_met os _)) ?_
  intro W base args ds gs before hval0 hW hcnd hsz0 hL _
  have hval : ∀ (j : Nat) t v, Tryd.f3.params[j]? = some t → args[j]? = some v → Value.okWide Tryd.prog W .any base t v := hval0
  have hW' := hW
  obtain ⟨p, q, hA0, hV, rfl, hfz, hnd⟩ := hW
  have hA : DataW.TrodAll enc Tryd.prog W 0 (fun _ => true) true Tryd.f3.params.toList args.toList ds p := hA0
  rw [Tryd.params3] at hA hval
  obtain ⟨v0, vs0, d0, ds0, p0, q0, hargs, rfl, rfl, h0, r0⟩ := trodAll_cons hA
  obtain ⟨rfl, rfl, rfl⟩ := trodAll_nil r0
  obtain rfl : args = #[v0] := by cases args; simp_all
  obtain ⟨rfl, rfl⟩ := trodVars_none hV
  obtain ⟨a0, len0, cap0, rfl⟩ := okWide_slice Tryd.underlying22 (hval 0 22 v0 rfl rfl)
  have k0 := h0
  have lt0 : ∀ x ∈ p0, x.block < W.heap.size := by obtain ⟨m, hm⟩ := k0; exact DataW.trod_lt m _ _ _ hm
  obtain ⟨z0, rfl, hr0, hw0, hx0, hc0⟩ : ∃ z, len0 = z.length ∧ Go.Proofs.YtbblomnhobodkaaDoorW.PrintWords.Kd.C PTv.k29 W a0 z.length z ∧ PTv.WfV z ∧ (∀ v ∈ z, v.f5.length ≤ 17592186043904) ∧ z.length ≤ cap0 := by
    obtain ⟨fuel, hf⟩ := h0
    obtain ⟨z, e, q1, q2, q3⟩ := open_vertices hf
    refine ⟨z, e, q1, q2, open_vertices_late hf (fun m hm => ?_) e q1, q3⟩
    have := List.all_eq_true.1 hsz0 _ (DataW.weights_mem_each (j := 0) rfl rfl m hm)
    simpa using this
  clear hA0 hval0
  refine (PTv.conclavelaw04_TreeChecks.walk Pure.TreeChecks a0 cap0 z0 W (of_laid hL) hr0 hw0 hx0 hc0).mono fun e W' ⟨he, bel⟩ => ?_
  subst he
  exact ⟨_, rfl, _, _, _, [], _, [], hW', trodAll_mk1 (shut_bool Tryd.underlying4 _), (trodAll_cons_mk (Below.trod laidOut (by kernel_rfl) (of_decide_eq_true (by kernel_rfl)) k0 bel lt0) trodAll_mk0), rfl, bel.frame _, fun h => by cases h⟩
theorem over : Rows.treeChecksRow.holds Tryd.pinned (OpenSpec.ofChange Rows.treeChecksSpec) :=
  OpenClaim.holds_of_wide 3 Tryd.f3 rfl rfl rfl rfl rfl rfl rfl ⟨rfl, rfl, rfl, rfl, rfl⟩ rfl rfl rfl rfl rfl (by kernel_rfl) Tryd.func3 (by kernel_rfl)
    (of_decide_eq_true (by kernel_rfl)) (by unfold Func.isWrapper; first | (rw [if_pos (by decide +kernel)]; kernel_rfl) | (rw [if_neg (by decide +kernel)]; exact ⟨rfl, rfl⟩))
    (fun os started H enc _ => lifted os started H enc)
theorem proved : Rows.TreeChecksCardSaid :=
  Claim7.holds_tied_plain_at .later [] [.data, .data] true (true, "0101acfa713fa29e5e466cea1ea4c20c7cdaef73b5785793732e520e87994c9b") false
    over (fun _ h => by cases h) (by kernel_rfl) (fun _ h => by cases h) treeChecks_row_tie rfl ⟨rfl, rfl⟩ (by kernel_rfl) rfl
    (fun f fn hf hfn => by
      obtain rfl : f = 3 := Option.some.inj ((show Tryd.prog.funcNamed "conclave/conclavelaw04.TreeChecks" = some 3 by kernel_rfl).symm.trans hf) |>.symm
      obtain rfl : fn = Tryd.f3 := (Option.some.inj (Tryd.func3.symm.trans hfn)).symm
      exact ⟨by kernel_rfl, fun j t ht => by
        rw [Tryd.params3] at ht
        have hm : t ∈ ([22] : List Nat) := by
          have := Array.mem_of_getElem? ht
          simpa using this
        have hall : (([22] : List Nat).all fun u => !Tryd.prog.wantsStandIn u) = true := by kernel_rfl
        exact (show Tryd.prog.wantsStandIn t = false by simpa using List.all_eq_true.1 hall t hm)⟩)
    (by kernel_rfl)
#print axioms proved
end Go.Proofs.YtbblomnhobodkaaDoor.treeChecks
namespace Go.Proofs.YtbblomnhobodkaaDoor
/-- The card, under a short name, for the claim. -/
theorem treeChecks_holds : Rows.TreeChecksCardSaid := treeChecks.proved
end Go.Proofs.YtbblomnhobodkaaDoor
