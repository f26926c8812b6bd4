/- The document's answer beside a mind: 'like'. -/
import Derived.Test.YtmdfhaihbaiegaaYaoRefC
set_option linter.unusedVariables false
set_option linter.unusedSimpArgs false
namespace Go.Proofs.Ytmdfhaihbaiegaa
open Go.RowKit

theorem like_at {N : List Nd} {S : Int → Prop} {q : Mind} {C : List Bool} (hk : Knows N S q) (hwf : WF N) (hce : ∀ t, knownB N.length t = true → (cbI C t = true ↔ CanD N S t)) {j : Nat} (hj : j < N.length) :
    canT q.can ((j : Int) + 1) = C.getD (j + 1) false ∧ q.can.getD (j + 1) false = C.getD (j + 1) false := by
  have hkn : knownB N.length ((j : Int) + 1) = true := knownB_iff.2 ⟨by omega, by omega⟩
  have h1 := (hk.canT hwf ((j : Int) + 1)).trans (hce _ hkn).symm
  have h2 := (hk.can _ hkn).trans (hce _ hkn).symm
  unfold cbI at h1 h2
  rw [show ((j : Int) + 1).toNat = j + 1 by omega] at h1 h2
  exact ⟨Bool.eq_iff_iff.2 h1, Bool.eq_iff_iff.2 h2⟩

theorem like_out {N : List Nd} {S : Int → Prop} {q : Mind} (hk : Knows N S q) (hwf : WF N) {t : Int} (ht : knownB N.length t ≠ true) : canT q.can t = false := by
  rw [← Bool.not_eq_true]
  exact fun h => ht (((hk.canT hwf t).1 h).range hwf)

def LkRel (w : World) (q : Mind) (n : Nat) (v5 v6 : Value) (wr : World) : Prop :=
  ∃ j : Nat, j ≤ n ∧ v6 = .int .i64 ((j : Int) + 1) ∧ v5 = .int .i64 (cnt (q.can.take (j + 1)) : Nat) ∧ Chg none_ w wr

set_option maxRecDepth 100000 in
set_option maxHeartbeats 4000000 in
theorem like_calls {q : Mind} {w : World} {N : List Nd} {S : Int → Prop} {g : Nat} {C : List Bool} (hq : MindAt w q) (hk : Knows N S q) (hwf : WF N) (hnb : N.length ≤ 1000) (hb : BoolBlk w g C) (hcl : C.length = N.length + 1)
    (hce : ∀ t, knownB N.length t = true → (cbI C t = true ↔ CanD N S t)) :
    Calls Try.prog 11 #[q.ptr, rowV g (N.length + 1)] w fun e w' => e = .returned (.bool true) ∧ Chg none_ w w' := by
  have hql : q.can.length ≤ 262145 := by rw [hk.len]; omega
  have hc0 := can_calls hq hql 0
  have hc1 := can_calls hq hql (-1)
  have hc2 := can_calls hq hql ((N.length : Int) + 1)
  rw [like_out hk hwf (fun h => by rw [knownB_iff] at h; omega)] at hc0 hc1 hc2
  have HC0 := Lib.hid hc0
  have HC1 := Lib.hid hc1
  have HC2 := Lib.hid hc2
  have hnb' : (N.length : Int) ≤ 1000 := by omega
  have HAT := Lib.hid (fun (j : Nat) (hj : j < N.length) => like_at hk hwf hce hj)
  have HQ := Lib.hid hq
  have HB := Lib.hid hb
  have HK := Lib.hid hk
  have HCL := Lib.hid hcl
  clear hc0 hc1 hc2 hq hk hwf hb hcl hce hnb
  go_enter Try.func11, Try.ntmps11
  go_wp2_with (first
    | (go_at_call 14; with_reducible refine HC0.out.mono ?_; rintro e w1 ⟨rfl, rfl⟩)
    | (go_at_call 14; with_reducible refine HC1.out.mono ?_; rintro e w2 ⟨rfl, rfl⟩)
    | (go_at_call 14; with_reducible refine HC2.out.mono ?_; rintro e w3 ⟨rfl, rfl⟩))
  obtain ⟨w0, rfl⟩ : ∃ x, x = w3 := ⟨_, rfl⟩
  go_loopw [5, 6] (fun v5 v6 wr => LkRel w0 q N.length v5 v6 wr) (fun _ i _ => N.length + 1 - (intOf i).toNat)
  case atStart =>
    refine ⟨0, Nat.zero_le _, rfl, ?_, Chg.refl _ _⟩
    have h0 := HK.out.none
    have := cnt_take q.can (i := 0) (by rw [HK.out.len]; omega)
    rw [this, h0]
    simp [cnt]
  case round =>
    obtain ⟨j, hj, rfl, rfl, hc⟩ := hrel
    have hQ := HQ.out.chg hc (fun _ _ h => h)
    have hB := HB.out.keep (hc.block g (lt_of_heap HB.out) (fun h => h))
    have hji : (j : Int) ≤ 1000 := by omega
    have hcl := cnt_le (q.can.take (j + 1))
    have hcl2 : (q.can.take (j + 1)).length ≤ j + 1 := List.length_take_le _ _
    by_cases hlt : j < N.length
    · have b1 : decide ((j : Int) + 1 < (N.length : Int) + 1) = true := by simp; omega
      obtain ⟨e1, e2⟩ := HAT.out j hlt
      have cb := hB.cell (i := j + 1) (by rw [HCL.out]; omega)
      have hcn := cnt_take q.can (i := j + 1) (by rw [HK.out.len]; omega)
      rw [e2] at hcn
      have hcc := can_calls hQ.drew hql ((j : Int) + 1)
      rw [e1] at hcc
      generalize C.getD (j + 1) false = x at *
      have hgl : g < wr.heap.size := lt_of_heap hB
      have HCC := Lib.hid hcc
      have HCN := Lib.hid hcn
      have HH := Lib.hid (And.intro hc (And.intro hQ hB))
      have hcb : (cnt (q.can.take (j + 1)) : Int) ≤ 1001 := by omega
      have hcb0 : 0 ≤ (cnt (q.can.take (j + 1)) : Int) := by omega
      clear hcc hcn hc hQ hB e1 e2 hcl hcl2
      go_wp2
      refine Mix.wp_region_mix (fun w' => w'.cell? ⟨g, j + 1, none⟩ = some (.bool x)) (fun i => [0, 0, 3, 0, 0, 24, 56, 127].getD i 0) (fun i => [2, 2, 0, 1, 1, 1, 1, 2].getD i 0) (by kernel_rfl) ⟨by kernel_rfl, by kernel_rfl, by kernel_rfl, by kernel_rfl, by kernel_rfl⟩ cb ?_; simp only [Mix.whole, List.getD_cons_zero, List.getD_cons_succ, Nat.reduceAdd]
      repeat (first | (refine Mix.pin_no rfl rfl (fun K hK => ?_); go_step; refine hK _ ?_; clear hK K) | (refine Mix.soft_no rfl rfl ?_; apply Exists.intro; refine ⟨fun w' hS => ?_, fun K hK => ?_⟩; (first | (go_simp; done) | (go_simp; exact rfl)); simp only [List.setIfInBounds_toArray, List.set_cons_zero, List.set_cons_succ]; refine hK _ ?_; clear hK K) | (refine Mix.pin_not rfl rfl rfl rfl (fun K hK => ?_); simp only [List.setIfInBounds_toArray, List.set_cons_zero, List.set_cons_succ]; refine hK _ ?_; clear hK K) | (refine Mix.soft_not rfl rfl rfl rfl (fun K hK => ?_); simp only [List.setIfInBounds_toArray, List.set_cons_zero, List.set_cons_succ]; refine hK _ ?_; clear hK K) | (refine Mix.pin_yes rfl rfl rfl rfl (fun K hK => ?_); go_step; refine hK _ ?_; clear hK K) | (refine Mix.soft_yes rfl rfl rfl rfl ?_; apply Exists.intro; refine ⟨fun w' hS => ?_, fun K hK => ?_⟩; (first | (go_simp; done) | (go_simp; exact rfl)); simp only [List.setIfInBounds_toArray, List.set_cons_zero, List.set_cons_succ]; refine hK _ ?_; clear hK K))
      refine Mix.hard_no rfl (fun K hK => ?_); go_step; refine HCC.out.mono ?_; rintro e w7 ⟨rfl, rfl⟩; dsimp only
      refine hK _ _ ⟨cb, ?_⟩
      clear hK K
      try simp only [Act.put, List.setIfInBounds_toArray, List.set_cons_zero, List.set_cons_succ]
      cases x
      all_goals
        repeat (first | (refine Mix.pin_no rfl rfl (fun K hK => ?_); go_step; refine hK _ ?_; clear hK K) | (refine Mix.soft_no rfl rfl ?_; apply Exists.intro; refine ⟨fun w' hS => ?_, fun K hK => ?_⟩; (first | (go_simp; done) | (go_simp; exact rfl)); simp only [List.setIfInBounds_toArray, List.set_cons_zero, List.set_cons_succ]; refine hK _ ?_; clear hK K) | (refine Mix.pin_not rfl rfl rfl rfl (fun K hK => ?_); simp only [List.setIfInBounds_toArray, List.set_cons_zero, List.set_cons_succ]; refine hK _ ?_; clear hK K) | (refine Mix.soft_not rfl rfl rfl rfl (fun K hK => ?_); simp only [List.setIfInBounds_toArray, List.set_cons_zero, List.set_cons_succ]; refine hK _ ?_; clear hK K) | (refine Mix.pin_yes rfl rfl rfl rfl (fun K hK => ?_); go_step; refine hK _ ?_; clear hK K) | (refine Mix.soft_yes rfl rfl rfl rfl ?_; apply Exists.intro; refine ⟨fun w' hS => ?_, fun K hK => ?_⟩; (first | (go_simp; done) | (go_simp; exact rfl)); simp only [List.setIfInBounds_toArray, List.set_cons_zero, List.set_cons_succ]; refine hK _ ?_; clear hK K))
        refine Mix.walk_nil ?_
        go_wp2
      · refine ⟨⟨j + 1, by omega, by go_num, ?_, HH.out.1.drew⟩, by simp [intOf] <;> omega⟩
        have := HCN.out
        simp at this
        rw [this]
      · refine ⟨⟨j + 1, by omega, by go_num, ?_, HH.out.1.drew⟩, by simp [intOf] <;> omega⟩
        have := HCN.out
        simp at this
        rw [this]
        simp
    · have hje : j = N.length := by omega
      subst hje
      have b1 : decide ((N.length : Int) + 1 < (N.length : Int) + 1) = false := by simp
      have hcnt := count_calls hQ hql
      have htk : q.can.take (N.length + 1) = q.can := by rw [← HK.out.len, List.take_length]
      rw [htk]
      have HH := Lib.hid hc
      have HCT := Lib.hid hcnt
      clear hc hQ hB hcnt htk hcl hcl2 hlt
      go_wp2_with (go_at_call 16; refine HCT.out.mono ?_; rintro e w7 ⟨rfl, rfl⟩)
      go_ret
      exact ⟨by simp, HH.out⟩

end Go.Proofs.Ytmdfhaihbaiegaa
