/- Learn, walked. -/
import Derived.Test.YtmdfhaihbaiegaaYaoE
import Derived.Deep.Light
import Derived.Deep.DeepCutAuto
set_option linter.unusedVariables false
set_option linter.unusedSimpArgs false
namespace Go.Proofs.Ytmdfhaihbaiegaa
open Go.RowKit

set_option maxRecDepth 100000 in
set_option maxHeartbeats 4000000 in
theorem learn_calls {W : World} {q0 : Mind} {s : St} {a : Option Addr} {l : List Int} {cap : Nat} (hq : MindAt W q0) (hst : StoreAt W s) (hsp : q0.sp = s.p) (sep : Sep q0 s) (hin : InI W a l) (hne : l ≠ [] → ∀ b off, a = some ⟨b, off, none⟩ → ¬ q0.own b) (hll : l.length ≤ 1000000)
    (hlen : q0.can.length ≤ s.nodes.length + 1) (hcc : ∀ i : Nat, q0.can.getD i false = true → CanD s.nodes (LS q0 l) i) (hks : ∀ t ∈ q0.ks, knownB s.nodes.length t = true) :
    Calls Try.prog 12 #[q0.ptr, .slice a l.length cap] W fun e w' => e = .returned (.tuple #[]) ∧ Learnt W q0 s l w' := by
  have h0 := hq.cell0
  rw [hsp] at h0
  have h1 := hq.cell1
  have h2 := hq.cell2
  have hp := hq.p_lt
  have hf := hq.free 2
  obtain ⟨sa, sc, hsl⟩ := hq.slice
  rw [hsl] at h2
  have hN := hst.len
  have HSL := Lib.hid hsl
  have HQ := Lib.hid hq
  have HST := Lib.hid hst
  have HSP := Lib.hid hsp
  have HCC := Lib.hid hcc
  have HKS := Lib.hid hks
  have SEP := Lib.hid sep
  have HIN := Lib.hid hin
  have HNE := Lib.hid hne
  have HLL := Lib.hid hll
  have hi1 : IntKind.i64.wrap ((s.nodes.length : Int) + 1) = (s.nodes.length : Int) + 1 := by rw [IntKind.wrap_i64]; omega
  obtain ⟨m, hm⟩ : ∃ m : Nat, s.nodes.length + 1 - q0.can.length = m := ⟨_, rfl⟩
  have hi2 : (s.nodes.length : Int) + 1 - (q0.can.length : Int) = (m : Int) := by omega
  obtain ⟨v', wa, hrun, hown, hgrow, hat⟩ := run_append_falses W.drew 0 q0.sl q0.can m 30 (hq.row) (by omega) (Nat.zero_le _)
  rw [hsl] at hrun
  obtain ⟨ao, cap', rfl, _, _⟩ := own_shape hown
  have hlm : q0.can.length + m = s.nodes.length + 1 := by omega
  have hpc := (cell_eq (i := 2) (hgrow.block q0.p hp (fun e => hq.row_ne_p e.symm rfl))).trans h2
  have hpf := (frozen_eq (i := 2) (hgrow.block q0.p hp (fun e => hq.row_ne_p e.symm rfl))).trans hf
  have HLM := Lib.hid hlm
  have HA := Lib.hid (And.intro hown (And.intro hgrow hat))
  clear hq hst hsp hcc hks sep hin hne hsl hown hgrow hat hll hm hlm
  go_enter Try.func12, Try.ntmps12
  go_wp2_with (go_at_call 13; refine (len_calls HST.out).mono ?_; rintro e W ⟨rfl, rfl⟩)
  refine Mix.wp_region_mix (fun _ => True) (fun i => [0, 0, 2, 6, 14, 0, 32, 0, 128, 384, 896, 1920, 4064, 8190, 16383, 32767, 65535].getD i 0) (fun i => [1, 2, 2, 2, 2, 2, 2, 2, 2, 2, 2, 2, 2, 0, 2, 2, 3].getD i 0) (by kernel_rfl) ⟨by kernel_rfl, by kernel_rfl, by kernel_rfl, by kernel_rfl, by kernel_rfl⟩ trivial ?_; simp only [Mix.whole, List.getD_cons_zero, List.getD_cons_succ, Nat.reduceAdd]
  repeat (first | (refine Mix.pin_no rfl rfl (fun K hK => ?_); go_step; refine hK _ ?_; clear hK K) | (refine Mix.soft_no rfl rfl ?_; apply Exists.intro; refine ⟨fun w' hS => ?_, fun K hK => ?_⟩; (first | (go_simp; done) | (go_simp; exact rfl)); simp only [List.setIfInBounds_toArray, List.set_cons_zero, List.set_cons_succ]; refine hK _ ?_; clear hK K) | (refine Mix.pin_not rfl rfl rfl rfl (fun K hK => ?_); simp only [List.setIfInBounds_toArray, List.set_cons_zero, List.set_cons_succ]; refine hK _ ?_; clear hK K) | (refine Mix.soft_not rfl rfl rfl rfl (fun K hK => ?_); simp only [List.setIfInBounds_toArray, List.set_cons_zero, List.set_cons_succ]; refine hK _ ?_; clear hK K) | (refine Mix.pin_yes rfl rfl rfl rfl (fun K hK => ?_); go_step; refine hK _ ?_; clear hK K) | (refine Mix.soft_yes rfl rfl rfl rfl ?_; apply Exists.intro; refine ⟨fun w' hS => ?_, fun K hK => ?_⟩; (first | (go_simp; done) | (go_simp; exact rfl)); simp only [List.setIfInBounds_toArray, List.set_cons_zero, List.set_cons_succ]; refine hK _ ?_; clear hK K))
  refine Mix.hard_no rfl (fun K hK => ?_)
  refine Go.Lib.wp_append_run _ _ _ _ _ rfl _ _ rfl rfl _ _ hrun ?_
  refine hK _ _ ⟨trivial, ?_⟩
  clear hK K hrun
  simp only [Act.put, List.setIfInBounds_toArray, List.set_cons_zero, List.set_cons_succ]
  repeat (first | (refine Mix.pin_no rfl rfl (fun K hK => ?_); go_step; refine hK _ ?_; clear hK K) | (refine Mix.pin_not rfl rfl rfl rfl (fun K hK => ?_); simp only [List.setIfInBounds_toArray, List.set_cons_zero, List.set_cons_succ]; refine hK _ ?_; clear hK K) | (refine Mix.pin_yes rfl rfl rfl rfl (fun K hK => ?_); go_step; refine hK _ ?_; clear hK K))
  refine Mix.last_no rfl (fun K hK => ?_)
  go_step
  refine hK _ _ ?_
  clear hK K
  refine Mix.walk_nil ?_
  have hL := lrn_first (S := LS q0 l) HQ.out HST.out HSP.out SEP.out (fun t h => .inl h) HKS.out HCC.out HA.out.1 HA.out.2.1 HA.out.2.2
  generalize wa.setCell ⟨q0.p, 2, none⟩ (.slice ao (q0.can.length + m) cap') = wb at *
  have HL := Lib.hid hL
  clear hL HA hpc hpf hi1 hi2
  go_wp2
  go_loopw [39] (fun i wr => Rel1 W q0 s l i wr) (fun i _ => l.length - (intOf i).toNat)
  case atStart => exact ⟨0, _, Nat.zero_le _, rfl, HL.out, by simp [HLM.out], fun t h => h, fun t h => by simp at h⟩
  case round =>
    clear HL
    obtain ⟨k, q, hk, rfl, hR, hcl, hold, hnew⟩ := hrel
    have c0 := hR.mind.cell0
    have c1 := hR.mind.cell1
    have c2 := hR.mind.cell2
    rw [hR.hp, hR.hsp] at c0
    rw [hR.hp, hR.hm] at c1
    rw [hR.hp] at c2
    have hpr : q0.p < wr.heap.size := by have := hR.mind.p_lt; rw [hR.hp] at this; exact this
    have HR := Lib.hid hR
    have HX := Lib.hid (And.intro hcl (And.intro hold hnew))
    clear hR hcl hold hnew
    have hkb : (k : Int) ≤ 1000000 := by have := HLL.out; omega
    by_cases hlt : k < l.length
    · rcases HIN.out with hnil | ⟨b, off, rfl, hb, hc⟩
      · rw [hnil] at hlt; simp at hlt
      have g0 := (cell_eq (i := off + k) (HR.out.chg.block b hb (HNE.out (fun e => by rw [e] at hlt; simp at hlt) b off rfl))).trans (hc k hlt)
      have htk : l.take (k + 1) = l.take k ++ [l[k]] := List.take_succ_eq_append_getElem hlt
      have HTK := Lib.hid htk
      have hmem : l[k] ∈ l := List.getElem_mem hlt
      have HMEM := Lib.hid hmem
      clear hc htk hmem
      generalize l[k] = x at *
      obtain ⟨es', ck', hrun, hm', _⟩ := HR.out.mind.map.store x
      rw [HR.out.hm] at hrun
      have HM := Lib.hid hm'
      clear hm'
      by_cases hx1 : 1 ≤ x
      · by_cases hx2 : x ≤ s.nodes.length
        · have b1 : decide ((1 : Int) ≤ x) = true := by simpa using hx1
          have b2 : decide (x ≤ (s.nodes.length : Int)) = true := by simpa using hx2
          have hkx : knownB s.nodes.length x = true := knownB_iff.2 ⟨hx1, hx2⟩
          have HKX := Lib.hid hkx
          clear hx1 hx2 hkx
          go_wp2
          refine ⟨?_, by simp [intOf]; omega⟩
          rw [show (k : Int) + 1 = ((k + 1 : Nat) : Int) by omega]
          exact Rel1.more HST.out SEP.out hlt HR.out HX.out HTK.out HMEM.out HKX.out HM.out
        · have b1 : decide ((1 : Int) ≤ x) = true := by simpa using hx1
          have b2 : decide (x ≤ (s.nodes.length : Int)) = false := by simpa using hx2
          have hkx : knownB s.nodes.length x = false := by rw [← Bool.not_eq_true, knownB_iff]; omega
          have HKX := Lib.hid hkx
          clear hx1 hx2 hkx hrun
          go_wp2
          refine ⟨?_, by simp [intOf]; omega⟩
          rw [show (k : Int) + 1 = ((k + 1 : Nat) : Int) by omega]
          exact Rel1.same hlt HR.out HX.out HTK.out HKX.out
      · have b1 : decide ((1 : Int) ≤ x) = false := by simpa using hx1
        have hkx : knownB s.nodes.length x = false := by rw [← Bool.not_eq_true, knownB_iff]; omega
        have HKX := Lib.hid hkx
        clear hx1 hkx hrun
        go_wp2
        refine ⟨?_, by simp [intOf]; omega⟩
        rw [show (k : Int) + 1 = ((k + 1 : Nat) : Int) by omega]
        exact Rel1.same hlt HR.out HX.out HTK.out HKX.out
    · have hke : k = l.length := by omega
      subst hke
      have hS : ∀ t, LS q0 l t → knownB s.nodes.length t = true → t ∈ q.ks := by
        have h2 := HX.out.2
        rw [List.take_length] at h2
        exact fun t ht hkt => ht.elim (h2.1 t) (fun h => h2.2 t h hkt)
      have HS := Lib.hid hS
      have HCL := Lib.hid HX.out.1
      clear hS HX hlt hkb
      go_wp2
      clear c0 c1 c2 hpr
      go_loopw [7] (fun v wr => Rel2 W q0 s l v wr) (fun v wr => ag1 v + (s.nodes.length + 1 - mapCount wr q0.m))
      case atStart => exact ⟨true, q, rfl, HR.out, HCL.out, HS.out, fun h => by cases h⟩
      case round =>
        clear HR HS HCL
        clear q
        obtain ⟨ag, q, rfl, hR, hcl, hS, hfin⟩ := hrel
        have HR := Lib.hid hR
        have HCL := Lib.hid hcl
        have HS := Lib.hid hS
        have HFIN := Lib.hid hfin
        clear hR hcl hS hfin
        cases ag
        · have HE := Lib.hid (Learnt.of HR.out HCL.out HS.out (HFIN.out rfl))
          clear HR HCL HS HFIN
          go_wp2
          exact ⟨rfl, _, by simp [results, Try.results12, go_sem], rfl, HE.out⟩
        · clear HFIN
          go_wp2
          go_loopw [8] (fun i wr => Rel4 W q0 s l q.ks i wr) (fun i _ => s.nodes.length + 2 - (intOf i).toNat)
          case atStart => exact ⟨1, q, by omega, by omega, rfl, HR.out, HCL.out, rfl, Pass.start _ _ _⟩
          case round =>
            have hkc := HR.out.mind.map.count
            rw [HR.out.hm] at hkc
            have HKC := Lib.hid hkc
            clear hkc
            have HS0 := Lib.hid HS.out
            clear HR HCL HS
            generalize hks1 : q.ks = ks1 at *
            clear hks1
            clear q
            obtain ⟨j, q, hj1, hj2, rfl, hR, hcl, hks, hpass⟩ := hrel
            have c0 := hR.mind.cell0
            have c1 := hR.mind.cell1
            have c2 := hR.mind.cell2
            rw [hR.hp, hR.hsp] at c0
            rw [hR.hp, hR.hm] at c1
            rw [hR.hp] at c2
            have hpr : q0.p < wr.heap.size := by have := hR.mind.p_lt; rw [hR.hp] at this; exact this
            have HR := Lib.hid hR
            have HCL := Lib.hid hcl
            have HKS := Lib.hid hks
            have HPS := Lib.hid hpass
            clear hR hcl hks hpass
            by_cases hlt : j ≤ s.nodes.length
            · have hkj : knownB s.nodes.length (j : Int) = true := knownB_iff.2 ⟨by omega, by omega⟩
              have hgc := get_calls HR.out.st (j : Int)
              have hpi := partsIn_of HR.out.st.wf hkj HCL.out
              have hgn : ∃ n, getN s.nodes (j : Int) = n := ⟨_, rfl⟩
              obtain ⟨n, hgn⟩ := hgn
              rw [hgn] at hgc hpi
              obtain ⟨k0, l0, a0, b0⟩ := n
              have HG := Lib.hid hgc
              have HGN := Lib.hid hgn
              have HPI := Lib.hid hpi
              have HKJ := Lib.hid hkj
              clear hgc hgn hpi hkj
              go_upto_region 15 with (go_at_call 17; refine HG.out.mono ?_; rintro e w2 ⟨rfl, hc2⟩)
              have hLg := (HR.out.still hc2).alloc (.cells #[.int .i64 k0, .string l0, .int .i64 a0, .int .i64 b0] 38)
              have hbx : (w2.alloc (.cells #[.int .i64 k0, .string l0, .int .i64 a0, .int .i64 b0] 38)).heap[w2.heap.size]? = some (.cells #[.int .i64 k0, .string l0, .int .i64 a0, .int .i64 b0] 38 (0, 0)) := heap_alloc_at
              clear c0 c1 c2 hpr hc2 HR HG
              generalize w2.alloc (.cells #[.int .i64 k0, .string l0, .int .i64 a0, .int .i64 b0] 38) = wg at *
              generalize w2.heap.size = X at *
              have e0 := cell_of hbx 0
              have e1 := cell_of hbx 1
              have e2 := cell_of hbx 2
              have e3 := cell_of hbx 3
              simp only [List.getElem?_toArray, List.getElem?_cons_zero, List.getElem?_cons_succ] at e0 e1 e2 e3
              have hX : X < wg.heap.size := lt_of_heap hbx
              have c1 := hLg.mind.cell1
              have c2 := hLg.mind.cell2
              rw [hLg.hp, hLg.hm] at c1
              rw [hLg.hp] at c2
              have hpr : q0.p < wg.heap.size := by have := hLg.mind.p_lt; rw [hLg.hp] at this; exact this
              have hjl : j < q.can.length := by rw [HCL.out]; omega
              obtain ⟨g, c', hsl, hg, _, hcg, hfg⟩ := row_bool hLg.mind.row hjl
              have hgo : q.sl.ownBlock = some g := by rw [hsl]; rfl
              rw [hsl, HCL.out] at c2
              have hlk := hLg.drew.mind.map.lookup (j : Int)
              rw [hLg.hm] at hlk
              have hmd : ∀ w', MindAt w' q → Calls Try.prog 28 #[q0.ptr, .agg #[.int .i64 k0, .string l0, .int .i64 a0, .int .i64 b0]] w' fun e w'' => e = .returned (.bool (madeB (cbI q.can) ⟨k0, l0, a0, b0⟩)) ∧ Chg none_ w' w'' := fun w' h => by
                have h2 := made_calls h (by rw [HCL.out]; omega) ⟨k0, l0, a0, b0⟩ HPI.out
                rw [Mind.ptr, hLg.hp] at h2
                exact h2
              have HL := Lib.hid hLg
              have HMD := Lib.hid hmd
              have HGO := Lib.hid hgo
              have HST2 := Lib.hid (fun wz x (h : Lrn W q0 s (LS q0 l) q wz) => Rel4.step (x := x) HST.out SEP.out h hgo HKJ.out HCL.out HKS.out HPS.out)
              clear hLg hmd hgo hsl hbx hjl
              generalize hx0 : q.can.getD j false = x0 at *
              generalize hkb : decide ((j : Int) ∈ q.ks) = kb at *
              have HXK := Lib.hid (And.intro hx0 hkb)
              clear hx0 hkb
              cases x0
              · cases kb
                · (refine Mix.wp_region_mix (fun w' => w'.cell? ⟨q0.p, 2, none⟩ = some (.slice (some ⟨g, 0, none⟩) (s.nodes.length + 1) c')) (fun i => [0, 1, 3, 7, 0, 0, 32, 96, 224, 0, 992, 2016, 4064, 8160, 16352, 32736, 65504, 8160, 262112, 524256, 1048544, 2097120, 2097120, 8388576, 16777184, 33554431, 67108863].getD i 0) (fun i => [1, 1, 1, 1, 1, 2, 2, 2, 2, 2, 2, 2, 2, 2, 2, 2, 2, 2, 2, 2, 2, 2, 2, 0, 2, 2, 3].getD i 0) (by kernel_rfl) ⟨by kernel_rfl, by kernel_rfl, by kernel_rfl, by kernel_rfl, by kernel_rfl⟩ c2 ?_; simp only [Mix.whole, List.getD_cons_zero, List.getD_cons_succ, Nat.reduceAdd])
                  repeat (first | (refine Mix.pin_no rfl rfl (fun K hK => ?_); go_step; refine hK _ ?_; clear hK K) | (refine Mix.soft_no rfl rfl ?_; apply Exists.intro; refine ⟨fun w' hS => ?_, fun K hK => ?_⟩; (first | (go_simp; done) | (go_simp; exact rfl)); simp only [List.setIfInBounds_toArray, List.set_cons_zero, List.set_cons_succ]; refine hK _ ?_; clear hK K) | (refine Mix.pin_not rfl rfl rfl rfl (fun K hK => ?_); simp only [List.setIfInBounds_toArray, List.set_cons_zero, List.set_cons_succ]; refine hK _ ?_; clear hK K) | (refine Mix.soft_not rfl rfl rfl rfl (fun K hK => ?_); simp only [List.setIfInBounds_toArray, List.set_cons_zero, List.set_cons_succ]; refine hK _ ?_; clear hK K) | (refine Mix.pin_yes rfl rfl rfl rfl (fun K hK => ?_); go_step; refine hK _ ?_; clear hK K) | (refine Mix.soft_yes rfl rfl rfl rfl ?_; apply Exists.intro; refine ⟨fun w' hS => ?_, fun K hK => ?_⟩; (first | (go_simp; done) | (go_simp; exact rfl)); simp only [List.setIfInBounds_toArray, List.set_cons_zero, List.set_cons_succ]; refine hK _ ?_; clear hK K))
                  refine Mix.hard_yes rfl rfl rfl (fun K hK => ?_)
                  go_step
                  with_reducible refine (HMD.out _ HL.out.drew.mind).mono ?_
                  rintro e w6 ⟨rfl, hc6⟩
                  have hL6 := HL.out.drew.still hc6
                  have d2 := (cell_eq (i := 2) (hc6.block q0.p (by simpa using hpr) (fun h => h))).trans c2
                  have dg := (cell_eq (i := j) (hc6.block g (by simpa using hg) (fun h => h))).trans hcg
                  have df := (frozen_eq (i := j) (hc6.block g (by simpa using hg) (fun h => h))).trans hfg
                  have HL6 := Lib.hid hL6
                  clear hL6 hc6
                  dsimp only
                  refine hK _ _ ⟨d2, ?_⟩
                  clear hK K
                  generalize hmb : madeB (cbI q.can) ⟨k0, l0, a0, b0⟩ = mb at *
                  have HMB := Lib.hid hmb
                  clear hmb hlk HMD
                  (try simp only [Act.put, List.setIfInBounds_toArray, List.set_cons_zero, List.set_cons_succ])
                  repeat (first | (refine Mix.pin_no rfl rfl (fun K hK => ?_); go_step; refine hK _ ?_; clear hK K) | (refine Mix.pin_not rfl rfl rfl rfl (fun K hK => ?_); simp only [List.setIfInBounds_toArray, List.set_cons_zero, List.set_cons_succ]; refine hK _ ?_; clear hK K) | (refine Mix.pin_yes rfl rfl rfl rfl (fun K hK => ?_); go_step; refine hK _ ?_; clear hK K))
                  refine Mix.last_no rfl (fun K hK => ?_)
                  go_step
                  refine hK _ _ ?_
                  clear hK K
                  refine Mix.walk_nil ?_
                  go_wp2
                  refine ⟨?_, by simp [intOf]; omega⟩
                  rw [show (j : Int) + 1 = ((j + 1 : Nat) : Int) by omega]
                  exact HST2.out _ _ HL6.out (by rw [HGN.out, HMB.out]; rfl)
                · (refine Mix.wp_region_mix (fun w' => w'.cell? ⟨q0.p, 2, none⟩ = some (.slice (some ⟨g, 0, none⟩) (s.nodes.length + 1) c')) (fun i => [0, 1, 3, 7, 0, 0, 32, 96, 224, 0, 992, 2016, 4064, 8160, 16352, 32736, 65504, 8160, 262112, 524256, 1048544, 2097120, 2097120, 8388576, 16777184, 33554431, 67108863].getD i 0) (fun i => [1, 1, 1, 1, 1, 2, 2, 2, 2, 2, 2, 2, 2, 2, 2, 2, 2, 2, 2, 2, 2, 2, 2, 0, 2, 2, 3].getD i 0) (by kernel_rfl) ⟨by kernel_rfl, by kernel_rfl, by kernel_rfl, by kernel_rfl, by kernel_rfl⟩ c2 ?_; simp only [Mix.whole, List.getD_cons_zero, List.getD_cons_succ, Nat.reduceAdd])
                  repeat (first | (refine Mix.pin_no rfl rfl (fun K hK => ?_); go_step; refine hK _ ?_; clear hK K) | (refine Mix.soft_no rfl rfl ?_; apply Exists.intro; refine ⟨fun w' hS => ?_, fun K hK => ?_⟩; (first | (go_simp; done) | (go_simp; exact rfl)); simp only [List.setIfInBounds_toArray, List.set_cons_zero, List.set_cons_succ]; refine hK _ ?_; clear hK K) | (refine Mix.pin_not rfl rfl rfl rfl (fun K hK => ?_); simp only [List.setIfInBounds_toArray, List.set_cons_zero, List.set_cons_succ]; refine hK _ ?_; clear hK K) | (refine Mix.soft_not rfl rfl rfl rfl (fun K hK => ?_); simp only [List.setIfInBounds_toArray, List.set_cons_zero, List.set_cons_succ]; refine hK _ ?_; clear hK K) | (refine Mix.pin_yes rfl rfl rfl rfl (fun K hK => ?_); go_step; refine hK _ ?_; clear hK K) | (refine Mix.soft_yes rfl rfl rfl rfl ?_; apply Exists.intro; refine ⟨fun w' hS => ?_, fun K hK => ?_⟩; (first | (go_simp; done) | (go_simp; exact rfl)); simp only [List.setIfInBounds_toArray, List.set_cons_zero, List.set_cons_succ]; refine hK _ ?_; clear hK K))
                  (refine Mix.hard_not rfl rfl rfl rfl (fun K hK => ?_); simp only [List.setIfInBounds_toArray, List.set_cons_zero, List.set_cons_succ]; refine hK _ ?_; clear hK K)
                  repeat (first | (refine Mix.pin_no rfl rfl (fun K hK => ?_); go_step; refine hK _ ?_; clear hK K) | (refine Mix.pin_not rfl rfl rfl rfl (fun K hK => ?_); simp only [List.setIfInBounds_toArray, List.set_cons_zero, List.set_cons_succ]; refine hK _ ?_; clear hK K) | (refine Mix.pin_yes rfl rfl rfl rfl (fun K hK => ?_); go_step; refine hK _ ?_; clear hK K))
                  refine Mix.last_no rfl (fun K hK => ?_)
                  go_step
                  refine hK _ _ ?_
                  clear hK K
                  refine Mix.walk_nil ?_
                  go_wp2
                  refine ⟨?_, by simp [intOf]; omega⟩
                  rw [show (j : Int) + 1 = ((j + 1 : Nat) : Int) by omega]
                  exact HST2.out _ _ HL.out.drew (by rfl)
              · (refine Mix.wp_region_mix (fun w' => w'.cell? ⟨q0.p, 2, none⟩ = some (.slice (some ⟨g, 0, none⟩) (s.nodes.length + 1) c')) (fun i => [0, 1, 3, 7, 0, 0, 32, 96, 224, 0, 992, 2016, 4064, 8160, 16352, 32736, 65504, 8160, 262112, 524256, 1048544, 2097120, 2097120, 8388576, 16777184, 33554431, 67108863].getD i 0) (fun i => [1, 1, 1, 1, 1, 2, 2, 2, 2, 2, 2, 2, 2, 2, 2, 2, 2, 2, 2, 2, 2, 2, 2, 0, 2, 2, 3].getD i 0) (by kernel_rfl) ⟨by kernel_rfl, by kernel_rfl, by kernel_rfl, by kernel_rfl, by kernel_rfl⟩ c2 ?_; simp only [Mix.whole, List.getD_cons_zero, List.getD_cons_succ, Nat.reduceAdd])
                repeat (first | (refine Mix.pin_no rfl rfl (fun K hK => ?_); go_step; refine hK _ ?_; clear hK K) | (refine Mix.soft_no rfl rfl ?_; apply Exists.intro; refine ⟨fun w' hS => ?_, fun K hK => ?_⟩; (first | (go_simp; done) | (go_simp; exact rfl)); simp only [List.setIfInBounds_toArray, List.set_cons_zero, List.set_cons_succ]; refine hK _ ?_; clear hK K) | (refine Mix.pin_not rfl rfl rfl rfl (fun K hK => ?_); simp only [List.setIfInBounds_toArray, List.set_cons_zero, List.set_cons_succ]; refine hK _ ?_; clear hK K) | (refine Mix.soft_not rfl rfl rfl rfl (fun K hK => ?_); simp only [List.setIfInBounds_toArray, List.set_cons_zero, List.set_cons_succ]; refine hK _ ?_; clear hK K) | (refine Mix.pin_yes rfl rfl rfl rfl (fun K hK => ?_); go_step; refine hK _ ?_; clear hK K) | (refine Mix.soft_yes rfl rfl rfl rfl ?_; apply Exists.intro; refine ⟨fun w' hS => ?_, fun K hK => ?_⟩; (first | (go_simp; done) | (go_simp; exact rfl)); simp only [List.setIfInBounds_toArray, List.set_cons_zero, List.set_cons_succ]; refine hK _ ?_; clear hK K))
                (refine Mix.hard_not rfl rfl rfl rfl (fun K hK => ?_); simp only [List.setIfInBounds_toArray, List.set_cons_zero, List.set_cons_succ]; refine hK _ ?_; clear hK K)
                repeat (first | (refine Mix.pin_no rfl rfl (fun K hK => ?_); go_step; refine hK _ ?_; clear hK K) | (refine Mix.pin_not rfl rfl rfl rfl (fun K hK => ?_); simp only [List.setIfInBounds_toArray, List.set_cons_zero, List.set_cons_succ]; refine hK _ ?_; clear hK K) | (refine Mix.pin_yes rfl rfl rfl rfl (fun K hK => ?_); go_step; refine hK _ ?_; clear hK K))
                refine Mix.last_no rfl (fun K hK => ?_)
                go_step
                refine hK _ _ ?_
                clear hK K
                refine Mix.walk_nil ?_
                go_wp2
                refine ⟨?_, by simp [intOf]; omega⟩
                rw [show (j : Int) + 1 = ((j + 1 : Nat) : Int) by omega]
                exact HST2.out _ _ HL.out.drew (by rfl)
            · have hje : j = s.nodes.length + 1 := by omega
              subst hje
              have hrg := run_range_map HR.out.mind.map.obj
              rw [HR.out.hm] at hrg
              have hL2 := HR.out.alloc (.mapIter (some q0.m) q.clock #[] q.clock)
              have hit : (wr.alloc (.mapIter (some q0.m) q.clock #[] q.clock)).heap[wr.heap.size]? = some (.mapIter (some q0.m) q.clock #[] q.clock) := heap_alloc_at
              have hrW : W.heap.size ≤ wr.heap.size := HR.out.chg.size
              have hks := HKS.out
              have hS1 := HS0.out
              have h6 : R6 W q0 s l ks1 q.can wr.heap.size q.clock false q #[] q.clock (wr.alloc (.mapIter (some q0.m) q.clock #[] q.clock)) :=
                ⟨hL2, rfl, hit, hrW, by simp, fun b hb => (by simp at hb), fun h => (by simp at h), fun t ht => (by rw [hks]; exact ht), fun h => (by cases h), fun _ => ⟨hks, HR.out.mind.map.stamped.1, fun e he hc => by simp at hc⟩⟩
              have H6 := Lib.hid h6
              have hps := HPS.out
              rw [hks] at hps
              have HFN := Lib.hid (And.intro HCL.out (And.intro hS1 hps))
              clear hL2 hit hrW hks hS1 h6 hps HR HCL HPS HS0 hlt hj1 hj2
              generalize hcan : q.can = can1 at *
              generalize hclk : q.clock = since at *
              clear hcan hclk HKS
              go_wp2
              generalize wr.alloc (.mapIter (some q0.m) since #[] since) = wi at *
              generalize wr.heap.size = RR at *
              clear hrg hpr c0 c1 c2
              go_loopw [7] (fun v wr' => Rel6 W q0 s l ks1 can1 RR since v wr') (fun _ wr' => s.nodes.length + 1 - iterSeen wr' RR)
              case atStart => exact ⟨false, q, #[], since, rfl, H6.out⟩
              case round =>
                clear H6
                clear q
                obtain ⟨ag, q, seen, c0, rfl, h6⟩ := hrel
                have hit := h6.it
                rw [← h6.L.hm] at hit
                rcases h6.L.mind.map.next 0 hit h6.ne with ⟨hall, w1, hw1, hrun⟩ | ⟨e, k, he, hs, hek, hkks, w1, hw1, hrun, hent⟩
                · obtain ⟨hd1, hd2⟩ := h6.done hw1 HFN.out.1 HFN.out.2.1 HFN.out.2.2 hall
                  have HD := Lib.hid hd1
                  have hme : ag1 (.bool ag) + (s.nodes.length + 1 - mapCount w1 q0.m) < ag1 (.bool true) + (s.nodes.length + 1 - ks1.length) := by
                    rw [hd2]
                    have h1 := h6.seen_le.2
                    have e1 : ag1 (.bool true) = 1 := rfl
                    have e0 : ag1 (.bool false) = 0 := rfl
                    cases ag with
                    | true => have := h6.up rfl; omega
                    | false => have := (h6.dn rfl).1; rw [this] at h1 ⊢; omega
                  rw [← HKC.out] at hme
                  have HME := Lib.hid hme
                  clear hme hd1 hd2 hall hw1 h6 hit
                  go_wp2
                  exact ⟨HD.out, HME.out⟩
                · rw [h6.L.hm] at hrun hent
                  have hL := h6.L.iter HST.out h6.it h6.rW hw1 (.mapIter (some q0.m) since (seen.push e.born) q.clock)
                  have hRR : RR < w1.heap.size := by rcases hw1 with rfl | rfl <;> exact lt_of_heap h6.it
                  have hitA := heap_putObj_at (w := w1) (o := .mapIter (some q0.m) since (seen.push e.born) q.clock) hRR
                  have H6 := Lib.hid h6
                  clear hRR h6 hit hw1
                  generalize putObj w1 RR (.mapIter (some q0.m) since (seen.push e.born) q.clock) = wA at *
                  have hkk := (hL.ck k hkks).range hL.st.wf
                  have hcg := get_calls hL.st k
                  have hw := wf_parts hL.st.wf hkk
                  have hgn : ∃ n, getN s.nodes k = n := ⟨_, rfl⟩
                  obtain ⟨n, hgn⟩ := hgn
                  rw [hgn] at hcg hw
                  obtain ⟨k0, l0, a0, b0⟩ := n
                  have HCG := Lib.hid hcg
                  have HW := Lib.hid hw
                  have HGN := Lib.hid hgn
                  have HEK := Lib.hid hek
                  have HE := Lib.hid (And.intro he (And.intro hs (And.intro hkks hkk)))
                  have c0' := hL.mind.cell0
                  rw [hL.hp, hL.hsp] at c0'
                  have HL := Lib.hid hL
                  have HIT := Lib.hid hitA
                  have hpr : q0.p < wA.heap.size := by have := HL.out.mind.p_lt; rw [HL.out.hp] at this; exact this
                  clear hcg hw hgn hek he hs hkks hkk hL hitA
                  go_upto_region 20 with (go_at_call 17; refine HCG.out.mono ?_; rintro e w2 ⟨rfl, hc2⟩)
                  have hLg := (HL.out.still hc2).alloc (.cells #[.int .i64 k0, .string l0, .int .i64 a0, .int .i64 b0] 38)
                  have hbx : (w2.alloc (.cells #[.int .i64 k0, .string l0, .int .i64 a0, .int .i64 b0] 38)).heap[w2.heap.size]? = some (.cells #[.int .i64 k0, .string l0, .int .i64 a0, .int .i64 b0] 38 (0, 0)) := heap_alloc_at
                  have hitg := (heap_alloc_lt (o := .cells #[.int .i64 k0, .string l0, .int .i64 a0, .int .i64 b0] 38) (Nat.lt_of_lt_of_le (lt_of_heap HIT.out) hc2.size)).trans ((hc2.block RR (lt_of_heap HIT.out) (fun h => h)).trans HIT.out)
                  clear c0' hpr hc2 HL HIT HCG
                  generalize w2.alloc (.cells #[.int .i64 k0, .string l0, .int .i64 a0, .int .i64 b0] 38) = wg at *
                  generalize w2.heap.size = X at *
                  have e0 := cell_of hbx 0
                  have e1 := cell_of hbx 1
                  have e2 := cell_of hbx 2
                  have e3 := cell_of hbx 3
                  simp only [List.getElem?_toArray, List.getElem?_cons_zero, List.getElem?_cons_succ] at e0 e1 e2 e3
                  have hX : X < wg.heap.size := lt_of_heap hbx
                  have hql : q.can.length = s.nodes.length + 1 := by rw [H6.out.can]; exact HFN.out.1
                  have hkr := knownB_iff.1 HE.out.2.2.2
                  have hac : Calls Try.prog 29 #[q0.ptr, .agg #[.int .i64 k0, .string l0, .int .i64 a0, .int .i64 b0]] wg fun e w' => ∃ sl c, e = .returned (.slice sl (apartL s.nodes (cbI q.can) ⟨k0, l0, a0, b0⟩).length c) ∧ FreshI wg.heap.size w' sl (apartL s.nodes (cbI q.can) ⟨k0, l0, a0, b0⟩) ∧ Chg none_ wg w' := by
                    have h2 := apart_calls hLg.mind hLg.st hLg.hsp (by rw [hql]; omega) ⟨k0, l0, a0, b0⟩ (fun e => by have := HW.out.1 (.inr (.inr (.inl e))); dsimp only at this ⊢; omega) (fun e => by have := HW.out.2.2 e; dsimp only at this ⊢; omega)
                    rw [Mind.ptr, hLg.hp] at h2
                    exact h2
                  have hxs : ∀ x, ApartP s.nodes (fun x => cbI can1 x = true) (getN s.nodes k) x → x ∈ apartL s.nodes (cbI q.can) ⟨k0, l0, a0, b0⟩ := fun x hx => by
                    rw [apartL_iff, H6.out.can, ← HGN.out]; exact hx
                  have hsd : ∀ x ∈ apartL s.nodes (cbI q.can) ⟨k0, l0, a0, b0⟩, KnD s.nodes (LS q0 l) x := fun x hx => by
                    rw [apartL_iff, ← HGN.out] at hx
                    exact (closedD _ _).apart k x (H6.out.L.ck k HE.out.2.2.1) (hx.mono fun t ht => H6.out.L.sound ht)
                  have hxl := apartL_len s.nodes (cbI q.can) ⟨k0, l0, a0, b0⟩
                  generalize apartL s.nodes (cbI q.can) ⟨k0, l0, a0, b0⟩ = xs at *
                  have HAC := Lib.hid hac
                  have HXS := Lib.hid hxs
                  have HSD := Lib.hid hsd
                  have HLg := Lib.hid hLg
                  have HITG := Lib.hid hitg
                  clear hac hxs hsd hLg hitg hbx hql hkr HW
                  go_wp2_with (go_at_call 29; with_reducible refine HAC.out.mono ?_; rintro e w3 ⟨sl, c3, rfl, hfr, hc3⟩)
                  have h8 : R8 W q0 s l ks1 can1 RR since ag q (seen.push e.born) q.clock sl xs ag q 0 w3 :=
                    ⟨HLg.out.still hc3, H6.out.can, (hc3.block RR (lt_of_heap HITG.out) (fun h => h)).trans HITG.out, List.prefix_refl _, fun t ht => ht, H6.out.up, fun ha => ⟨ha, rfl, rfl⟩, fun i hi hij => (by omega), hfr.elim .inl (fun ⟨g, h1, h2, h3, h4⟩ => .inr ⟨g, h1, Nat.zero_le _, h3, h4⟩)⟩
                  have H8 := Lib.hid h8
                  clear h8 hfr hc3 HLg HITG HAC e0 e1 e2 e3 hX
                  go_loopw [7, 119] (fun v i wr' => Rel8 W q0 s l ks1 can1 RR since ag q (seen.push e.born) q.clock sl xs v i wr') (fun _ i _ => xs.length - (intOf i).toNat)
                  case atStart => exact ⟨ag, q, 0, Nat.zero_le _, rfl, rfl, H8.out⟩
                  case round =>
                    clear H8
                    obtain ⟨ag', q', j, hj, rfl, rfl, h8⟩ := hrel
                    have c1 := h8.L.mind.cell1
                    rw [h8.L.hp, h8.L.hm] at c1
                    have H8 := Lib.hid h8
                    clear h8
                    by_cases hlt : j < xs.length
                    · rcases H8.out.fr with hnil | ⟨gx, rfl, _, hgl, hcx⟩
                      · rw [hnil] at hlt; simp at hlt
                      have hcj := hcx j hlt
                      have hxj : ∃ x, xs[j] = x := ⟨_, rfl⟩
                      obtain ⟨x, hxj⟩ := hxj
                      rw [hxj] at hcj
                      have hxm : x ∈ xs := hxj ▸ List.getElem_mem hlt
                      have hlk := H8.out.L.mind.map.lookup x
                      rw [H8.out.L.hm] at hlk
                      have HXJ := Lib.hid hxj
                      have HXM := Lib.hid (HSD.out x hxm)
                      clear hcx hxj hxm
                      by_cases hx : x ∈ q'.ks
                      · have HX := Lib.hid hx
                        rw [show decide (x ∈ q'.ks) = true by simpa using hx] at hlk
                        clear hx
                        go_wp2
                        refine ⟨?_, by simp [intOf]; omega⟩
                        rw [show (j : Int) + 1 = ((j + 1 : Nat) : Int) by omega]
                        exact R8.same H8.out hlt HXJ.out HX.out
                      · obtain ⟨r1, r2, r3⟩ := H8.out.L.mind.map.enter hx
                        rw [H8.out.L.hm] at r1 r2
                        have HX := Lib.hid (And.intro hx r3)
                        rw [show decide (x ∈ q'.ks) = false by simpa using hx] at hlk
                        clear hx r3
                        go_wp2
                        refine ⟨?_, by simp [intOf]; omega⟩
                        rw [show (j : Int) + 1 = ((j + 1 : Nat) : Int) by omega]
                        exact R8.more HST.out SEP.out H8.out (fun ha => (H6.out.dn ha).1) hlt HXJ.out HX.out.1 HXM.out HX.out.2
                    · have hb := R8.back H6.out HE.out.1 HE.out.2.1 HEK.out HXS.out H8.out (by omega)
                      have hi1 := iterSeen_eq hb.it
                      have hi2 := hb.seen_le.1
                      have HB := Lib.hid hb
                      have HI := Lib.hid (And.intro hi1 (And.intro hi2 (iterSeen_eq H6.out.it)))
                      clear hb hi1 hi2 H8 c1
                      go_wp2
                      refine ⟨?_, ?_⟩
                      · (repeat apply Exists.intro)
                        exact ⟨⟨ag', q', _, _, rfl, HB.out⟩, rfl⟩
                      · obtain ⟨i1, i2, i3⟩ := HI.out
                        rw [i1, i3]
                        simp only [Array.size_push] at i2 ⊢
                        omega

end Go.Proofs.Ytmdfhaihbaiegaa
