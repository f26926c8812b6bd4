/- TreeChecks, plainly: the program's Check and the document's say one thing of every list of vertices. -/
import Derived.Test.YtbblomnhobodkaaDoorPTvx12
import Derived.Test.YtbblomnhobodkaaDoorPureTree0
set_option linter.unusedVariables false
set_option linter.unusedSimpArgs false
namespace Go.Proofs.YtbblomnhobodkaaDoor.Pure
open Go.RowKit Go.Proofs.YtbblomnhobodkaaDoor Go.Proofs.YtbblomnhobodkaaDoor.PTv Go.Proofs.YtbblomnhobodkaaDoorW.PrintWords

theorem rd_at {l : List Int} {i : Nat} (h : i < l.length) : rd l (i : Int) = l[i] := by simp [rd, List.getD_eq_getElem?_getD, List.getElem?_eq_getElem h]

theorem late_same {l : List S29} {n x : Nat} (h : l.length = 2 * n - 1) (hp : pow2s.contains n = true) (hx : x < 63) (f0 : Bool) (f1 f2 f3 f4 : Int) (late : List Int) (hl : late.length ≤ 9223372036854775807) : ∀ (d i : Nat) (last : Int), d + i = late.length → (i = 0 → last = -1) → (∀ j : Nat, i = j + 1 → last = rd late (j : Int)) →
    ∃ b, Evr (fun k => tree_vertex.l0 k l (x : Int) late (late.length : Int) (i : Int) f0 f1 f2 f3 f4 late) b ∧ Evr (fun k => conclaveref04_vertex.l0 k l (x : Int) last (i : Int) f0 f1 f2 f3 f4 late) (b && (decide (f2 = 0) && decide (f3 = 0))) := by
  have hn := pow2s_le hp
  intro d
  induction d with
  | zero =>
    intro i last hd _ _
    refine ⟨true, .succ (f := fun _ => some true) (fun k => by rw [tree_vertex.l0, if_neg (by omega)]) (.const fun _ => rfl), ?_⟩
    refine .succ (f := fun _ => some (decide (f2 = 0) && decide (f3 = 0))) (fun k => ?_) (.const fun _ => by simp)
    rw [conclaveref04_vertex.l0, if_neg (by omega)]
    by_cases h2 : f2 = 0
    · rw [if_pos h2, decide_eq_true h2, Bool.true_and]; rfl
    · rw [if_neg h2, decide_eq_false h2, Bool.false_and]
  | succ d ih =>
    intro i last hd h0 h1
    have hi : i < late.length := by omega
    have hT : ∀ k, tree_vertex.l0 (k + 1) l (x : Int) late (late.length : Int) (i : Int) f0 f1 f2 f3 f4 late = if fullB l n (rd late (i : Int)) = true then ((heap_Under.f k (wrap64 (2 * rd late (i : Int))) (x : Int) (n : Int)).bind fun t => if t = true then (if (i : Int) > 0 then (if rd late ((i : Int) - 1) ≥ rd late (i : Int) then some false else tree_vertex.l0 k l (x : Int) late (late.length : Int) ((i + 1 : Nat) : Int) f0 f1 f2 f3 f4 late) else tree_vertex.l0 k l (x : Int) late (late.length : Int) ((i + 1 : Nat) : Int) f0 f1 f2 f3 f4 late) else some false) else some false := by
      intro k
      rw [tree_vertex.l0, if_pos (by omega), if_pos (by omega), if_pos (by omega), (full_same h (by omega) (by omega) _).2, Option.bind_some, (leaves_at h (by omega) (by omega)).2, Option.bind_some, wrap_id (a := (i : Int) + 1) (by omega), show (i : Int) + 1 = ((i + 1 : Nat) : Int) by omega]
      by_cases c : (i : Int) > 0
      · rw [wrap_id (a := (i : Int) - 1) (by omega)]
        simp only [if_pos c, if_pos (show 0 ≤ (i : Int) - 1 by omega), if_pos (show (i : Int) - 1 < (late.length : Int) by omega)]
      · simp only [if_neg c]
    have hR : ∀ k, conclaveref04_vertex.l0 (k + 1) l (x : Int) last (i : Int) f0 f1 f2 f3 f4 late = if rd late (i : Int) ≤ last then some false else if rd late (i : Int) ≥ 64 then some false else if fullB l n (rd late (i : Int)) = true then ((conclaveref03_Under.f k (wrap64 (2 * rd late (i : Int))) (x : Int) (n : Int)).bind fun t => if t = true then conclaveref04_vertex.l0 k l (x : Int) (rd late (i : Int)) ((i + 1 : Nat) : Int) f0 f1 f2 f3 f4 late else some false) else some false := by
      intro k
      rw [conclaveref04_vertex.l0, if_pos (by omega), if_pos (by omega), (full_same h (by omega) (by omega) _).1, Option.bind_some, (leaves_at h (by omega) (by omega)).1, Option.bind_some, wrap_id (a := (i : Int) + 1) (by omega), show (i : Int) + 1 = ((i + 1 : Nat) : Int) by omega]
    generalize hv : rd late (i : Int) = v at hT hR
    by_cases c : fullB l n v = true
    · have hvl := fullB_lt c
      obtain ⟨y, rfl⟩ : ∃ y : Nat, v = (y : Int) := ⟨v.toNat, by omega⟩
      obtain ⟨b1, u1, u2⟩ := under_same (y := 2 * y) hp hx (by omega)
      have eu : wrap64 (2 * (y : Int)) = ((2 * y : Nat) : Int) := by rw [wrap_id (by omega)]; omega
      simp only [if_pos c, eu] at hT hR
      cases b1 with
      | false =>
        refine ⟨false, .succ hT (u1.bind (.const fun _ => rfl)), .succ hR ?_⟩
        by_cases c1 : (y : Int) ≤ last
        · exact .const fun k => by rw [if_pos c1]; rfl
        · simp only [if_neg c1, if_neg (show ¬ (y : Int) ≥ 64 by omega)]
          exact u2.bind (.const fun _ => rfl)
      | true =>
        obtain ⟨b, t1, t2⟩ := ih (i + 1) (y : Int) (by omega) (by omega) (fun j hj => (show rd late (i : Int) = rd late (j : Int) by rw [show i = j by omega]).symm.trans hv |>.symm)
        by_cases c0 : (i : Int) > 0
        · obtain ⟨j, rfl⟩ : ∃ j, i = j + 1 := ⟨i - 1, by omega⟩
          have hlast := h1 j rfl
          have ej : ((j + 1 : Nat) : Int) - 1 = (j : Int) := by omega
          rw [ej, ← hlast] at hT
          by_cases c1 : (y : Int) ≤ last
          · exact ⟨false, .succ hT (u1.bind (.const fun k => by simp only [if_true, if_pos c0, if_pos (show last ≥ (y : Int) from c1)])), .succ hR (.const fun k => by rw [if_pos c1]; rfl)⟩
          · refine ⟨b, .succ hT (u1.bind ?_), .succ hR ?_⟩
            · simp only [if_true, if_pos c0, if_neg (show ¬ last ≥ (y : Int) from c1)]
              exact t1
            · simp only [if_neg c1, if_neg (show ¬ (y : Int) ≥ 64 by omega)]
              refine u2.bind ?_
              simp only [if_true]
              exact t2
        · have hz : i = 0 := by omega
          have hlast := h0 hz
          refine ⟨b, .succ hT (u1.bind ?_), .succ hR ?_⟩
          · simp only [if_true, if_neg c0]
            exact t1
          · simp only [if_neg (show ¬ (y : Int) ≤ last by omega), if_neg (show ¬ (y : Int) ≥ 64 by omega)]
            refine u2.bind ?_
            simp only [if_true]
            exact t2
    · simp only [if_neg c] at hT hR
      refine ⟨false, .succ hT (.const fun _ => rfl), .succ hR (.const fun k => ?_)⟩
      by_cases c1 : v ≤ last
      · rw [if_pos c1]; rfl
      · rw [if_neg c1]
        by_cases c2 : v ≥ 64
        · rw [if_pos c2]; rfl
        · rw [if_neg c2]; rfl

theorem vertex_same {l : List S29} (hw : WfV l) {n x : Nat} (h : l.length = 2 * n - 1) (hp : pow2s.contains n = true) (hx : x < l.length) : ∃ b, Evr (fun k => tree_vertex.f k l (x : Int)) b ∧ Evr (fun k => conclaveref04_vertex.f k l (x : Int)) b := by
  have hn := pow2s_le hp
  have hlate : (rd_T29 l (x : Int)).f5.length ≤ 9223372036854775807 := by
    have e : rd_T29 l (x : Int) = l[x] := VX_at hx
    rw [e]
    have := (hw.each _ (List.getElem_mem hx)).2.2.2.2.1
    unfold maxLen at this
    omega
  unfold tree_vertex.f conclaveref04_vertex.f
  simp only [if_pos (show 0 ≤ (x : Int) by omega), if_pos (show (x : Int) < (l.length : Int) by omega)]
  generalize rd_T29 l (x : Int) = v at *
  by_cases c0 : v.f0 = true
  · simp only [if_pos c0]
    by_cases c1 : Int.tmod (x : Int) 2 = 0
    · simp only [if_pos c1]
      exact ⟨_, .const fun _ => rfl, .const fun _ => rfl⟩
    · simp only [if_neg c1]
      obtain ⟨b, t1, t2⟩ := late_same (x := x) h hp (by omega) v.f0 v.f1 v.f2 v.f3 v.f4 v.f5 hlate v.f5.length 0 (-1) (by omega) (fun _ => rfl) (fun j hj => by omega)
      by_cases c2 : v.f2 = 0
      · by_cases c3 : v.f3 = 0
        · rw [decide_eq_true c2, decide_eq_true c3, Bool.true_and, Bool.and_true] at t2
          simp only [if_pos c2, if_pos c3]
          exact ⟨b, t1, t2⟩
        · rw [decide_eq_false c3, Bool.and_false, Bool.and_false] at t2
          simp only [if_pos c2, if_neg c3]
          exact ⟨false, .const fun _ => rfl, t2⟩
      · rw [decide_eq_false c2, Bool.false_and, Bool.and_false] at t2
        simp only [if_neg c2]
        exact ⟨false, .const fun _ => rfl, t2⟩
  · have cf : v.f0 = false := by simpa using c0
    simp only [if_neg c0]
    unfold tree_blank.f
    simp only [cf, Bool.false_eq_true, if_false]
    by_cases c1 : v.f1 = 0
    · simp only [if_pos c1]
      by_cases c2 : v.f2 = 0
      · simp only [if_pos c2]
        by_cases c3 : v.f3 = 0
        · simp only [if_pos c3]
          by_cases c4 : v.f4 = 0
          · simp only [if_pos c4, Option.bind_some]
            exact ⟨_, .const fun _ => rfl, .const fun _ => rfl⟩
          · simp only [if_neg c4, Option.bind_some]
            exact ⟨_, .const fun _ => rfl, .const fun _ => rfl⟩
        · simp only [if_neg c3, Option.bind_some]
          exact ⟨_, .const fun _ => rfl, .const fun _ => rfl⟩
      · simp only [if_neg c2, Option.bind_some]
        exact ⟨_, .const fun _ => rfl, .const fun _ => rfl⟩
    · simp only [if_neg c1, Option.bind_some]
      exact ⟨_, .const fun _ => rfl, .const fun _ => rfl⟩

theorem check_l0_same {l : List S29} (hw : WfV l) {n : Nat} (h : l.length = 2 * n - 1) (hp : pow2s.contains n = true) : ∀ (d i : Nat), d + i = l.length → ∃ b, Evr (fun k => tree_Check.l0 k l (l.length : Int) (i : Int)) b ∧ Evr (fun k => conclaveref04_Check.l0 k l (i : Int)) b := by
  have hn := pow2s_le hp
  intro d
  induction d with
  | zero => exact fun i hd => ⟨true, .succ (f := fun _ => some true) (fun k => by rw [tree_Check.l0, if_neg (by omega)]) (.const fun _ => rfl), .succ (f := fun _ => some true) (fun k => by rw [conclaveref04_Check.l0, if_neg (by omega)]) (.const fun _ => rfl)⟩
  | succ d ih =>
    intro i hd
    obtain ⟨b1, v1, v2⟩ := vertex_same hw h hp (x := i) (by omega)
    obtain ⟨b, t1, t2⟩ := ih (i + 1) (by omega)
    have e1 : ∀ k, tree_Check.l0 (k + 1) l (l.length : Int) (i : Int) = (tree_vertex.f k l (i : Int)).bind fun t => if t = true then tree_Check.l0 k l (l.length : Int) ((i + 1 : Nat) : Int) else some false := fun k => by
      rw [tree_Check.l0, if_pos (by omega), wrap_id (by omega), show (i : Int) + 1 = ((i + 1 : Nat) : Int) by omega]
    have e2 : ∀ k, conclaveref04_Check.l0 (k + 1) l (i : Int) = (conclaveref04_vertex.f k l (i : Int)).bind fun t => if t = true then conclaveref04_Check.l0 k l ((i + 1 : Nat) : Int) else some false := fun k => by
      rw [conclaveref04_Check.l0, if_pos (by omega), wrap_id (by omega), show (i : Int) + 1 = ((i + 1 : Nat) : Int) by omega]
    cases b1 with
    | false => exact ⟨false, .succ e1 (v1.bind (.const fun _ => rfl)), .succ e2 (v2.bind (.const fun _ => rfl))⟩
    | true => exact ⟨b, .succ e1 (v1.bind (by simpa using t1)), .succ e2 (v2.bind (by simpa using t2))⟩

theorem tight_same {l : List S29} {n : Nat} (h : l.length = 2 * n - 1) (hn : 1 ≤ n) (hn2 : n ≤ 1000) : ∀ (d i : Nat), d + i = n → ∃ b, Evr (fun k => tree_tight.l0 k l (n : Int) (i : Int)) b ∧ Evr (fun k => conclaveref04_Tight.l0 k l (n : Int) (i : Int)) b := by
  intro d
  induction d with
  | zero => exact fun i hd => ⟨false, .succ (f := fun _ => some false) (fun k => by rw [tree_tight.l0, if_neg (by omega)]) (.const fun _ => rfl), .succ (f := fun _ => some false) (fun k => by rw [conclaveref04_Tight.l0, if_neg (by omega)]) (.const fun _ => rfl)⟩
  | succ d ih =>
    intro i hd
    obtain ⟨b, t1, t2⟩ := ih (i + 1) (by omega)
    have ef : fullB l n (i : Int) = (rd_T29 l (2 * (i : Int))).f0 := by
      unfold fullB
      rw [decide_eq_true (by omega), decide_eq_true (by omega), Bool.true_and, Bool.true_and]
    have e1 : ∀ k, tree_tight.l0 (k + 1) l (n : Int) (i : Int) = if (rd_T29 l (2 * (i : Int))).f0 = true then some true else tree_tight.l0 k l (n : Int) ((i + 1 : Nat) : Int) := fun k => by
      rw [tree_tight.l0, if_pos (by omega), wrap_id (a := 2 * (i : Int)) (by omega), if_pos (by omega), if_pos (by omega), wrap_id (by omega), show (i : Int) + 1 = ((i + 1 : Nat) : Int) by omega]
    have e2 : ∀ k, conclaveref04_Tight.l0 (k + 1) l (n : Int) (i : Int) = if (rd_T29 l (2 * (i : Int))).f0 = true then some true else conclaveref04_Tight.l0 k l (n : Int) ((i + 1 : Nat) : Int) := fun k => by
      rw [conclaveref04_Tight.l0, if_pos (by omega), (full_same h hn hn2 _).1, Option.bind_some, ef, wrap_id (by omega), show (i : Int) + 1 = ((i + 1 : Nat) : Int) by omega]
    by_cases c : (rd_T29 l (2 * (i : Int))).f0 = true
    · exact ⟨true, .succ e1 (.const fun k => by rw [if_pos c]), .succ e2 (.const fun k => by rw [if_pos c])⟩
    · exact ⟨b, .succ e1 (by simpa only [if_neg c] using t1), .succ e2 (by simpa only [if_neg c] using t2)⟩

theorem check_same {l : List S29} (hw : WfV l) (hl : l.length ≤ 200) : ∃ b, Evr (fun k => tree_Check.f k l) b ∧ Evr (fun k => conclaveref04_Check.f k l) b := by
  unfold tree_Check.f conclaveref04_Check.f
  have jf : ∀ k, tree_Check.j0 (k + 1) l true = some false := fun k => by rw [tree_Check.j0, if_pos rfl]
  have jg : ∀ k, conclaveref04_Check.j0 (k + 1) l true = some false := fun k => by rw [conclaveref04_Check.j0, if_pos rfl]
  by_cases c : (l.length : Int) % 2 = 0
  · simp only [if_pos c]
    exact ⟨false, .succ jf (.const fun _ => rfl), .succ jg (.const fun _ => rfl)⟩
  · simp only [if_neg c]
    obtain ⟨n, hn⟩ : ∃ n, l.length = 2 * n - 1 ∧ 1 ≤ n ∧ n ≤ 200 := ⟨(l.length + 1) / 2, by omega, by omega, by omega⟩
    obtain ⟨h, h1, h2⟩ := hn
    simp only [(leaves_at h h1 (by omega)).1, (leaves_at h h1 (by omega)).2, Option.bind_some, (right_same n h2).1, (right_same n h2).2]
    by_cases cr : pow2s.contains n = true
    · simp only [if_pos cr]
      obtain ⟨b1, t1, t2⟩ := tight_same h h1 (by omega) (n - n / 2) (n / 2) (by omega)
      obtain ⟨b, c1, c2⟩ := check_l0_same hw h cr l.length 0 (by omega)
      have e1 : Evr (fun k => tree_tight.f k l) b1 := by
        unfold tree_tight.f
        simp only [(leaves_at h h1 (by omega)).2, Option.bind_some]
        rw [Int.tdiv_eq_ediv_of_nonneg (by omega), wrap_id (by omega), show (n : Int) / 2 = ((n / 2 : Nat) : Int) by omega]
        exact t1
      have e2 : Evr (fun k => conclaveref04_Tight.f k l) b1 := by
        unfold conclaveref04_Tight.f
        simp only [(leaves_at h h1 (by omega)).1, Option.bind_some]
        rw [Int.tdiv_eq_ediv_of_nonneg (by omega), wrap_id (by omega), show (n : Int) / 2 = ((n / 2 : Nat) : Int) by omega]
        exact t2
      cases b1 with
      | false => exact ⟨false, e1.bind (.succ jf (.const fun _ => rfl)), e2.bind (.succ jg (.const fun _ => rfl))⟩
      | true =>
        refine ⟨b, e1.bind (.succ (f := fun k => tree_Check.l0 k l (l.length : Int) 0) (fun k => ?_) c1), e2.bind (.succ (f := fun k => conclaveref04_Check.l0 k l 0) (fun k => ?_) c2)⟩
        · simp only [Bool.not_true, tree_Check.j0, Bool.false_eq_true, if_false]
        · simp only [Bool.not_true, conclaveref04_Check.j0, Bool.false_eq_true, if_false]
    · simp only [if_neg cr]
      exact ⟨false, .succ jf (.const fun _ => rfl), .succ jg (.const fun _ => rfl)⟩

theorem TreeChecks : conclavelaw04_TreeChecks.Pure := by
  intro l hw h5
  have hE : Evr (fun k => conclavelaw04_TreeChecks.f k l) true := by
    unfold conclavelaw04_TreeChecks.f conclavelaw04_anchor.f
    simp only [Option.bind_some, if_true]
    by_cases c : (l.length : Int) > 200
    · simp only [if_pos c]
      exact .const fun _ => rfl
    · simp only [if_neg c]
      obtain ⟨b, c1, c2⟩ := check_same hw (by omega)
      refine (copy_ev (by omega) (fun v hv => by have := h5 v hv; omega)).bind (c1.bind (c2.bind ?_))
      simp only [beq_self_eq_true, if_true]
      exact (same_refl (by omega) (fun v hv => by have := h5 v hv; omega)).bind (.const fun _ => rfl)
  obtain ⟨K, hK⟩ := hE
  exact ⟨K, hK K (Nat.le_refl _)⟩
end Go.Proofs.YtbblomnhobodkaaDoor.Pure
