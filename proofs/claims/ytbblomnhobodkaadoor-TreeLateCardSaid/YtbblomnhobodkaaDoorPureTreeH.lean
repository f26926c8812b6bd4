/- What this claim reaches of a longer text of this session. -/
import Derived.Test.YtbblomnhobodkaaDoorPTwx19
import Derived.Test.YtbblomnhobodkaaDoorPTwx7
import Derived.Test.YtbblomnhobodkaaDoorPureTreeG
set_option linter.unusedVariables false
set_option linter.unusedSimpArgs false
namespace Go.Proofs.YtbblomnhobodkaaDoor.Pure
open Go.RowKit Go.Proofs.YtbblomnhobodkaaDoor Go.Proofs.YtbblomnhobodkaaDoor.PTw Go.Proofs.YtbblomnhobodkaaDoorW.PrintWords
theorem first_free {bs : Nat → Bool} {n : Nat} (h : bs n = false) : ∃ w, w ≤ n ∧ (∀ j, j < w → bs j = true) ∧ bs w = false := by
  have h2 : ∀ q, (∀ j, j < q → bs j = true) ∨ ∃ w, w < q ∧ (∀ j, j < w → bs j = true) ∧ bs w = false := by
    intro q
    induction q with
    | zero => exact .inl fun j hj => by omega
    | succ q ih =>
      rcases ih with h1 | ⟨w, h1, h2⟩
      · cases hq : bs q with
        | false => exact .inr ⟨q, by omega, h1, hq⟩
        | true =>
          refine .inl fun j hj => ?_
          rcases Nat.lt_or_ge j q with h | h
          · exact h1 j h
          · rw [show j = q by omega]; exact hq
      · exact .inr ⟨w, by omega, h2⟩
  rcases h2 (n + 1) with h1 | ⟨w, h1, h2⟩
  · rw [h1 n (by omega)] at h; cases h
  · exact ⟨w, by omega, h2⟩
section
variable {l : List S29} {m : Nat}
theorem add_cases (hR : RT l m) : (∃ i m', ((i < 2 ^ m ∧ m' = m) ∨ (i = 2 ^ m ∧ m' = m + 1 ∧ m' ≤ 5)) ∧ i ≤ 2 ^ m ∧ i < 2 ^ m' ∧ m' ≤ 5 ∧ (∀ j, j < i → (VX l (2 * j)).f0 = true) ∧ (VX l (2 * i)).f0 = false ∧ (∀ leaf, aLeaf leaf → RT (addL l i m' leaf) m') ∧
      ∀ (f0 : Bool) (f1 f2 f3 f4 : Int) (l5 : List Int), Evr (fun k => tree_Add.f k l f0 f1 f2 f3 f4 l5) (addL l i m' ⟨true, f1, f2, f3, f4, []⟩, (i : Int), 0) ∧ Evr (fun k => conclaveref04_Add.f k l f0 f1 f2 f3 f4 l5) (addL l i m' ⟨true, f1, f2, f3, f4, []⟩, (i : Int), 0)) ∨
    (m = 5 ∧ (∀ j, j < 32 → (VX l (2 * j)).f0 = true) ∧ ∀ (f0 : Bool) (f1 f2 f3 f4 : Int) (l5 : List Int), Evr (fun k => tree_Add.f k l f0 f1 f2 f3 f4 l5) ([], 0, 41) ∧ Evr (fun k => conclaveref04_Add.f k l f0 f1 f2 f3 f4 l5) ([], 0, 41)) := by
  have hm := hR.hm
  have hp := pow_le32 hm
  obtain ⟨i, hi, hfull, hfree⟩ := first_free (bs := fun j => (VX l (2 * j)).f0) (n := 2 ^ m) (by show (VX l (2 * 2 ^ m)).f0 = false; rw [hR.rg.out _ (by omega)]; rfl)
  have go : ∀ m', ((i < 2 ^ m ∧ m' = m) ∨ (i = 2 ^ m ∧ m' = m + 1 ∧ m' ≤ 5)) → i < 2 ^ m' → m' ≤ 5 → (∃ i m', ((i < 2 ^ m ∧ m' = m) ∨ (i = 2 ^ m ∧ m' = m + 1 ∧ m' ≤ 5)) ∧ i ≤ 2 ^ m ∧ i < 2 ^ m' ∧ m' ≤ 5 ∧ (∀ j, j < i → (VX l (2 * j)).f0 = true) ∧ (VX l (2 * i)).f0 = false ∧ (∀ leaf, aLeaf leaf → RT (addL l i m' leaf) m') ∧
      ∀ (f0 : Bool) (f1 f2 f3 f4 : Int) (l5 : List Int), Evr (fun k => tree_Add.f k l f0 f1 f2 f3 f4 l5) (addL l i m' ⟨true, f1, f2, f3, f4, []⟩, (i : Int), 0) ∧ Evr (fun k => conclaveref04_Add.f k l f0 f1 f2 f3 f4 l5) (addL l i m' ⟨true, f1, f2, f3, f4, []⟩, (i : Int), 0)) := fun m' hc h1 h2 =>
    ⟨i, m', hc, hi, h1, h2, hfull, hfree, fun leaf hL => RT.of (hR.rg.add hL hfree hc), fun f0 f1 f2 f3 f4 l5 => ⟨add_ev hm hR.len hR.lateOk hi hfull (fun _ => hfree) hc f0 f1 f2 f3 f4 l5, radd_ev hR hi hfull hfree hc f0 f1 f2 f3 f4 l5⟩⟩
  by_cases c : i < 2 ^ m
  · exact .inl (go m (.inl ⟨c, rfl⟩) c hm)
  · have e : i = 2 ^ m := by omega
    by_cases c5 : m = 5
    · subst c5
      have h32 : i = 32 := e
      subst h32
      exact .inr ⟨rfl, hfull, fun f0 f1 f2 f3 f4 l5 => ⟨add_none hR.len hfull f0 f1 f2 f3 f4 l5, radd_none hR.len hR.l5 hfull f0 f1 f2 f3 f4 l5⟩⟩
    · exact .inl (go (m + 1) (.inr ⟨e, rfl, by omega⟩) (by rw [Nat.pow_succ]; omega) (by omega))
theorem upd_rt (hR : RT l m) {i : Nat} (hi : i < 2 ^ m) {leaf : S29} (hL : aLeaf leaf) : RT (updL l i m leaf) m := RT.of (hR.rg.lay hL OkF.none hi)
theorem other_one {L : List Nat} {i : Nat} (hn : L.Nodup) (hi : i ∈ L) (hc : L.length ≠ 1) : ∃ j ∈ L, j ≠ i := by
  rcases Classical.em (∃ j ∈ L, j ≠ i) with h | h
  · exact h
  · exfalso
    have e := List.eq_replicate_of_mem (a := i) (l := L) (fun b hb => Classical.byContradiction fun hne => h ⟨b, hb, hne⟩)
    rw [e] at hn
    have := List.nodup_replicate.1 hn
    have := List.length_pos_of_mem hi
    omega
theorem fullN_mem {j n : Nat} : j ∈ fullN l 0 n ↔ j < n ∧ (VX l (2 * j)).f0 = true := by
  unfold fullN
  rw [List.mem_filter, List.mem_range'_1]
  exact ⟨fun h => ⟨by omega, h.2⟩, fun h => ⟨by omega, h.2⟩⟩
theorem fullN_nodup {n : Nat} : (fullN l 0 n).Nodup := (List.nodup_range' (step := 1)).filter _
theorem cut_full (hR : RT l m) {i : Nat} (hi : i < 2 ^ m) (j : Nat) : (cutG l i m (2 * j)).f0 = if j = i then false else (VX l (2 * j)).f0 := by
  unfold cutG
  rw [if_neg (path_even hR.hm hi)]
  by_cases c : j = i
  · rw [if_pos c, if_pos (by omega)]; rfl
  · rw [if_neg c, if_neg (by omega)]
theorem rem_cases (hR : RT l m) {i : Nat} (hi : i < 2 ^ m) (hf : (VX l (2 * i)).f0 = true) (hc : (fullN l 0 (2 ^ m)).length ≠ 1) : ∃ m', Tops (cutG l i m) m m' ∧ RT (mkT (2 * 2 ^ m' - 1) (cutG l i m)) m' ∧ Evr (fun k => tree_Remove.f k l (i : Int)) (mkT (2 * 2 ^ m' - 1) (cutG l i m), 0) ∧ Evr (fun k => conclaveref04_Remove.f k l (i : Int)) (mkT (2 * 2 ^ m' - 1) (cutG l i m), 0) := by
  have hm := hR.hm
  obtain ⟨j, hj, hne⟩ := other_one fullN_nodup (fullN_mem.2 ⟨hi, hf⟩) hc
  obtain ⟨hj1, hj2⟩ := fullN_mem.1 hj
  obtain ⟨m', h1, h2, h3⟩ := tops_any (g := cutG l i m) ⟨j, by rw [cut_full hR hi, if_neg hne]; exact hj2⟩ m (fun q hq => by
    rw [cut_full hR hi] at hq
    by_cases c : q = i
    · rw [if_pos c] at hq; cases hq
    · rw [if_neg c] at hq
      rcases Nat.lt_or_ge q (2 ^ m) with h | h
      · exact h
      · rw [hR.rg.out _ (by omega)] at hq; cases hq)
  have ht : Tops (cutG l i m) m m' := ⟨h1, fun q hq1 hq2 => by
    cases hh : (cutG l i m (2 * q)).f0 with
    | false => rfl
    | true => have := h2 q hh; omega, h3⟩
  refine ⟨m', ht, ?_, remove_ev hm hR.len hR.lateOk hi hf hc ht, rremove_ev hm hR.len hR.lateOk hi hf hc ht⟩
  rw [rem_mk]
  exact RT.of (hR.rg.rem hi ht)
theorem rem_no (hR : RT l m) {i : Int} (hc : fullB l (2 ^ m) i = true → (fullN l 0 (2 ^ m)).length = 1) : Evr (fun k => tree_Remove.f k l i) ([], 40) ∧ Evr (fun k => conclaveref04_Remove.f k l i) ([], 40) := ⟨remove_one hR.hm hR.len hc, rremove_one hR.hm hR.len hc⟩
theorem okF_of {F : Nat → S29} {P : List Nat} (h : AllKey F) : OkF (fun x => if x ∈ P then F x else z29) := fun x => by
  by_cases c : x ∈ P
  · exact .inr ⟨_, _, (if_pos c).trans (h x).choose_spec.choose_spec⟩
  · exact .inl (if_neg c)
theorem mer_rt (hR : RT l m) {i : Nat} (hi : i < 2 ^ m) {leaf : S29} (hL : aLeaf leaf) {F : Nat → S29} (hF : OkF F) : RT (mkT (2 * 2 ^ m - 1) (merG (VX l) i m leaf F)) m := RT.of (hR.rg.lay hL hF hi)
theorem mer_both (hR : RT l m) (i : Int) (f0 : Bool) (f1 f2 f3 f4 : Int) (l5 ks : List Int) : ∃ r e, (e = 0 → RT r m) ∧ (e ≠ 0 → r = []) ∧ Evr (fun k => tree_Merge.f k l i f0 f1 f2 f3 f4 l5 ks ks) (r, e) ∧ Evr (fun k => conclaveref04_Merge.f k l i f0 f1 f2 f3 f4 l5 ks ks) (r, e) := by
  have hp := pow_le32 hR.hm
  cases hf : fullB l (2 ^ m) i with
  | false =>
    obtain ⟨h1, h2⟩ := merge_none hR hf f0 f1 f2 f3 f4 l5 ks ks
    exact ⟨[], 40, (fun h => by cases h), fun _ => rfl, h1, h2⟩
  | true =>
    have hb := fullB_lt hf
    obtain ⟨n, rfl⟩ : ∃ n : Nat, i = (n : Int) := ⟨i.toNat, by omega⟩
    have hn : n < 2 ^ m := by omega
    rw [full_at hR.hm hR.len hn] at hf
    by_cases hk : ks.length = (fP l n m).length
    · obtain ⟨F, hF, h1, h2⟩ := merge_ev hR hn hf f0 f1 f2 f3 f4 l5 ks ks hk hk
      exact ⟨_, 0, fun _ => mer_rt hR hn ⟨rfl, rfl⟩ (okF_of hF), fun h => absurd rfl h, h1, h2⟩
    · obtain ⟨h1, h2⟩ := merge_bad hR hn hf f0 f1 f2 f3 f4 l5 ks ks (fun hh => hk hh.1)
      exact ⟨[], 30, (fun h => by cases h), fun _ => rfl, h1, h2⟩
theorem upd_both (hR : RT l m) (i : Int) (f0 : Bool) (f1 f2 f3 f4 : Int) (l5 : List Int) : ∃ r e, (e = 0 → RT r m) ∧ (e ≠ 0 → r = []) ∧ Evr (fun k => tree_Update.f k l i f0 f1 f2 f3 f4 l5) (r, e) ∧ Evr (fun k => conclaveref04_Update.f k l i f0 f1 f2 f3 f4 l5) (r, e) := by
  have hp := pow_le32 hR.hm
  cases hf : fullB l (2 ^ m) i with
  | false =>
    obtain ⟨h1, h2⟩ := update_none hR.hm hR.len hf f0 f1 f2 f3 f4 l5
    exact ⟨[], 40, (fun h => by cases h), fun _ => rfl, h1, h2⟩
  | true =>
    have hb := fullB_lt hf
    obtain ⟨n, rfl⟩ : ∃ n : Nat, i = (n : Int) := ⟨i.toNat, by omega⟩
    have hn : n < 2 ^ m := by omega
    rw [full_at hR.hm hR.len hn] at hf
    exact ⟨_, 0, fun _ => upd_rt hR hn ⟨rfl, rfl⟩, fun h => absurd rfl h, tupdate_ev hR.hm hR.len hR.lateOk hn hf f0 f1 f2 f3 f4 l5, rupdate_ev hR.hm hR.len hR.lateOk hn hf f0 f1 f2 f3 f4 l5⟩
theorem rem_both (hR : RT l m) (i : Int) : ∃ r e m', (e = 0 → RT r m') ∧ (e ≠ 0 → r = []) ∧ Evr (fun k => tree_Remove.f k l i) (r, e) ∧ Evr (fun k => conclaveref04_Remove.f k l i) (r, e) := by
  have hp := pow_le32 hR.hm
  by_cases hc : fullB l (2 ^ m) i = true → (fullN l 0 (2 ^ m)).length = 1
  · obtain ⟨h1, h2⟩ := rem_no hR hc
    exact ⟨[], 40, 0, (fun h => by cases h), fun _ => rfl, h1, h2⟩
  · have hf : fullB l (2 ^ m) i = true := Classical.byContradiction fun h => hc fun h' => absurd h' h
    have hc1 : (fullN l 0 (2 ^ m)).length ≠ 1 := fun h => hc fun _ => h
    have hb := fullB_lt hf
    obtain ⟨n, rfl⟩ : ∃ n : Nat, i = (n : Int) := ⟨i.toNat, by omega⟩
    have hn : n < 2 ^ m := by omega
    rw [full_at hR.hm hR.len hn] at hf
    obtain ⟨m', ht, h1, h2, h3⟩ := rem_cases hR hn hf hc1
    exact ⟨_, 0, m', fun _ => h1, fun h => absurd rfl h, h2, h3⟩
theorem add_both (hR : RT l m) (f0 : Bool) (f1 f2 f3 f4 : Int) (l5 : List Int) : ∃ r i e m', (e = 0 → RT r m') ∧ (e ≠ 0 → r = []) ∧ Evr (fun k => tree_Add.f k l f0 f1 f2 f3 f4 l5) (r, i, e) ∧ Evr (fun k => conclaveref04_Add.f k l f0 f1 f2 f3 f4 l5) (r, i, e) := by
  rcases add_cases hR with ⟨i, m', _, _, _, _, _, _, hrt, h⟩ | ⟨_, _, h⟩
  · obtain ⟨h1, h2⟩ := h f0 f1 f2 f3 f4 l5
    exact ⟨_, _, 0, m', fun _ => hrt _ ⟨rfl, rfl⟩, fun h => absurd rfl h, h1, h2⟩
  · obtain ⟨h1, h2⟩ := h f0 f1 f2 f3 f4 l5
    exact ⟨[], 0, 41, 0, (fun h => by cases h), fun _ => rfl, h1, h2⟩
end
theorem one_rt (f1 f2 f3 f4 : Int) : RT [(⟨true, f1, f2, f3, f4, []⟩ : S29)] 0 := by
  have h0 : ∀ x, x ≠ 0 → VX [(⟨true, f1, f2, f3, f4, []⟩ : S29)] x = z29 := fun x hx => VX_out (by simp; omega)
  refine ⟨rfl, ⟨by decide, fun x hx => h0 x (by simp at hx; omega), fun x hx => ?_, fun x hx => ?_, fun x hx => ?_, fun x => ?_, fun x y hy => ?_, ⟨0, by simp, by simp, rfl⟩⟩⟩
  · by_cases c : x = 0
    · subst c; cases hx
    · exact h0 x c
  · by_cases c : x = 0
    · subst c; rfl
    · rw [h0 x c]; rfl
  · rw [h0 x (by omega)]; exact ⟨rfl, rfl⟩
  · by_cases c : x = 0
    · subst c; exact List.Pairwise.nil
    · rw [h0 x c]; exact List.Pairwise.nil
  · by_cases c : x = 0
    · subst c; cases hy
    · rw [h0 x c] at hy; cases hy
theorem RT.pos {l : List S29} {m : Nat} (h : RT l m) : 0 < l.length := by
  have := pow_le32 h.hm
  rw [h.len]; omega
theorem grown_l0 (ops : List S32) (n : Int) (hn : n = (ops.length : Int)) : ∀ (d j : Nat) (l : List S29) (m : Nat), d + j = ops.length → RT l m → ∃ l' m', RT l' m' ∧ Evr (fun k => conclavelaw04_grown.l0 k l ops n (j : Int)) l' := by
  subst hn
  intro d
  induction d with
  | zero => exact fun j l m hd hR => ⟨l, m, hR, .succ (f := fun _ => some l) (fun k => by rw [conclavelaw04_grown.l0, if_neg (by omega)]) (.const fun _ => rfl)⟩
  | succ d ih =>
    intro j l m hd hR
    by_cases c3 : (j : Int) ≥ 300
    · exact ⟨l, m, hR, .succ (f := fun _ => some l) (fun k => by rw [conclavelaw04_grown.l0, if_pos (by omega), if_pos (by omega), if_pos (by omega), if_pos c3]) (.const fun _ => rfl)⟩
    · obtain ⟨q, hq⟩ : ∃ q, q = rd_T32 ops (j : Int) := ⟨_, rfl⟩
      have hj3 : (j : Int) < 300 := by omega
      have ej : wrap64 ((j : Int) + 1) = ((j + 1 : Nat) : Int) := by rw [wrap_id (by omega)]; omega
      have stay : ∀ (r : List S29) (m' : Nat), (r = [] ∨ RT r m') → ∃ l' m', RT l' m' ∧ Evr (fun k => if (r.length : Int) > 0 then conclavelaw04_grown.l0 k r ops (ops.length : Int) ((j + 1 : Nat) : Int) else conclavelaw04_grown.l0 k l ops (ops.length : Int) ((j + 1 : Nat) : Int)) l' := fun r m' h => by
        rcases h with rfl | h
        · obtain ⟨l', m'', h1, h2⟩ := ih (j + 1) l m (by omega) hR
          exact ⟨l', m'', h1, .congr (fun k => by rw [if_neg (by simp)]) h2⟩
        · obtain ⟨l', m'', h1, h2⟩ := ih (j + 1) r m' (by omega) h
          have := h.pos
          exact ⟨l', m'', h1, .congr (fun k => by rw [if_pos (by omega)]) h2⟩
      have op : ∀ k, conclavelaw04_grown.l0 (k + 1) l ops (ops.length : Int) (j : Int) = (if q.f0 = 1 then ((conclaveref04_Add.f k l q.f2.f0 q.f2.f1 q.f2.f2 q.f2.f3 q.f2.f4 q.f2.f5).bind fun t => if (t.1.length : Int) > 0 then conclavelaw04_grown.l0 k t.1 ops (ops.length : Int) ((j + 1 : Nat) : Int) else conclavelaw04_grown.l0 k l ops (ops.length : Int) ((j + 1 : Nat) : Int)) else if q.f0 = 2 then ((conclaveref04_Update.f k l q.f1 q.f2.f0 q.f2.f1 q.f2.f2 q.f2.f3 q.f2.f4 q.f2.f5).bind fun t => if (t.1.length : Int) > 0 then conclavelaw04_grown.l0 k t.1 ops (ops.length : Int) ((j + 1 : Nat) : Int) else conclavelaw04_grown.l0 k l ops (ops.length : Int) ((j + 1 : Nat) : Int)) else if q.f0 = 3 then ((conclaveref04_Remove.f k l q.f1).bind fun t => if (t.1.length : Int) > 0 then conclavelaw04_grown.l0 k t.1 ops (ops.length : Int) ((j + 1 : Nat) : Int) else conclavelaw04_grown.l0 k l ops (ops.length : Int) ((j + 1 : Nat) : Int)) else if q.f0 = 4 then ((conclavelaw04_keys.f k l q.f0 q.f1 q.f2.f0 q.f2.f1 q.f2.f2 q.f2.f3 q.f2.f4 q.f2.f5 0).bind fun ks => (conclaveref04_Merge.f k l q.f1 q.f2.f0 q.f2.f1 q.f2.f2 q.f2.f3 q.f2.f4 q.f2.f5 ks ks).bind fun t => if (t.1.length : Int) > 0 then conclavelaw04_grown.l0 k t.1 ops (ops.length : Int) ((j + 1 : Nat) : Int) else conclavelaw04_grown.l0 k l ops (ops.length : Int) ((j + 1 : Nat) : Int)) else if (([] : List S29).length : Int) > 0 then conclavelaw04_grown.l0 k [] ops (ops.length : Int) ((j + 1 : Nat) : Int) else conclavelaw04_grown.l0 k l ops (ops.length : Int) ((j + 1 : Nat) : Int)) := fun k => by
        rw [conclavelaw04_grown.l0, if_pos (by omega), if_pos (by omega), if_pos (by omega), if_neg c3, ← hq, ej]
      clear hq
      by_cases q1 : q.f0 = 1
      · obtain ⟨r, i, e, m', h1, h2, _, h4⟩ := add_both hR q.f2.f0 q.f2.f1 q.f2.f2 q.f2.f3 q.f2.f4 q.f2.f5
        obtain ⟨l', m'', s1, s2⟩ := stay r m' (by by_cases c : e = 0; exact .inr (h1 c); exact .inl (h2 c))
        exact ⟨l', m'', s1, .succ op (.congr (fun k => by rw [if_pos q1]) (h4.bind s2))⟩
      · by_cases q2 : q.f0 = 2
        · obtain ⟨r, e, h1, h2, _, h4⟩ := upd_both hR q.f1 q.f2.f0 q.f2.f1 q.f2.f2 q.f2.f3 q.f2.f4 q.f2.f5
          obtain ⟨l', m'', s1, s2⟩ := stay r m (by by_cases c : e = 0; exact .inr (h1 c); exact .inl (h2 c))
          exact ⟨l', m'', s1, .succ op (.congr (fun k => by rw [if_neg q1, if_pos q2]) (h4.bind s2))⟩
        · by_cases q3 : q.f0 = 3
          · obtain ⟨r, e, m', h1, h2, _, h4⟩ := rem_both hR q.f1
            obtain ⟨l', m'', s1, s2⟩ := stay r m' (by by_cases c : e = 0; exact .inr (h1 c); exact .inl (h2 c))
            exact ⟨l', m'', s1, .succ op (.congr (fun k => by rw [if_neg q1, if_neg q2, if_pos q3]) (h4.bind s2))⟩
          · by_cases q4 : q.f0 = 4
            · have hk := keys_ev hR q.f0 q.f1 q.f2.f0 q.f2.f1 q.f2.f2 q.f2.f3 q.f2.f4 q.f2.f5 0
              obtain ⟨r, e, h1, h2, _, h4⟩ := mer_both hR q.f1 q.f2.f0 q.f2.f1 q.f2.f2 q.f2.f3 q.f2.f4 q.f2.f5 _
              obtain ⟨l', m'', s1, s2⟩ := stay r m (by by_cases c : e = 0; exact .inr (h1 c); exact .inl (h2 c))
              exact ⟨l', m'', s1, .succ op (.congr (fun k => by rw [if_neg q1, if_neg q2, if_neg q3, if_pos q4]) (hk.bind (h4.bind s2)))⟩
            · obtain ⟨l', m'', s1, s2⟩ := stay [] m (.inl rfl)
              exact ⟨l', m'', s1, .succ op (.congr (fun k => by rw [if_neg q1, if_neg q2, if_neg q3, if_neg q4]) s2)⟩
theorem grown_ev (f0 : Bool) (f1 f2 f3 f4 : Int) (l5 : List Int) (ops : List S32) : ∃ l m, RT l m ∧ Evr (fun k => conclavelaw04_grown.f k f0 f1 f2 f3 f4 l5 ops) l := by
  obtain ⟨l', m', h1, h2⟩ := grown_l0 ops _ rfl ops.length 0 _ 0 (by omega) (one_rt f1 f2 f3 f4)
  exact ⟨l', m', h1, h2⟩
end Go.Proofs.YtbblomnhobodkaaDoor.Pure
