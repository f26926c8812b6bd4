/- What this claim reaches of a longer text of this session. -/
import Derived.Test.YtbblomnhobodkaaDoorPureTreeE
import Derived.Test.YtbblomnhobodkaaDoorPureTreeR
import Derived.Test.YtbblomnhobodkaaDoorPureTreeChk
set_option linter.unusedVariables false
set_option linter.unusedSimpArgs false
namespace Go.Proofs.YtbblomnhobodkaaDoor.Pure
open Go.RowKit Go.Proofs.YtbblomnhobodkaaDoor Go.Proofs.YtbblomnhobodkaaDoor.PTw Go.Proofs.YtbblomnhobodkaaDoorW.PrintWords
theorem rd_nth {l : List Int} {j : Nat} (h : j < l.length) : rd l (j : Int) = l[j] := by simp [rd, List.getD_eq_getElem?_getD, List.getElem?_eq_getElem h]
theorem with_done (l : List Int) (i : Int) (hl : l.length ≤ 1000) : ∀ (d j : Nat) (acc : List Int), d + j = l.length → acc.length ≤ j + 1 → Evr (fun k => conclaveref04_with.l0 k l i acc true (j : Int)) (acc ++ l.drop j) := by
  intro d
  induction d with
  | zero =>
    intro j acc hd _
    refine .succ (f := fun _ => some acc) (fun k => by rw [conclaveref04_with.l0, if_neg (by omega), if_pos rfl]) (.const fun _ => ?_)
    rw [List.drop_eq_nil_of_le (by omega), List.append_nil]
  | succ d ih =>
    intro j acc hd ha
    have hj : j < l.length := by omega
    rw [List.drop_eq_getElem_cons hj, show acc ++ l[j] :: l.drop (j + 1) = acc ++ [l[j]] ++ l.drop (j + 1) by simp]
    refine .succ (fun k => ?_) (ih (j + 1) (acc ++ [l[j]]) (by omega) (by simp; omega))
    rw [conclaveref04_with.l0, if_pos (by omega), if_pos rfl, if_pos (by omega), if_pos (by omega), rd_nth hj, wrap_id (by omega), show (j : Int) + 1 = ((j + 1 : Nat) : Int) by omega]
theorem with_open (l : List Int) (i : Int) (hl : l.length ≤ 1000) (hp : l.Pairwise (· < ·)) (hi : i ∉ l) : ∀ (d j : Nat) (acc : List Int), d + j = l.length → acc.length ≤ j → Evr (fun k => conclaveref04_with.l0 k l i acc false (j : Int)) (acc ++ insN (l.drop j) i) := by
  intro d
  induction d with
  | zero =>
    intro j acc hd ha
    refine .succ (f := fun _ => some (acc ++ [i])) (fun k => by rw [conclaveref04_with.l0, if_neg (by omega), if_neg (by decide), if_pos (by omega)]) (.const fun _ => ?_)
    rw [List.drop_eq_nil_of_le (by omega)]
    rfl
  | succ d ih =>
    intro j acc hd ha
    have hj : j < l.length := by omega
    have hne : l[j] ≠ i := fun e => hi (by rw [← e]; exact List.getElem_mem hj)
    have hp2 : (l.drop j).Pairwise (· < ·) := hp.sublist (List.drop_sublist _ _)
    rw [List.drop_eq_getElem_cons hj] at hp2 ⊢
    by_cases c : l[j] > i
    · rw [insN_ge hp2 (by omega), show acc ++ i :: l[j] :: l.drop (j + 1) = acc ++ [i] ++ [l[j]] ++ l.drop (j + 1) by simp]
      refine .succ (fun k => ?_) (with_done l i hl d (j + 1) (acc ++ [i] ++ [l[j]]) (by omega) (by simp; omega))
      rw [conclaveref04_with.l0, if_pos (by omega), if_neg (by decide), if_pos (by omega), rd_nth hj, if_pos c, if_pos (by omega), Option.bind_some, if_pos (by simp; omega), wrap_id (by omega), show (j : Int) + 1 = ((j + 1 : Nat) : Int) by omega]
    · rw [insN_lt (by omega), show acc ++ l[j] :: insN (l.drop (j + 1)) i = acc ++ [l[j]] ++ insN (l.drop (j + 1)) i by simp]
      refine .succ (fun k => ?_) (ih (j + 1) (acc ++ [l[j]]) (by omega) (by simp; omega))
      rw [conclaveref04_with.l0, if_pos (by omega), if_neg (by decide), if_pos (by omega), rd_nth hj, if_neg c, if_pos (by omega), wrap_id (by omega), show (j : Int) + 1 = ((j + 1 : Nat) : Int) by omega]
theorem with_ev {l : List Int} {i : Int} (hl : l.length ≤ 1000) (hp : l.Pairwise (· < ·)) (hi : i ∉ l) : Evr (fun k => conclaveref04_with.f k l i) (insN l i) := by
  have := with_open l i hl hp hi l.length 0 [] (by omega) (by simp)
  rw [List.drop_zero, List.nil_append] at this
  exact this
theorem radd_l2 {m i : Nat} (hm : m ≤ 5) (hi : i < 2 ^ m) : ∀ (d j : Nat) (g : Nat → S29), 2 * d + j = 2 * 2 ^ m - 1 → j % 2 = 1 → (∀ x, j ≤ x → (g x).f5.Pairwise (· < ·) ∧ (g x).f5.length ≤ 1000 ∧ ((g x).f0 = true → (i : Int) ∉ (g x).f5)) →
    Evr (fun k => conclaveref04_Add.l2 k (mkT (2 * 2 ^ m - 1) g) (i : Int) ((2 ^ m : Nat) : Int) (j : Int)) (mkT (2 * 2 ^ m - 1) (fun x => if j ≤ x ∧ x ∈ pathN i m ∧ (g x).f0 = true then lateIn (g x) i else g x), (i : Int), 0) := by
  have hp := pow_le32 hm
  intro d
  induction d with
  | zero =>
    intro j g hd _ _
    refine .succ (f := fun _ => some (mkT (2 * 2 ^ m - 1) g, (i : Int), 0)) (fun k => by rw [conclaveref04_Add.l2, mkT_len, if_neg (by omega)]) (.const fun _ => ?_)
    congr 2
    refine mkT_congr fun x hx => ?_
    rw [if_neg (fun hh => by omega)]
  | succ d ih =>
    intro j g hd ho hg
    have hjN : j < 2 * 2 ^ m - 1 := by omega
    have hstep : ∀ (g' : Nat → S29), (∀ x, x ≠ j → g' x = g x) → (g' j = if j ∈ pathN i m ∧ (g j).f0 = true then lateIn (g j) i else g j) → mkT (2 * 2 ^ m - 1) (fun x => if j + 2 ≤ x ∧ x ∈ pathN i m ∧ (g' x).f0 = true then lateIn (g' x) i else g' x) = mkT (2 * 2 ^ m - 1) (fun x => if j ≤ x ∧ x ∈ pathN i m ∧ (g x).f0 = true then lateIn (g x) i else g x) := fun g' h1 h2 => mkT_congr fun x _ => by
      by_cases c : x = j
      · subst c
        rw [if_neg (fun hh => by omega), h2]
        by_cases c2 : x ∈ pathN i m ∧ (g x).f0 = true
        · rw [if_pos c2, if_pos ⟨Nat.le_refl _, c2⟩]
        · rw [if_neg c2, if_neg (fun hh => c2 hh.2)]
      · rw [h1 x c]
        by_cases c2 : j ≤ x ∧ x ∈ pathN i m ∧ (g x).f0 = true
        · have := path_odd hm hi c2.2.1
          rw [if_pos c2, if_pos ⟨by omega, c2.2⟩]
        · rw [if_neg c2, if_neg (fun hh => c2 ⟨by omega, hh.2⟩)]
    have erd : rd_T29 (mkT (2 * 2 ^ m - 1) g) (j : Int) = g j := mkT_get hjN
    by_cases c0 : (g j).f0 = true
    · have hu := und_at hm hi (x := j) hjN
      have hne : j ≠ 2 * i := by omega
      rw [decide_eq_false hne, Bool.or_false] at hu
      by_cases c1 : j ∈ pathN i m
      · rw [decide_eq_true c1] at hu
        have hw := with_ev (l := (g j).f5) (i := (i : Int)) (hg j (Nat.le_refl _)).2.1 (hg j (Nat.le_refl _)).1 ((hg j (Nat.le_refl _)).2.2 c0)
        rw [← hstep (fun x => if x = j then lateIn (g j) i else g x) (fun x hx => by rw [if_neg hx]) (by rw [if_pos rfl, if_pos ⟨c1, c0⟩])]
        have hi2 := ih (j + 2) (fun x => if x = j then lateIn (g j) i else g x) (by omega) (by omega) (fun x hx => by
          simp only [if_neg (show ¬ x = j by omega)]
          exact hg x (by omega))
        refine .succ (f := fun k => (conclaveref03_Under.f k (2 * (i : Int)) (j : Int) ((2 ^ m : Nat) : Int)).bind fun t => if t = true then ((conclaveref04_with.f k (g j).f5 (i : Int)).bind fun t2 => conclaveref04_Add.l2 k ((mkT (2 * 2 ^ m - 1) g).set j (⟨(g j).f0, (g j).f1, (g j).f2, (g j).f3, (g j).f4, t2⟩ : S29)) (i : Int) ((2 ^ m : Nat) : Int) ((j + 2 : Nat) : Int)) else conclaveref04_Add.l2 k (mkT (2 * 2 ^ m - 1) g) (i : Int) ((2 ^ m : Nat) : Int) ((j + 2 : Nat) : Int)) (fun k => ?_) (hu.bind ?_)
        · rw [conclaveref04_Add.l2, mkT_len, if_pos (by omega), if_pos (by omega), erd, if_pos c0, wrap_id (a := 2 * (i : Int)) (by omega), wrap_id (a := (j : Int) + 2) (by omega), show (j : Int) + 2 = ((j + 2 : Nat) : Int) by omega, Int.toNat_natCast]
        · simp only [if_true]
          refine hw.bind ?_
          rw [mkT_set]
          exact hi2
      · rw [decide_eq_false c1] at hu
        rw [← hstep g (fun _ _ => rfl) (by rw [if_neg (fun hh => c1 hh.1)])]
        have hi2 := ih (j + 2) g (by omega) (by omega) (fun x hx => hg x (by omega))
        refine .succ (f := fun k => (conclaveref03_Under.f k (2 * (i : Int)) (j : Int) ((2 ^ m : Nat) : Int)).bind fun t => if t = true then ((conclaveref04_with.f k (g j).f5 (i : Int)).bind fun t2 => conclaveref04_Add.l2 k ((mkT (2 * 2 ^ m - 1) g).set j (⟨(g j).f0, (g j).f1, (g j).f2, (g j).f3, (g j).f4, t2⟩ : S29)) (i : Int) ((2 ^ m : Nat) : Int) ((j + 2 : Nat) : Int)) else conclaveref04_Add.l2 k (mkT (2 * 2 ^ m - 1) g) (i : Int) ((2 ^ m : Nat) : Int) ((j + 2 : Nat) : Int)) (fun k => ?_) (hu.bind ?_)
        · rw [conclaveref04_Add.l2, mkT_len, if_pos (by omega), if_pos (by omega), erd, if_pos c0, wrap_id (a := 2 * (i : Int)) (by omega), wrap_id (a := (j : Int) + 2) (by omega), show (j : Int) + 2 = ((j + 2 : Nat) : Int) by omega, Int.toNat_natCast]
        · simpa using hi2
    · rw [← hstep g (fun _ _ => rfl) (by rw [if_neg (fun hh => c0 hh.2)])]
      refine .succ (fun k => ?_) (ih (j + 2) g (by omega) (by omega) (fun x hx => hg x (by omega)))
      rw [conclaveref04_Add.l2, mkT_len, if_pos (by omega), if_pos (by omega), erd, if_neg c0, wrap_id (a := (j : Int) + 2) (by omega), show (j : Int) + 2 = ((j + 2 : Nat) : Int) by omega]
theorem radd_l1 {l : List S29} {n : Nat} (hn : 1 ≤ n) (hn2 : n ≤ 32) (f0 : Bool) (f1 f2 f3 f4 : Int) (l5 : List Int) {r : List S29 × Int × Int} (hr : Evr (fun k => conclaveref04_Add.j2 k (mkT (4 * n - 1) (VX l)) (n : Int) f0 f1 f2 f3 f4 l5) r) : ∀ (d N : Nat), d + N = 4 * n - 1 → l.length ≤ N → Evr (fun k => conclaveref04_Add.l1 k (mkT N (VX l)) (n : Int) f0 f1 f2 f3 f4 l5) r := by
  intro d
  induction d with
  | zero =>
    intro N hd hN
    have : N = 4 * n - 1 := by omega
    subst this
    refine .succ (fun k => ?_) hr
    rw [conclaveref04_Add.l1, mkT_len, wrap_id (a := 4 * (n : Int)) (by omega), wrap_id (by omega), if_neg (by omega)]
  | succ d ih =>
    intro N hd hN
    refine .succ (fun k => ?_) (ih (N + 1) (by omega) (by omega))
    have e : mkT N (VX l) ++ [z29] = mkT (N + 1) (VX l) := mkT_app (M := 1) (fun x hx => VX_out (by omega))
    rw [conclaveref04_Add.l1, mkT_len, wrap_id (a := 4 * (n : Int)) (by omega), wrap_id (by omega), if_pos (by omega), if_pos (by omega), ← e]
    rfl
theorem radd_j2 {m i : Nat} (hm : m ≤ 5) (hi : i < 2 ^ m) (g : Nat → S29) (hg : ∀ x, (g x).f5.Pairwise (· < ·) ∧ (g x).f5.length ≤ 1000 ∧ (i : Int) ∉ (g x).f5) (f0 : Bool) (f1 f2 f3 f4 : Int) (l5 : List Int) :
    Evr (fun k => conclaveref04_Add.j2 k (mkT (2 * 2 ^ m - 1) g) (i : Int) f0 f1 f2 f3 f4 l5) (mkT (2 * 2 ^ m - 1) (addG g i m ⟨true, f1, f2, f3, f4, []⟩), (i : Int), 0) := by
  have hp := pow_le32 hm
  have hlo : conclaveref04_Leaf.f f0 f1 f2 f3 f4 l5 = some (true, f1, f2, f3, f4, []) := rfl
  obtain ⟨g', hg'⟩ : ∃ g' : Nat → S29, g' = fun x => if x = 2 * i then (⟨true, f1, f2, f3, f4, []⟩ : S29) else g x := ⟨_, rfl⟩
  have h := radd_l2 hm hi (2 ^ m - 1) 1 g' (by omega) (by decide) (fun x _ => by
    rw [hg']
    by_cases c : x = 2 * i
    · simp only [if_pos c]
      exact ⟨List.Pairwise.nil, by simp, fun _ => by simp⟩
    · simp only [if_neg c]
      exact ⟨(hg x).1, (hg x).2.1, fun _ => (hg x).2.2⟩)
  have e : mkT (2 * 2 ^ m - 1) (fun x => if 1 ≤ x ∧ x ∈ pathN i m ∧ (g' x).f0 = true then lateIn (g' x) i else g' x) = mkT (2 * 2 ^ m - 1) (addG g i m ⟨true, f1, f2, f3, f4, []⟩) := mkT_congr fun x _ => by
    unfold addG
    rw [hg']
    by_cases c : x = 2 * i
    · have hn : x ∉ pathN i m := fun hh => by have := path_odd hm hi hh; omega
      rw [if_neg (fun hh => hn hh.2.1), if_neg (fun hh => hn hh.1), if_pos c]
      exact if_pos c
    · simp only [if_neg c]
      by_cases c2 : x ∈ pathN i m ∧ (g x).f0 = true
      · have := path_odd hm hi c2.1
        rw [if_pos ⟨by omega, c2⟩, if_pos c2]
      · rw [if_neg (fun hh => c2 hh.2), if_neg c2]
  rw [e] at h
  refine .succ (fun k => ?_) h
  rw [conclaveref04_Add.j2, hlo, Option.bind_some, wrap_id (by omega), if_pos (by omega), mkT_len, if_pos (by omega), Option.bind_some, show (2 * (i : Int)).toNat = 2 * i by omega, mkT_set, ← hg', (leaves_at (l := mkT (2 * 2 ^ m - 1) g') (n := 2 ^ m) (mkT_len _ _) hp.1 (by omega)).1, Option.bind_some]
  rfl
theorem radd_l0 {l : List S29} {n : Nat} (h : l.length = 2 * n - 1) (hn : 1 ≤ n) (hn2 : n ≤ 32) (f0 : Bool) (f1 f2 f3 f4 : Int) (l5 : List Int) {i : Nat} (hi : i ≤ n) (hfull : ∀ j, j < i → (VX l (2 * j)).f0 = true) {r : List S29 × Int × Int} (hr : Evr (fun k => conclaveref04_Add.l0 k l (i : Int) f0 f1 f2 f3 f4 l5) r) : ∀ (d j : Nat), d + j = i → Evr (fun k => conclaveref04_Add.l0 k l (j : Int) f0 f1 f2 f3 f4 l5) r := by
  intro d
  induction d with
  | zero =>
    intro j hd
    have : j = i := by omega
    subst this
    exact hr
  | succ d ih =>
    intro j hd
    refine .succ (fun k => ?_) (ih (j + 1) (by omega))
    have e : fullB l n (j : Int) = true := by
      unfold fullB
      rw [decide_eq_true (by omega), decide_eq_true (by omega)]
      exact hfull j (by omega)
    rw [conclaveref04_Add.l0, (full_same h hn (by omega) _).1, e, Option.bind_some, if_pos rfl, wrap_id (by omega), show (j : Int) + 1 = ((j + 1 : Nat) : Int) by omega]
theorem radd_ev {l : List S29} {m m' i : Nat} (hR : RT l m) (hi : i ≤ 2 ^ m) (hfull : ∀ j, j < i → (VX l (2 * j)).f0 = true) (hfree : (VX l (2 * i)).f0 = false) (hm' : (i < 2 ^ m ∧ m' = m) ∨ (i = 2 ^ m ∧ m' = m + 1 ∧ m' ≤ 5)) (f0 : Bool) (f1 f2 f3 f4 : Int) (l5 : List Int) :
    Evr (fun k => conclaveref04_Add.f k l f0 f1 f2 f3 f4 l5) (addL l i m' ⟨true, f1, f2, f3, f4, []⟩, (i : Int), 0) := by
  have hm := hR.hm
  have h := hR.len
  have hp := pow_le32 hm
  have h5 : ∀ v ∈ l, v.f5.length < 17592186044416 := fun v hv => by have := hR.l5 v hv; omega
  have hgs : ∀ x, (VX l x).f5.Pairwise (· < ·) ∧ (VX l x).f5.length ≤ 1000 ∧ (i : Int) ∉ (VX l x).f5 := fun x => ⟨hR.rg.up x, by have := (hR.rg.lates x).2; omega, fun hx => by
    obtain ⟨j, h1, h2, h3, _⟩ := hR.rg.late x _ hx
    rw [show 2 * i = 2 * j by omega, h3] at hfree
    cases hfree⟩
  refine (copy_ev (by omega) h5).bind ?_
  refine radd_l0 h hp.1 hp.2 f0 f1 f2 f3 f4 l5 hi hfull ?_ i 0 (by omega)
  have enf : fullB l (2 ^ m) (i : Int) = false := by
    unfold fullB
    by_cases c : i < 2 ^ m
    · have e : (rd_T29 l (2 * (i : Int))).f0 = false := hfree
      rw [e, Bool.and_false]
    · rw [decide_eq_false (show ¬ (i : Int) < ((2 ^ m : Nat) : Int) by omega), Bool.and_false, Bool.false_and]
  rcases hm' with ⟨hlt, rfl⟩ | ⟨he, rfl, hm5⟩
  · refine .succ (f := fun k => conclaveref04_Add.j2 k l (i : Int) f0 f1 f2 f3 f4 l5) (fun k => ?_) ?_
    · rw [conclaveref04_Add.l0, (full_same h hp.1 (by omega) _).1, enf, Option.bind_some, if_neg (by decide), (leaves_at h hp.1 (by omega)).1, Option.bind_some, if_neg (by omega)]
    · have := radd_j2 hm hlt (VX l) hgs f0 f1 f2 f3 f4 l5
      rw [← h, ← mkT_self l] at this
      rw [h] at this
      exact this
  · have hp2 : 2 ^ (m + 1) = 2 * 2 ^ m := by rw [Nat.pow_succ]; omega
    have h16 : 2 ^ m ≤ 16 := Nat.le_trans (Nat.pow_le_pow_right (by decide) (show m ≤ 4 by omega)) (by decide)
    refine .succ (f := fun k => conclaveref04_Add.l1 k l (i : Int) f0 f1 f2 f3 f4 l5) (fun k => ?_) ?_
    · rw [conclaveref04_Add.l0, (full_same h hp.1 (by omega) _).1, enf, Option.bind_some, if_neg (by decide), (leaves_at h hp.1 (by omega)).1, Option.bind_some, if_pos (by omega), if_neg (by omega)]
    · have hj := radd_j2 hm5 (i := i) (by omega) (VX l) hgs f0 f1 f2 f3 f4 l5
      rw [show 2 * 2 ^ (m + 1) - 1 = 4 * i - 1 by omega] at hj
      have := radd_l1 (l := l) (n := i) (by omega) (by omega) f0 f1 f2 f3 f4 l5 hj (4 * i - 1 - l.length) l.length (by omega) (Nat.le_refl _)
      rw [← mkT_self l] at this
      have e : mkT (4 * i - 1) (addG (VX l) i (m + 1) ⟨true, f1, f2, f3, f4, []⟩) = addL l i (m + 1) ⟨true, f1, f2, f3, f4, []⟩ := by
        unfold addL
        rw [show 2 * 2 ^ (m + 1) - 1 = 4 * i - 1 by omega]
        rfl
      rw [e] at this
      exact this
theorem radd_none {l : List S29} (h : l.length = 63) (h5 : ∀ v ∈ l, v.f5.length ≤ 1000) (hfull : ∀ j, j < 32 → (VX l (2 * j)).f0 = true) (f0 : Bool) (f1 f2 f3 f4 : Int) (l5 : List Int) : Evr (fun k => conclaveref04_Add.f k l f0 f1 f2 f3 f4 l5) ([], 0, 41) := by
  refine (copy_ev (by omega) (fun v hv => by have := h5 v hv; omega)).bind ?_
  refine radd_l0 (n := 32) (i := 32) (by omega) (by omega) (by omega) f0 f1 f2 f3 f4 l5 (by omega) hfull ?_ 32 0 (by omega)
  refine .succ (f := fun _ => some (([] : List S29), 0, 41)) (fun k => ?_) (.const fun _ => rfl)
  have enf : fullB l 32 ((32 : Nat) : Int) = false := rfl
  rw [conclaveref04_Add.l0, (full_same (n := 32) (by omega) (by omega) (by omega) _).1, enf, Option.bind_some, if_neg (by decide), (leaves_at (n := 32) (by omega) (by omega) (by omega)).1, Option.bind_some, if_pos rfl]
  exact if_pos (by decide)
theorem rmembers_ev {l : List S29} {n : Nat} (h : l.length = 2 * n - 1) (hn : 1 ≤ n) (hn2 : n ≤ 1000) : Evr (fun k => conclaveref04_Members.f k l) (ints (fullN l 0 n)) := by
  have hl0 : ∀ (d j : Nat) (acc : List Nat), d + j = n → acc.length ≤ j → Evr (fun k => conclaveref04_Members.l0 k l (ints acc) (j : Int)) (ints (acc ++ fullN l j d)) := by
    intro d
    induction d with
    | zero =>
      intro j acc hd ha
      refine .succ (f := fun _ => some (ints acc)) (fun k => by rw [conclaveref04_Members.l0, (leaves_at h hn hn2).1, Option.bind_some, if_neg (by omega)]) (.const fun _ => ?_)
      simp [fullN]
    | succ d ih =>
      intro j acc hd ha
      have ef : fullB l n (j : Int) = (VX l (2 * j)).f0 := by
        unfold fullB
        rw [decide_eq_true (by omega), decide_eq_true (by omega), Bool.true_and, Bool.true_and]
        rfl
      have e1 : fullN l j (d + 1) = if (VX l (2 * j)).f0 = true then j :: fullN l (j + 1) d else fullN l (j + 1) d := by
        unfold fullN
        rw [List.range'_succ, List.filter_cons]
      by_cases c : (VX l (2 * j)).f0 = true
      · rw [e1, if_pos c, show acc ++ j :: fullN l (j + 1) d = acc ++ [j] ++ fullN l (j + 1) d by simp]
        refine .succ (fun k => ?_) (ih (j + 1) (acc ++ [j]) (by omega) (by simp; omega))
        rw [conclaveref04_Members.l0, (leaves_at h hn hn2).1, Option.bind_some, if_pos (by omega), (full_same h hn hn2 _).1, ef, Option.bind_some, if_pos c, ints_len, if_pos (by omega), wrap_id (by omega), show (j : Int) + 1 = ((j + 1 : Nat) : Int) by omega, ints_append]
        rfl
      · rw [e1, if_neg c]
        refine .succ (fun k => ?_) (ih (j + 1) acc (by omega) (by omega))
        rw [conclaveref04_Members.l0, (leaves_at h hn hn2).1, Option.bind_some, if_pos (by omega), (full_same h hn hn2 _).1, ef, Option.bind_some, if_neg c, wrap_id (by omega), show (j : Int) + 1 = ((j + 1 : Nat) : Int) by omega]
  have := hl0 n 0 [] (by omega) (by simp)
  rw [List.nil_append] at this
  exact this
theorem tight_both {l : List S29} {n : Nat} (h : l.length = 2 * n - 1) (h1 : 1 ≤ n) (h2 : n ≤ 1000) : ∃ b, Evr (fun k => tree_tight.f k l) b ∧ Evr (fun k => conclaveref04_Tight.f k l) b := by
  obtain ⟨b1, t1, t2⟩ := tight_same h h1 (by omega) (n - n / 2) (n / 2) (by omega)
  refine ⟨b1, ?_, ?_⟩
  · unfold tree_tight.f
    simp only [(leaves_at h h1 (by omega)).2, Option.bind_some]
    rw [Int.tdiv_eq_ediv_of_nonneg (by omega), wrap_id (by omega), show (n : Int) / 2 = ((n / 2 : Nat) : Int) by omega]
    exact t1
  · unfold conclaveref04_Tight.f
    simp only [(leaves_at h h1 (by omega)).1, Option.bind_some]
    rw [Int.tdiv_eq_ediv_of_nonneg (by omega), wrap_id (by omega), show (n : Int) / 2 = ((n / 2 : Nat) : Int) by omega]
    exact t2
theorem rtight_of {l : List S29} {n : Nat} (h : l.length = 2 * n - 1) (h1 : 1 ≤ n) (h2 : n ≤ 1000) {b : Bool} (ht : Evr (fun k => tree_tight.f k l) b) : Evr (fun k => conclaveref04_Tight.f k l) b := by
  obtain ⟨b', t1, t2⟩ := tight_both h h1 h2
  rw [ht.uniq t1]
  exact t2
theorem rshrink {g : Nat → S29} {m' : Nat} : ∀ (m : Nat), m ≤ 5 → Tops g m m' → Evr (fun k => conclaveref04_Remove.l0 k (mkT (2 * 2 ^ m - 1) g)) (mkT (2 * 2 ^ m' - 1) g, 0) := by
  intro m
  induction m with
  | zero =>
    intro hm ht
    have : m' = 0 := by have := ht.le; omega
    subst this
    exact .succ (f := fun _ => some (mkT (2 * 2 ^ 0 - 1) g, 0)) (fun k => by rw [conclaveref04_Remove.l0, mkT_len, if_neg (by decide)]) (.const fun _ => rfl)
  | succ m ih =>
    intro hm ht
    have hp := pow_le32 (m := m + 1) hm
    have hps : 2 ^ (m + 1) = 2 * 2 ^ m := by rw [Nat.pow_succ]; omega
    have hp0 := Nat.one_le_two_pow (n := m)
    have hop : ∀ k, conclaveref04_Remove.l0 (k + 1) (mkT (2 * 2 ^ (m + 1) - 1) g) = (conclaveref04_Tight.f k (mkT (2 * 2 ^ (m + 1) - 1) g)).bind fun t => if t = true then some (mkT (2 * 2 ^ (m + 1) - 1) g, 0) else conclaveref04_Remove.l0 k (mkT (2 * 2 ^ m - 1) g) := fun k => by
      rw [conclaveref04_Remove.l0, mkT_len, if_pos (by omega), (leaves_at (l := mkT (2 * 2 ^ (m + 1) - 1) g) (n := 2 ^ (m + 1)) (mkT_len _ _) hp.1 (by omega)).1, Option.bind_some, wrap_id (by omega), if_pos (by omega), if_pos (by omega), mkT_take (by omega), show (((2 ^ (m + 1) : Nat) : Int) - 1).toNat = 2 * 2 ^ m - 1 by omega]
    by_cases c : m' = m + 1
    · subst c
      obtain ⟨i, h1, h2, h3⟩ := ht.yes
      have := rtight_of (l := mkT (2 * 2 ^ (m + 1) - 1) g) (n := 2 ^ (m + 1)) (mkT_len _ _) hp.1 (by omega) (tight_yes (l := mkT (2 * 2 ^ (m + 1) - 1) g) (n := 2 ^ (m + 1)) (mkT_len _ _) hp.1 (by omega) h1 h2 (by rw [mkT_get (by omega)]; exact h3))
      exact .succ hop (this.bind (.const fun _ => by rw [if_pos rfl]))
    · have hle : m' ≤ m := by have := ht.le; omega
      have hpm : 2 ^ m' ≤ 2 ^ m := Nat.pow_le_pow_right (by decide) hle
      have := rtight_of (l := mkT (2 * 2 ^ (m + 1) - 1) g) (n := 2 ^ (m + 1)) (mkT_len _ _) hp.1 (by omega) (tight_no (l := mkT (2 * 2 ^ (m + 1) - 1) g) (n := 2 ^ (m + 1)) (mkT_len _ _) hp.1 (by omega) (fun i h1 h2 => by rw [mkT_get (by omega)]; exact ht.no i (by omega) h2))
      have hi := ih (by omega) ⟨hle, fun i h1 h2 => ht.no i h1 (by omega), ht.yes⟩
      exact .succ hop (this.bind (.congr (fun k => by rw [if_neg (by decide)]) hi))
theorem rremove_ev {l : List S29} {m m' i : Nat} (hm : m ≤ 5) (h : l.length = 2 * 2 ^ m - 1) (hl : LateOk l) (hi : i < 2 ^ m) (hf : (VX l (2 * i)).f0 = true) (hc : (fullN l 0 (2 ^ m)).length ≠ 1) (ht : Tops (cutG l i m) m m') : Evr (fun k => conclaveref04_Remove.f k l (i : Int)) (mkT (2 * 2 ^ m' - 1) (cutG l i m), 0) := by
  have hp := pow_le32 hm
  have h5 : ∀ v ∈ l, v.f5.length < 17592186044416 := fun v hv => by have := hl.len v hv; omega
  have hfb : conclaveref04_Full.f l (i : Int) = some true := by
    rw [(full_same h hp.1 (by omega) _).1, full_at hm h hi, hf]
  have hms := rmembers_ev h hp.1 (by omega)
  have hne : 1 ≤ (fullN l 0 (2 ^ m)).length := by
    have : i ∈ fullN l 0 (2 ^ m) := List.mem_filter.2 ⟨List.mem_range'_1.2 ⟨by omega, by omega⟩, hf⟩
    exact List.length_pos_of_mem this
  have hab := above_ev hm h hi h5
  have e : (mkT (2 * 2 ^ m - 1) (abvG l i m)).set (2 * i) z29 = mkT (2 * 2 ^ m - 1) (cutG l i m) := by
    rw [mkT_set]
    refine mkT_congr fun x _ => ?_
    unfold abvG cutG
    by_cases c : x = 2 * i
    · rw [if_pos c, if_pos c, ite_self]
    · rw [if_neg c, if_neg c]
  refine .congr (f := fun k => (conclaveref04_Members.f k l).bind fun ms => conclaveref04_Remove.j0 k l (i : Int) (decide ((ms.length : Int) < 2))) (fun k => ?_) (hms.bind ?_)
  · unfold conclaveref04_Remove.f
    rw [hfb, Option.bind_some, if_pos rfl]
  · rw [ints_len, decide_eq_false (by omega)]
    refine .succ (f := fun k => (conclaveref04_above.f k l (i : Int)).bind fun t => if 2 * (i : Int) < (t.length : Int) then conclaveref04_Remove.l0 k (t.set (2 * i) z29) else none) (fun k => ?_) (hab.bind ?_)
    · rw [conclaveref04_Remove.j0, if_neg (by decide), wrap_id (by omega), show (2 * (i : Int)).toNat = 2 * i by omega]
      simp only [if_pos (show 0 ≤ 2 * (i : Int) by omega)]
      rfl
    · rw [mkT_len, e]
      exact .congr (fun k => by rw [if_pos (by omega)]) (rshrink m hm ht)
theorem rremove_one {l : List S29} {m : Nat} {i : Int} (hm : m ≤ 5) (h : l.length = 2 * 2 ^ m - 1) (hc : fullB l (2 ^ m) i = true → (fullN l 0 (2 ^ m)).length = 1) : Evr (fun k => conclaveref04_Remove.f k l i) ([], 40) := by
  have hp := pow_le32 hm
  have hms := rmembers_ev h hp.1 (by omega)
  have hj : Evr (fun k => conclaveref04_Remove.j0 k l i true) ([], 40) := .succ (f := fun _ => some (([] : List S29), 40)) (fun k => by rw [conclaveref04_Remove.j0, if_pos rfl]) (.const fun _ => rfl)
  by_cases c : fullB l (2 ^ m) i = true
  · refine .congr (f := fun k => (conclaveref04_Members.f k l).bind fun ms => conclaveref04_Remove.j0 k l i (decide ((ms.length : Int) < 2))) (fun k => ?_) (hms.bind ?_)
    · unfold conclaveref04_Remove.f
      rw [(full_same h hp.1 (by omega) _).1, c, Option.bind_some, if_pos rfl]
    · rw [ints_len, hc c]
      exact hj
  · refine .congr (f := fun k => conclaveref04_Remove.j0 k l i true) (fun k => ?_) hj
    unfold conclaveref04_Remove.f
    rw [(full_same h hp.1 (by omega) _).1, Option.bind_some, if_neg c]
end Go.Proofs.YtbblomnhobodkaaDoor.Pure
