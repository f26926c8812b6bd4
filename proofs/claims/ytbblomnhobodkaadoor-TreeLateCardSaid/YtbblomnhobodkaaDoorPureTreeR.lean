/- What this claim reaches of a longer text of this session. -/
import Derived.Test.YtbblomnhobodkaaDoorPureTreeC
set_option linter.unusedVariables false
set_option linter.unusedSimpArgs false
namespace Go.Proofs.YtbblomnhobodkaaDoor.Pure
open Go.RowKit Go.Proofs.YtbblomnhobodkaaDoor Go.Proofs.YtbblomnhobodkaaDoor.PTw Go.Proofs.YtbblomnhobodkaaDoorW.PrintWords
theorem VX_mkT {N : Nat} {g : Nat → S29} (h : ∀ x, N ≤ x → g x = z29) : VX (mkT N g) = g := by
  funext x
  by_cases c : x < N
  · exact mkT_get c
  · rw [VX_out (by rw [mkT_len]; omega), h x (by omega)]
structure RG (g : Nat → S29) (m : Nat) : Prop where
  hm : m ≤ 5
  out : ∀ x, 2 * 2 ^ m - 1 ≤ x → g x = z29
  blank : ∀ x, (g x).f0 = false → g x = z29
  leaf : ∀ x, x % 2 = 0 → (g x).f5 = []
  par : ∀ x, x % 2 = 1 → (g x).f2 = 0 ∧ (g x).f3 = 0
  up : ∀ x, (g x).f5.Pairwise (· < ·)
  late : ∀ x, ∀ y ∈ (g x).f5, ∃ j : Nat, y = (j : Int) ∧ j < 2 ^ m ∧ (g (2 * j)).f0 = true ∧ x ∈ pathN j m
  top : ∃ i, 2 ^ m / 2 ≤ i ∧ i < 2 ^ m ∧ (g (2 * i)).f0 = true
structure RT (l : List S29) (m : Nat) : Prop where
  len : l.length = 2 * 2 ^ m - 1
  rg : RG (VX l) m
theorem RT.of {g : Nat → S29} {m : Nat} (h : RG g m) : RT (mkT (2 * 2 ^ m - 1) g) m :=
  ⟨mkT_len _ _, by rw [VX_mkT h.out]; exact h⟩
theorem RT.hm {l : List S29} {m : Nat} (h : RT l m) : m ≤ 5 := h.rg.hm
theorem rising_len : ∀ (l : List Int) (a b : Int), l.Pairwise (· < ·) → (∀ y ∈ l, a ≤ y ∧ y < b) → l = [] ∨ (l.length : Int) ≤ b - a
  | [], _, _, _, _ => .inl rfl
  | h :: t, a, b, hp, hb => by
    refine .inr ?_
    obtain ⟨h1, h2⟩ := List.pairwise_cons.1 hp
    have hh := hb h (List.mem_cons_self ..)
    rcases rising_len t (h + 1) b h2 (fun y hy => ⟨by have := h1 y hy; omega, (hb y (List.mem_cons_of_mem _ hy)).2⟩) with e | e
    · subst e; simp; omega
    · simp only [List.length_cons]; omega
theorem RG.lates {g : Nat → S29} {m : Nat} (h : RG g m) (x : Nat) : (∀ y ∈ (g x).f5, 0 ≤ y ∧ y < 32) ∧ (g x).f5.length ≤ 32 := by
  have hp := pow_le32 h.hm
  have h1 : ∀ y ∈ (g x).f5, 0 ≤ y ∧ y < 32 := fun y hy => by
    obtain ⟨j, rfl, hj, _⟩ := h.late x y hy
    omega
  refine ⟨h1, ?_⟩
  rcases rising_len (g x).f5 0 32 (h.up x) h1 with e | e
  · rw [e]; simp
  · omega
theorem mem_VX {l : List S29} {v : S29} (h : v ∈ l) : ∃ x, x < l.length ∧ v = VX l x := by
  obtain ⟨x, hx, rfl⟩ := List.getElem_of_mem h
  exact ⟨x, hx, (VX_at hx).symm⟩
theorem RT.lateOk {l : List S29} {m : Nat} (h : RT l m) : LateOk l := by
  refine ⟨fun v hv => ?_, fun v hv _ => ?_⟩
  · obtain ⟨x, _, rfl⟩ := mem_VX hv
    have := (h.rg.lates x).2
    omega
  · obtain ⟨x, _, rfl⟩ := mem_VX hv
    exact (h.rg.up x).imp fun h => Int.le_of_lt h
theorem RT.l5 {l : List S29} {m : Nat} (h : RT l m) : ∀ v ∈ l, v.f5.length ≤ 1000 := h.lateOk.len
theorem path_pre {i m m' x : Nat} (h : m ≤ m') (hm' : m' ≤ 5) (hi : i < 2 ^ m) : x ∈ pathN i m ↔ x ∈ pathN i m' ∧ x < 2 * 2 ^ m - 1 := by
  constructor
  · intro hx
    refine ⟨?_, ((pathN_ok (by omega) hi).2 x hx).2⟩
    obtain ⟨k, hk, rfl⟩ := List.mem_map.1 hx
    exact List.mem_map.2 ⟨k, List.mem_range.2 (by have := List.mem_range.1 hk; omega), rfl⟩
  · rintro ⟨hx, hlt⟩
    obtain ⟨k, hk, rfl⟩ := List.mem_map.1 hx
    refine List.mem_map.2 ⟨k, List.mem_range.2 ?_, rfl⟩
    rcases Nat.lt_or_ge k m with c | c
    · exact c
    · exfalso
      have h2 : 2 ^ m ≤ 2 ^ k := Nat.pow_le_pow_right (by decide) c
      have h3 : 2 ^ (k + 1) = 2 * 2 ^ k := by rw [Nat.pow_succ]; omega
      have h0 : i / 2 ^ (k + 1) = 0 := Nat.div_eq_of_lt (by omega)
      rw [h0] at hlt
      omega
theorem path_odd {m i x : Nat} (hm : m ≤ 5) (hi : i < 2 ^ m) (h : x ∈ pathN i m) : x % 2 = 1 := ((pathN_ok hm hi).2 x h).1
theorem path_lt {m i x : Nat} (hm : m ≤ 5) (hi : i < 2 ^ m) (h : x ∈ pathN i m) : x < 2 * 2 ^ m - 1 := ((pathN_ok hm hi).2 x h).2
theorem path_even {m i j : Nat} (hm : m ≤ 5) (hi : i < 2 ^ m) : 2 * j ∉ pathN i m := fun h => by have := path_odd hm hi h; omega
theorem insN_lt {a i : Int} {l : List Int} (h : a < i) : insN (a :: l) i = a :: insN l i := by
  unfold insN
  rw [List.countP_cons, decide_eq_true h]
  simp
theorem insN_ge {a i : Int} {l : List Int} (hp : (a :: l).Pairwise (· < ·)) (h : i ≤ a) : insN (a :: l) i = i :: a :: l := by
  unfold insN
  have h0 : (a :: l).countP (fun y => decide (y < i)) = 0 := List.countP_eq_zero.2 fun y hy hh => by
    have := of_decide_eq_true hh
    rcases List.mem_cons.1 hy with e | e
    · omega
    · have := (List.pairwise_cons.1 hp).1 y e
      omega
  rw [h0]
  simp
theorem insN_mem {l : List Int} {i y : Int} : y ∈ insN l i ↔ y = i ∨ y ∈ l := by
  unfold insN
  rw [List.mem_append, List.mem_cons]
  conv => rhs; rw [← List.take_append_drop (l.countP (fun y => decide (y < i))) l, List.mem_append]
  constructor
  · rintro (h | h | h)
    · exact .inr (.inl h)
    · exact .inl h
    · exact .inr (.inr h)
  · rintro (h | h | h)
    · exact .inr (.inl h)
    · exact .inl h
    · exact .inr (.inr h)
theorem insN_up {i : Int} : ∀ {l : List Int}, l.Pairwise (· < ·) → i ∉ l → (insN l i).Pairwise (· < ·)
  | [], _, _ => by unfold insN; simp
  | a :: l, hp, hi => by
    obtain ⟨h1, h2⟩ := List.pairwise_cons.1 hp
    have hne : a ≠ i := fun e => hi (by rw [e]; exact List.mem_cons_self ..)
    have hi2 : i ∉ l := fun e => hi (List.mem_cons_of_mem _ e)
    by_cases c : a < i
    · rw [insN_lt c]
      refine List.pairwise_cons.2 ⟨fun y hy => ?_, insN_up h2 hi2⟩
      rcases insN_mem.1 hy with e | e
      · rw [e]; exact c
      · exact h1 y e
    · rw [insN_ge hp (by omega)]
      refine List.pairwise_cons.2 ⟨fun y hy => ?_, hp⟩
      rcases List.mem_cons.1 hy with e | e
      · omega
      · have := h1 y e; omega
def addG (g : Nat → S29) (i m : Nat) (leaf : S29) : Nat → S29 := fun x => if x ∈ pathN i m ∧ (g x).f0 = true then lateIn (g x) i else if x = 2 * i then leaf else g x
def aLeaf (leaf : S29) : Prop := leaf.f0 = true ∧ leaf.f5 = []
theorem RG.add {g : Nat → S29} {m m' i : Nat} {leaf : S29} (h : RG g m) (hL : aLeaf leaf) (hfree : (g (2 * i)).f0 = false) (hm' : (i < 2 ^ m ∧ m' = m) ∨ (i = 2 ^ m ∧ m' = m + 1 ∧ m' ≤ 5)) : RG (addG g i m' leaf) m' := by
  have hm := h.hm
  have hm5 : m' ≤ 5 := by omega
  have hle : m ≤ m' := by omega
  have hpp : 2 ^ m ≤ 2 ^ m' := Nat.pow_le_pow_right (by decide) hle
  have hi : i < 2 ^ m' := by
    rcases hm' with ⟨h1, h2⟩ | ⟨h1, h2, _⟩
    · omega
    · rw [h2, Nat.pow_succ]; have := Nat.one_le_two_pow (n := m); omega
  have f0 : ∀ x, (addG g i m' leaf x).f0 = if x = 2 * i then true else (g x).f0 := fun x => by
    unfold addG
    by_cases c : x ∈ pathN i m' ∧ (g x).f0 = true
    · have : x ≠ 2 * i := fun e => path_even hm5 hi (by rw [← e]; exact c.1)
      rw [if_pos c, if_neg this]
      rfl
    · rw [if_neg c]
      by_cases c2 : x = 2 * i
      · rw [if_pos c2, if_pos c2]; exact hL.1
      · rw [if_neg c2, if_neg c2]
  have hni : ∀ x, (i : Int) ∉ (g x).f5 := fun x hx => by
    obtain ⟨j, h1, h2, h3, _⟩ := h.late x _ hx
    rw [show 2 * i = 2 * j by omega, h3] at hfree
    cases hfree
  refine ⟨hm5, fun x hx => ?_, fun x hx => ?_, fun x hx => ?_, fun x hx => ?_, fun x => ?_, fun x y hy => ?_, ?_⟩
  · unfold addG
    rw [if_neg (fun c => by have := path_lt hm5 hi c.1; omega), if_neg (by omega)]
    exact h.out x (by omega)
  · rw [f0] at hx
    by_cases c : x = 2 * i
    · rw [if_pos c] at hx; cases hx
    · rw [if_neg c] at hx
      unfold addG
      rw [if_neg (fun hh => by rw [hx] at hh; cases hh.2), if_neg c]
      exact h.blank x hx
  · unfold addG
    rw [if_neg (fun hh => by have := path_odd hm5 hi hh.1; omega)]
    split
    · exact hL.2
    · exact h.leaf x hx
  · unfold addG
    by_cases c : x ∈ pathN i m' ∧ (g x).f0 = true
    · rw [if_pos c]; exact h.par x hx
    · rw [if_neg c, if_neg (by omega)]; exact h.par x hx
  · unfold addG
    by_cases c : x ∈ pathN i m' ∧ (g x).f0 = true
    · rw [if_pos c]; exact insN_up (h.up x) (hni x)
    · rw [if_neg c]
      split
      · rw [hL.2]; exact List.Pairwise.nil
      · exact h.up x
  · have old : y ∈ (g x).f5 → ∃ j : Nat, y = (j : Int) ∧ j < 2 ^ m' ∧ (addG g i m' leaf (2 * j)).f0 = true ∧ x ∈ pathN j m' := fun hy => by
      obtain ⟨j, h1, h2, h3, h4⟩ := h.late x y hy
      refine ⟨j, h1, by omega, ?_, ((path_pre hle hm5 h2).1 h4).1⟩
      rw [f0]
      split
      · rfl
      · exact h3
    by_cases c : x ∈ pathN i m' ∧ (g x).f0 = true
    · have e : (addG g i m' leaf x).f5 = insN (g x).f5 i := by unfold addG; rw [if_pos c]; rfl
      rw [e] at hy
      rcases insN_mem.1 hy with e2 | e2
      · exact ⟨i, e2, hi, by rw [f0, if_pos rfl], c.1⟩
      · exact old e2
    · by_cases c2 : x = 2 * i
      · have e : addG g i m' leaf x = leaf := by unfold addG; rw [if_neg c, if_pos c2]
        rw [e, hL.2] at hy
        cases hy
      · have e : addG g i m' leaf x = g x := by unfold addG; rw [if_neg c, if_neg c2]
        rw [e] at hy
        exact old hy
  · rcases hm' with ⟨h1, rfl⟩ | ⟨h1, rfl, _⟩
    · obtain ⟨j, q1, q2, q3⟩ := h.top
      refine ⟨j, q1, q2, ?_⟩
      rw [f0]
      split
      · rfl
      · exact q3
    · exact ⟨i, by rw [h1, Nat.pow_succ]; omega, hi, by rw [f0, if_pos rfl]⟩
def merG (g : Nat → S29) (i m : Nat) (leaf : S29) (F : Nat → S29) : Nat → S29 := fun x => if x ∈ pathN i m then F x else if x = 2 * i then leaf else g x
def OkF (F : Nat → S29) : Prop := ∀ x, F x = z29 ∨ ∃ k h : Int, F x = ⟨true, k, 0, 0, h, []⟩
theorem OkF.none : OkF (fun _ => z29) := fun _ => .inl rfl
theorem OkF.f5 {F : Nat → S29} (h : OkF F) (x : Nat) : (F x).f5 = [] ∧ (F x).f2 = 0 ∧ (F x).f3 = 0 ∧ ((F x).f0 = false → F x = z29) := by
  rcases h x with e | ⟨k, h, e⟩
  · rw [e]; exact ⟨rfl, rfl, rfl, fun _ => rfl⟩
  · rw [e]; exact ⟨rfl, rfl, rfl, fun c => by cases c⟩
theorem RG.lay {g : Nat → S29} {m i : Nat} {leaf : S29} {F : Nat → S29} (h : RG g m) (hL : aLeaf leaf) (hF : OkF F) (hi : i < 2 ^ m) : RG (merG g i m leaf F) m := by
  have hm := h.hm
  have fe : ∀ j, (merG g i m leaf F (2 * j)).f0 = if j = i then true else (g (2 * j)).f0 := fun j => by
    unfold merG
    rw [if_neg (path_even hm hi)]
    by_cases c : j = i
    · rw [if_pos c, if_pos (by omega)]; exact hL.1
    · rw [if_neg c, if_neg (by omega)]
  have hcase : ∀ x, (x ∈ pathN i m ∧ merG g i m leaf F x = F x) ∨ (x = 2 * i ∧ merG g i m leaf F x = leaf) ∨ (x ∉ pathN i m ∧ x ≠ 2 * i ∧ merG g i m leaf F x = g x) := fun x => by
    unfold merG
    by_cases c : x ∈ pathN i m
    · exact .inl ⟨c, by rw [if_pos c]⟩
    · by_cases c2 : x = 2 * i
      · exact .inr (.inl ⟨c2, by rw [if_neg c, if_pos c2]⟩)
      · exact .inr (.inr ⟨c, c2, by rw [if_neg c, if_neg c2]⟩)
  refine ⟨hm, fun x hx => ?_, fun x hx => ?_, fun x hx => ?_, fun x hx => ?_, fun x => ?_, fun x y hy => ?_, ?_⟩
  · rcases hcase x with ⟨c, _⟩ | ⟨c, _⟩ | ⟨_, _, e⟩
    · have := path_lt hm hi c; omega
    · omega
    · rw [e]; exact h.out x hx
  · rcases hcase x with ⟨c, e⟩ | ⟨c, e⟩ | ⟨_, _, e⟩ <;> rw [e] at hx ⊢
    · exact (hF.f5 x).2.2.2 hx
    · rw [hL.1] at hx; cases hx
    · exact h.blank x hx
  · rcases hcase x with ⟨c, e⟩ | ⟨c, e⟩ | ⟨_, _, e⟩ <;> rw [e]
    · exact (hF.f5 x).1
    · exact hL.2
    · exact h.leaf x hx
  · rcases hcase x with ⟨c, e⟩ | ⟨c, e⟩ | ⟨_, _, e⟩
    · rw [e]; exact ⟨(hF.f5 x).2.1, (hF.f5 x).2.2.1⟩
    · omega
    · rw [e]; exact h.par x hx
  · rcases hcase x with ⟨c, e⟩ | ⟨c, e⟩ | ⟨_, _, e⟩ <;> rw [e]
    · rw [(hF.f5 x).1]; exact List.Pairwise.nil
    · rw [hL.2]; exact List.Pairwise.nil
    · exact h.up x
  · rcases hcase x with ⟨c, e⟩ | ⟨c, e⟩ | ⟨_, _, e⟩ <;> rw [e] at hy
    · rw [(hF.f5 x).1] at hy; cases hy
    · rw [hL.2] at hy; cases hy
    · obtain ⟨j, h1, h2, h3, h4⟩ := h.late x y hy
      refine ⟨j, h1, h2, ?_, h4⟩
      rw [fe]
      split
      · rfl
      · exact h3
  · obtain ⟨j, q1, q2, q3⟩ := h.top
    refine ⟨j, q1, q2, ?_⟩
    rw [fe]
    split
    · rfl
    · exact q3
def remG (g : Nat → S29) (i m m' : Nat) : Nat → S29 := fun x => if x < 2 * 2 ^ m' - 1 then (if x ∈ pathN i m then z29 else if x = 2 * i then z29 else g x) else z29
theorem RG.rem {l : List S29} {m m' i : Nat} (h : RG (VX l) m) (hi : i < 2 ^ m) (ht : Tops (cutG l i m) m m') : RG (remG (VX l) i m m') m' := by
  have hm := h.hm
  have hle := ht.le
  have hpp : 2 ^ m' ≤ 2 ^ m := Nat.pow_le_pow_right (by decide) hle
  have hcase : ∀ x, remG (VX l) i m m' x = z29 ∨ (x < 2 * 2 ^ m' - 1 ∧ x ∉ pathN i m ∧ x ≠ 2 * i ∧ remG (VX l) i m m' x = VX l x) := fun x => by
    unfold remG
    by_cases c0 : x < 2 * 2 ^ m' - 1
    · rw [if_pos c0]
      by_cases c : x ∈ pathN i m
      · exact .inl (by rw [if_pos c])
      · by_cases c2 : x = 2 * i
        · exact .inl (by rw [if_neg c, if_pos c2])
        · exact .inr ⟨c0, c, c2, by rw [if_neg c, if_neg c2]⟩
    · exact .inl (by rw [if_neg c0])
  have hcut : ∀ x, x < 2 * 2 ^ m' - 1 → remG (VX l) i m m' x = cutG l i m x := fun x hx => by
    unfold remG cutG
    rw [if_pos hx]
  refine ⟨by omega, fun x hx => ?_, fun x hx => ?_, fun x hx => ?_, fun x hx => ?_, fun x => ?_, fun x y hy => ?_, ?_⟩
  · unfold remG
    rw [if_neg (by omega)]
  · rcases hcase x with e | ⟨_, _, _, e⟩
    · exact e
    · rw [e] at hx ⊢; exact h.blank x hx
  · rcases hcase x with e | ⟨_, _, _, e⟩ <;> rw [e]
    · rfl
    · exact h.leaf x hx
  · rcases hcase x with e | ⟨_, _, _, e⟩ <;> rw [e]
    · exact ⟨rfl, rfl⟩
    · exact h.par x hx
  · rcases hcase x with e | ⟨_, _, _, e⟩ <;> rw [e]
    · exact List.Pairwise.nil
    · exact h.up x
  · rcases hcase x with e | ⟨c0, c1, c2, e⟩ <;> rw [e] at hy
    · cases hy
    · obtain ⟨j, h1, h2, h3, h4⟩ := h.late x y hy
      have hne : j ≠ i := fun hh => c1 (by rw [← hh]; exact h4)
      have hc : cutG l i m (2 * j) = VX l (2 * j) := by
        unfold cutG
        rw [if_neg (path_even hm hi), if_neg (by omega)]
      have hj : j < 2 ^ m' := by
        rcases Nat.lt_or_ge j (2 ^ m') with q | q
        · exact q
        · have := ht.no j q h2
          rw [hc, h3] at this
          cases this
      refine ⟨j, h1, hj, ?_, (path_pre hle hm hj).2 ⟨h4, c0⟩⟩
      rw [hcut _ (by omega), hc]
      exact h3
  · obtain ⟨j, q1, q2, q3⟩ := ht.yes
    exact ⟨j, q1, q2, by rw [hcut _ (by omega)]; exact q3⟩
theorem rem_mk {l : List S29} {i m m' : Nat} : mkT (2 * 2 ^ m' - 1) (cutG l i m) = mkT (2 * 2 ^ m' - 1) (remG (VX l) i m m') := mkT_congr fun x hx => by
  unfold remG cutG
  rw [if_pos hx]
theorem tops_any {g : Nat → S29} (hb : ∃ j, (g (2 * j)).f0 = true) : ∀ (q : Nat), (∀ j, (g (2 * j)).f0 = true → j < 2 ^ q) → ∃ m', m' ≤ q ∧ (∀ j, (g (2 * j)).f0 = true → j < 2 ^ m') ∧ ∃ j, 2 ^ m' / 2 ≤ j ∧ j < 2 ^ m' ∧ (g (2 * j)).f0 = true := by
  intro q
  induction q with
  | zero =>
    intro h
    obtain ⟨j, hj⟩ := hb
    exact ⟨0, Nat.le_refl _, h, j, by have := h j hj; simp at this; simp, h j hj, hj⟩
  | succ q ih =>
    intro h
    by_cases c : ∃ j, (g (2 * j)).f0 = true ∧ 2 ^ (q + 1) / 2 ≤ j
    · obtain ⟨j, h1, h2⟩ := c
      exact ⟨q + 1, Nat.le_refl _, h, j, h2, h j h1, h1⟩
    · obtain ⟨m', h1, h2, h3⟩ := ih (fun j hj => by
        have : ¬ 2 ^ (q + 1) / 2 ≤ j := fun hh => c ⟨j, hj, hh⟩
        rw [Nat.pow_succ] at this
        omega)
      exact ⟨m', by omega, h2, h3⟩
end Go.Proofs.YtbblomnhobodkaaDoor.Pure
