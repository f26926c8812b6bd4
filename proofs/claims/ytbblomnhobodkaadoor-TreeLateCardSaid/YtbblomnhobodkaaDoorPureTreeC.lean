/- What this claim reaches of a longer text of this session. -/
import Derived.Test.YtbblomnhobodkaaDoorPTwx30
import Derived.Test.YtbblomnhobodkaaDoorPureTreeB
set_option linter.unusedVariables false
set_option linter.unusedSimpArgs false
namespace Go.Proofs.YtbblomnhobodkaaDoor.Pure
open Go.RowKit Go.Proofs.YtbblomnhobodkaaDoor Go.Proofs.YtbblomnhobodkaaDoor.PTw Go.Proofs.YtbblomnhobodkaaDoorW.PrintWords
theorem ints_append (a b : List Nat) : ints (a ++ b) = ints a ++ ints b := by simp [ints]
def fullN (l : List S29) (j d : Nat) : List Nat := (List.range' j d).filter fun i => (VX l (2 * i)).f0
theorem members_l0 {l : List S29} {n : Nat} (h : l.length = 2 * n - 1) (hn : 1 ≤ n) (hn2 : n ≤ 1000) : ∀ (d j : Nat) (acc : List Nat), d + j = n → acc.length ≤ j → Evr (fun k => tree_Members.l0 k l (ints acc) (n : Int) (j : Int)) (ints (acc ++ fullN l j d)) := by
  intro d
  induction d with
  | zero =>
    intro j acc hd ha
    refine .succ (f := fun _ => some (ints acc)) (fun k => by rw [tree_Members.l0, if_neg (by omega)]) (.const fun _ => ?_)
    simp [fullN]
  | succ d ih =>
    intro j acc hd ha
    have e0 : (rd_T29 l (2 * (j : Int))).f0 = (VX l (2 * j)).f0 := rfl
    have e1 : fullN l j (d + 1) = if (VX l (2 * j)).f0 = true then j :: fullN l (j + 1) d else fullN l (j + 1) d := by
      unfold fullN
      rw [List.range'_succ, List.filter_cons]
    by_cases c : (VX l (2 * j)).f0 = true
    · rw [e1, if_pos c, show acc ++ j :: fullN l (j + 1) d = acc ++ [j] ++ fullN l (j + 1) d by simp]
      refine .succ (fun k => ?_) (ih (j + 1) (acc ++ [j]) (by omega) (by simp; omega))
      rw [tree_Members.l0, if_pos (by omega), wrap_id (a := 2 * (j : Int)) (by omega), if_pos (by omega), if_pos (by omega), e0, if_pos c, ints_len, if_pos (by omega), wrap_id (by omega), show (j : Int) + 1 = ((j + 1 : Nat) : Int) by omega, ints_append]
      rfl
    · rw [e1, if_neg c]
      refine .succ (fun k => ?_) (ih (j + 1) acc (by omega) (by omega))
      rw [tree_Members.l0, if_pos (by omega), wrap_id (a := 2 * (j : Int)) (by omega), if_pos (by omega), if_pos (by omega), e0, if_neg c, wrap_id (by omega), show (j : Int) + 1 = ((j + 1 : Nat) : Int) by omega]
theorem members_ev {l : List S29} {n : Nat} (h : l.length = 2 * n - 1) (hn : 1 ≤ n) (hn2 : n ≤ 1000) : Evr (fun k => tree_Members.f k l) (ints (fullN l 0 n)) := by
  refine .congr (f := fun k => tree_Members.l0 k l (ints []) (n : Int) 0) (fun k => by unfold tree_Members.f; rw [(leaves_at h hn hn2).2, Option.bind_some]; rfl) ?_
  have := members_l0 h hn hn2 n 0 [] (by omega) (by simp)
  rw [List.nil_append] at this
  exact this
theorem tight_no {l : List S29} {n : Nat} (h : l.length = 2 * n - 1) (hn : 1 ≤ n) (hn2 : n ≤ 1000) (hno : ∀ i, n / 2 ≤ i → i < n → (VX l (2 * i)).f0 = false) : Evr (fun k => tree_tight.f k l) false := by
  have hl0 : ∀ (d j : Nat), d + j = n → n / 2 ≤ j → Evr (fun k => tree_tight.l0 k l (n : Int) (j : Int)) false := by
    intro d
    induction d with
    | zero => exact fun j hd _ => .succ (f := fun _ => some false) (fun k => by rw [tree_tight.l0, if_neg (by omega)]) (.const fun _ => rfl)
    | succ d ih =>
      intro j hd hj
      have e0 : (rd_T29 l (2 * (j : Int))).f0 = false := hno j hj (by omega)
      refine .succ (fun k => ?_) (ih (j + 1) (by omega) (by omega))
      rw [tree_tight.l0, if_pos (by omega), wrap_id (a := 2 * (j : Int)) (by omega), if_pos (by omega), if_pos (by omega), e0, if_neg (by decide), wrap_id (by omega), show (j : Int) + 1 = ((j + 1 : Nat) : Int) by omega]
  refine .congr (f := fun k => tree_tight.l0 k l (n : Int) ((n / 2 : Nat) : Int)) (fun k => ?_) (hl0 (n - n / 2) (n / 2) (by omega) (Nat.le_refl _))
  unfold tree_tight.f
  rw [(leaves_at h hn hn2).2, Option.bind_some, Int.tdiv_eq_ediv_of_nonneg (by omega), wrap_id (by omega), show (n : Int) / 2 = ((n / 2 : Nat) : Int) by omega]
theorem tight_yes {l : List S29} {n : Nat} (h : l.length = 2 * n - 1) (hn : 1 ≤ n) (hn2 : n ≤ 1000) {i : Nat} (hi : n / 2 ≤ i) (hi2 : i < n) (hf : (VX l (2 * i)).f0 = true) : Evr (fun k => tree_tight.f k l) true := by
  have hl0 : ∀ (d j : Nat), d + j = i → Evr (fun k => tree_tight.l0 k l (n : Int) (j : Int)) true := by
    intro d
    induction d with
    | zero =>
      intro j hd
      have : j = i := by omega
      subst this
      refine .succ (f := fun _ => some true) (fun k => ?_) (.const fun _ => rfl)
      have e0 : (rd_T29 l (2 * (j : Int))).f0 = true := hf
      rw [tree_tight.l0, if_pos (by omega), wrap_id (a := 2 * (j : Int)) (by omega), if_pos (by omega), if_pos (by omega), e0, if_pos rfl]
    | succ d ih =>
      intro j hd
      by_cases c : (rd_T29 l (2 * (j : Int))).f0 = true
      · refine .succ (f := fun _ => some true) (fun k => ?_) (.const fun _ => rfl)
        rw [tree_tight.l0, if_pos (by omega), wrap_id (a := 2 * (j : Int)) (by omega), if_pos (by omega), if_pos (by omega), if_pos c]
      · refine .succ (fun k => ?_) (ih (j + 1) (by omega))
        rw [tree_tight.l0, if_pos (by omega), wrap_id (a := 2 * (j : Int)) (by omega), if_pos (by omega), if_pos (by omega), if_neg c, wrap_id (by omega), show (j : Int) + 1 = ((j + 1 : Nat) : Int) by omega]
  refine .congr (f := fun k => tree_tight.l0 k l (n : Int) ((n / 2 : Nat) : Int)) (fun k => ?_) (hl0 (i - n / 2) (n / 2) (by omega))
  unfold tree_tight.f
  rw [(leaves_at h hn hn2).2, Option.bind_some, Int.tdiv_eq_ediv_of_nonneg (by omega), wrap_id (by omega), show (n : Int) / 2 = ((n / 2 : Nat) : Int) by omega]
structure Tops (g : Nat → S29) (m m' : Nat) : Prop where
  le : m' ≤ m
  no : ∀ i, 2 ^ m' ≤ i → i < 2 ^ m → (g (2 * i)).f0 = false
  yes : ∃ i, 2 ^ m' / 2 ≤ i ∧ i < 2 ^ m' ∧ (g (2 * i)).f0 = true
theorem shrink {g : Nat → S29} {m' : Nat} : ∀ (m : Nat), m ≤ 5 → Tops g m m' → Evr (fun k => tree_Remove.l0 k (mkT (2 * 2 ^ m - 1) g)) (mkT (2 * 2 ^ m' - 1) g, 0) := by
  intro m
  induction m with
  | zero =>
    intro hm ht
    have : m' = 0 := by have := ht.le; omega
    subst this
    obtain ⟨i, h1, h2, h3⟩ := ht.yes
    have := tight_yes (l := mkT (2 * 2 ^ 0 - 1) g) (n := 2 ^ 0) (mkT_len _ _) (by decide) (by decide) h1 h2 (by rw [mkT_get (by omega)]; exact h3)
    exact .succ (f := fun k => (tree_tight.f k (mkT (2 * 2 ^ 0 - 1) g)).bind fun b => if b = true then some (mkT (2 * 2 ^ 0 - 1) g, 0) else tree_Remove.l0 k ((mkT (2 * 2 ^ 0 - 1) g).take ((mkT (2 * 2 ^ 0 - 1) g).length / 2))) (fun k => by rw [tree_Remove.l0]) (this.bind (.const fun _ => by rw [if_pos rfl]))
  | succ m ih =>
    intro hm ht
    have hp := pow_le32 (m := m + 1) hm
    have hps : 2 ^ (m + 1) = 2 * 2 ^ m := by rw [Nat.pow_succ]; omega
    by_cases c : m' = m + 1
    · subst c
      obtain ⟨i, h1, h2, h3⟩ := ht.yes
      have := tight_yes (l := mkT (2 * 2 ^ (m + 1) - 1) g) (n := 2 ^ (m + 1)) (mkT_len _ _) hp.1 (by omega) h1 h2 (by rw [mkT_get (by omega)]; exact h3)
      exact .succ (f := fun k => (tree_tight.f k (mkT (2 * 2 ^ (m + 1) - 1) g)).bind fun b => if b = true then some (mkT (2 * 2 ^ (m + 1) - 1) g, 0) else tree_Remove.l0 k ((mkT (2 * 2 ^ (m + 1) - 1) g).take ((mkT (2 * 2 ^ (m + 1) - 1) g).length / 2))) (fun k => by rw [tree_Remove.l0]) (this.bind (.const fun _ => by rw [if_pos rfl]))
    · have hle : m' ≤ m := by have := ht.le; omega
      have hpm : 2 ^ m' ≤ 2 ^ m := Nat.pow_le_pow_right (by decide) hle
      have := tight_no (l := mkT (2 * 2 ^ (m + 1) - 1) g) (n := 2 ^ (m + 1)) (mkT_len _ _) hp.1 (by omega) (fun i h1 h2 => by rw [mkT_get (by omega)]; exact ht.no i (by omega) h2)
      have hi := ih (by omega) ⟨hle, fun i h1 h2 => ht.no i h1 (by omega), ht.yes⟩
      refine .succ (f := fun k => (tree_tight.f k (mkT (2 * 2 ^ (m + 1) - 1) g)).bind fun b => if b = true then some (mkT (2 * 2 ^ (m + 1) - 1) g, 0) else tree_Remove.l0 k ((mkT (2 * 2 ^ (m + 1) - 1) g).take ((mkT (2 * 2 ^ (m + 1) - 1) g).length / 2))) (fun k => by rw [tree_Remove.l0]) (this.bind ?_)
      refine .congr (fun k => ?_) hi
      rw [if_neg (by decide), mkT_len, mkT_take (by omega), show (2 * 2 ^ (m + 1) - 1) / 2 = 2 * 2 ^ m - 1 by omega]
def cutG (l : List S29) (i m : Nat) : Nat → S29 := fun x => if x ∈ pathN i m then z29 else if x = 2 * i then z29 else VX l x
theorem remove_ev {l : List S29} {m m' i : Nat} (hm : m ≤ 5) (h : l.length = 2 * 2 ^ m - 1) (hl : LateOk l) (hi : i < 2 ^ m) (hf : (VX l (2 * i)).f0 = true) (hc : (fullN l 0 (2 ^ m)).length ≠ 1) (ht : Tops (cutG l i m) m m') : Evr (fun k => tree_Remove.f k l (i : Int)) (mkT (2 * 2 ^ m' - 1) (cutG l i m), 0) := by
  have hp := pow_le32 hm
  have h5 : ∀ v ∈ l, v.f5.length < 17592186044416 := fun v hv => by have := hl.len v hv; omega
  have hfb : tree_full.f l (i : Int) = some true := by
    rw [(full_same h hp.1 (by omega) _).2]
    unfold fullB
    rw [decide_eq_true (by omega), decide_eq_true (by omega)]
    exact congrArg some hf
  have hms := members_ev h hp.1 (by omega)
  have hcl := clean_ev hm hi (fun x => if x = 2 * i then z29 else VX l x)
  have hcl2 : Evr (fun k => tree_clean.f k ((l.set (2 * i) z29)) (i : Int)) (mkT (2 * 2 ^ m - 1) (cutG l i m)) := by
    have e : l.set (2 * i) z29 = mkT (2 * 2 ^ m - 1) (fun x => if x = 2 * i then z29 else VX l x) := by
      conv => lhs; rw [mkT_self l]
      rw [mkT_set, h]
    rw [e]
    exact hcl
  refine .congr (f := fun k => (tree_Members.f k l).bind fun ms => if ms.length = 1 then some (([] : List S29), 40) else (tree_clean.f k (l.set (2 * i) z29) (i : Int)).bind fun t3 => tree_Remove.l0 k t3) (fun k => ?_) (hms.bind ?_)
  · unfold tree_Remove.f
    rw [hfb, Option.bind_some, if_pos rfl, copied_at k (by omega) h5, Option.bind_some, wrap_id (by omega), if_pos (by omega), if_pos (by omega), show (2 * (i : Int)).toNat = 2 * i by omega]
    rfl
  · rw [ints_len]
    simp only [if_neg hc]
    exact hcl2.bind (shrink m hm ht)
theorem remove_one {l : List S29} {m : Nat} {i : Int} (hm : m ≤ 5) (h : l.length = 2 * 2 ^ m - 1) (hc : fullB l (2 ^ m) i = true → (fullN l 0 (2 ^ m)).length = 1) : Evr (fun k => tree_Remove.f k l i) ([], 40) := by
  have hp := pow_le32 hm
  have hms := members_ev h hp.1 (by omega)
  by_cases c : fullB l (2 ^ m) i = true
  · refine .congr (f := fun k => (tree_Members.f k l).bind fun ms => if ms.length = 1 then some (([] : List S29), 40) else ((tree_copied.f k l).bind fun t2 => if 0 ≤ (wrap64 (2 * i)) then (if (wrap64 (2 * i)) < (t2.length : Int) then ((tree_clean.f k (t2.set ((wrap64 (2 * i)) : Int).toNat (⟨false, 0, 0, 0, 0, ([] : List Int)⟩ : S29)) i).bind fun t3 => tree_Remove.l0 k t3) else none) else none)) (fun k => ?_) (hms.bind ?_)
    · unfold tree_Remove.f
      rw [(full_same h hp.1 (by omega) _).2, c, Option.bind_some, if_pos rfl]
    · rw [ints_len]
      simp only [if_pos (hc c)]
      exact .const fun _ => rfl
  · refine .const fun k => ?_
    unfold tree_Remove.f
    rw [(full_same h hp.1 (by omega) _).2, Option.bind_some, if_neg c]
end Go.Proofs.YtbblomnhobodkaaDoor.Pure
