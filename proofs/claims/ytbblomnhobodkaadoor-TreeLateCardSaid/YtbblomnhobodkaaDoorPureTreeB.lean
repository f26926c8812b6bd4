/- What this claim reaches of a longer text of this session. -/
import Derived.Test.YtbblomnhobodkaaDoorPTwx5
import Derived.Test.YtbblomnhobodkaaDoorPureTreeA
set_option linter.unusedVariables false
set_option linter.unusedSimpArgs false
namespace Go.Proofs.YtbblomnhobodkaaDoor.Pure
open Go.RowKit Go.Proofs.YtbblomnhobodkaaDoor Go.Proofs.YtbblomnhobodkaaDoor.PTw Go.Proofs.YtbblomnhobodkaaDoorW.PrintWords
theorem add_j3_open {N m i : Nat} (hm : m ≤ 5) (hi : i < 2 ^ m) (hN : N = 2 * 2 ^ m - 1) (g : Nat → S29) (f0 : Bool) (f1 f2 f3 f4 : Int) (l5 : List Int) (k : Nat) :
    tree_Add.j3 (k + 1) ((2 ^ m : Nat) : Int) (i : Int) (mkT N g) f0 f1 f2 f3 f4 l5 = tree_Add.l1 k (i : Int) (mkT N (fun x => if x = 2 * i then ⟨true, f1, f2, f3, f4, []⟩ else g x)) (ints (pathN i m)) ((ints (pathN i m)).length : Int) 0 := by
  have hp := pow_le32 hm
  have hpa := path_at hm hi
  generalize 2 ^ m = n at *
  rw [tree_Add.j3]
  have hlo : tree_leafOf.f f0 f1 f2 f3 f4 l5 = some (true, f1, f2, f3, f4, []) := rfl
  rw [hlo, Option.bind_some, wrap_id (by omega), if_pos (by omega), mkT_len, if_pos (by omega), hpa, Option.bind_some, show (2 * (i : Int)).toNat = 2 * i by omega, mkT_set]
theorem add_j3 {N m i : Nat} (hm : m ≤ 5) (hi : i < 2 ^ m) (hN : N = 2 * 2 ^ m - 1) (g : Nat → S29) (hg : ∀ x, (g x).f5.length ≤ 1000 ∧ ((g x).f0 = true → (g x).f5.Pairwise (· ≤ ·))) (f0 : Bool) (f1 f2 f3 f4 : Int) (l5 : List Int) :
    Evr (fun k => tree_Add.j3 k ((2 ^ m : Nat) : Int) (i : Int) (mkT N g) f0 f1 f2 f3 f4 l5) (mkT N (fun x => if x ∈ pathN i m ∧ (g x).f0 = true then lateIn (g x) i else if x = 2 * i then ⟨true, f1, f2, f3, f4, []⟩ else g x), (i : Int), 0) := by
  have hok := pathN_ok hm hi
  have hpl : (pathN i m).length ≤ 1000 := by simp [pathN]; omega
  have hop := add_j3_open hm hi hN g f0 f1 f2 f3 f4 l5
  generalize pathN i m = P at *
  generalize ((2 ^ m : Nat) : Int) = n at *
  have h := add_l1 P N (fun x hx => by have := (hok.2 x hx).2; omega) hok.1 hpl (i : Int) P.length 0 (fun x => if x = 2 * i then ⟨true, f1, f2, f3, f4, []⟩ else g x) (by omega) (fun x hx => by
    have h2 := (hok.2 x hx).1
    have : x ≠ 2 * i := by omega
    simp only [this, if_false]
    exact fun hf => ⟨(hg x).2 hf, (hg x).1⟩)
  refine .succ hop ?_
  have e : (mkT N fun x => if x ∈ P ∧ (g x).f0 = true then lateIn (g x) i else if x = 2 * i then ⟨true, f1, f2, f3, f4, []⟩ else g x) = mkT N (fun x => if x ∈ P.drop 0 ∧ (if x = 2 * i then (⟨true, f1, f2, f3, f4, []⟩ : S29) else g x).f0 = true then lateIn (if x = 2 * i then (⟨true, f1, f2, f3, f4, []⟩ : S29) else g x) i else if x = 2 * i then ⟨true, f1, f2, f3, f4, []⟩ else g x) := mkT_congr fun x _ => by
    rw [List.drop_zero]
    by_cases c : x = 2 * i
    · have hn : x ∉ P := fun hx => by have := (hok.2 x hx).1; omega
      rw [if_neg (fun hh => hn hh.1), if_pos c, if_neg (fun hh => hn hh.1)]
    · simp only [if_neg c]
  rw [e]
  exact h
theorem add_l0 {l : List S29} {n : Nat} (h : l.length = 2 * n - 1) (hn : 1 ≤ n) (hn2 : n ≤ 32) (f0 : Bool) (f1 f2 f3 f4 : Int) (l5 : List Int) {i : Nat} (hi : i ≤ n) (hfull : ∀ j, j < i → (VX l (2 * j)).f0 = true) (hfree : i < n → (VX l (2 * i)).f0 = false) {r : List S29 × Int × Int} (hr : Evr (fun k => tree_Add.j1 k l (n : Int) (i : Int) f0 f1 f2 f3 f4 l5) r) : ∀ (d j : Nat), d + j = i → Evr (fun k => tree_Add.l0 k l (n : Int) (j : Int) f0 f1 f2 f3 f4 l5) r := by
  intro d
  induction d with
  | zero =>
    intro j hd
    have : j = i := by omega
    subst this
    refine .succ (f := fun k => tree_Add.j1 k l (n : Int) (j : Int) f0 f1 f2 f3 f4 l5) (fun k => ?_) hr
    rw [tree_Add.l0]
    by_cases c : j < n
    · have e := hfree c
      rw [if_pos (by omega), wrap_id (by omega), if_pos (by omega), if_pos (by omega)]
      have e' : (rd_T29 l (2 * (j : Int))).f0 = false := e
      rw [e']
      rfl
    · rw [if_neg (by omega)]
  | succ d ih =>
    intro j hd
    refine .succ (fun k => ?_) (ih (j + 1) (by omega))
    have e' : (rd_T29 l (2 * (j : Int))).f0 = true := hfull j (by omega)
    rw [tree_Add.l0, if_pos (by omega), wrap_id (a := 2 * (j : Int)) (by omega), if_pos (by omega), if_pos (by omega), e', if_pos rfl, wrap_id (by omega), show (j : Int) + 1 = ((j + 1 : Nat) : Int) by omega]
theorem add_ev {l : List S29} {m m' i : Nat} (hm : m ≤ 5) (h : l.length = 2 * 2 ^ m - 1) (hl : LateOk l) (hi : i ≤ 2 ^ m) (hfull : ∀ j, j < i → (VX l (2 * j)).f0 = true) (hfree : i < 2 ^ m → (VX l (2 * i)).f0 = false) (hm' : (i < 2 ^ m ∧ m' = m) ∨ (i = 2 ^ m ∧ m' = m + 1 ∧ m' ≤ 5)) (f0 : Bool) (f1 f2 f3 f4 : Int) (l5 : List Int) :
    Evr (fun k => tree_Add.f k l f0 f1 f2 f3 f4 l5) (addL l i m' ⟨true, f1, f2, f3, f4, []⟩, (i : Int), 0) := by
  have hp := pow_le32 hm
  have hg := hl.at
  have h5 : ∀ v ∈ l, v.f5.length < 17592186044416 := fun v hv => by have := hl.len v hv; omega
  refine .congr (f := fun k => tree_Add.l0 k l ((2 ^ m : Nat) : Int) 0 f0 f1 f2 f3 f4 l5) (fun k => by unfold tree_Add.f; rw [(leaves_at h hp.1 (by omega)).2, Option.bind_some]) ?_
  refine add_l0 h hp.1 hp.2 f0 f1 f2 f3 f4 l5 hi hfull hfree ?_ i 0 (by omega)
  rcases hm' with ⟨hlt, rfl⟩ | ⟨rfl, rfl, hm5⟩
  · refine .succ (f := fun k => tree_Add.j2 k l ((2 ^ m' : Nat) : Int) (i : Int) false f0 f1 f2 f3 f4 l5) (fun k => ?_) (.succ (f := fun k => tree_Add.j3 k ((2 ^ m' : Nat) : Int) (i : Int) l f0 f1 f2 f3 f4 l5) (fun k => ?_) ?_)
    · rw [tree_Add.j1, if_neg (by omega)]
    · rw [tree_Add.j2, if_neg (by decide), copied_at k (by omega) h5, Option.bind_some, if_neg (by omega)]
    · have := add_j3 (N := l.length) hm hlt h (VX l) hg f0 f1 f2 f3 f4 l5
      rw [← mkT_self l, h] at this
      exact this
  · refine .succ (f := fun k => tree_Add.j2 k l ((2 ^ m : Nat) : Int) ((2 ^ m : Nat) : Int) false f0 f1 f2 f3 f4 l5) (fun k => ?_) (.succ (f := fun k => tree_Add.j3 k ((2 ^ (m + 1) : Nat) : Int) ((2 ^ m : Nat) : Int) (mkT (2 * 2 ^ (m + 1) - 1) (VX l)) f0 f1 f2 f3 f4 l5) (fun k => ?_) ?_)
    · have h16 : 2 ^ m ≤ 16 := Nat.le_trans (Nat.pow_le_pow_right (by decide) (show m ≤ 4 by omega)) (by decide)
      rw [tree_Add.j1, if_pos rfl, decide_eq_false (by omega)]
    · have h16 : 2 ^ m ≤ 16 := Nat.le_trans (Nat.pow_le_pow_right (by decide) (show m ≤ 4 by omega)) (by decide)
      rw [tree_Add.j2, if_neg (by decide), copied_at k (by omega) h5, Option.bind_some, if_pos rfl, wrap_id (by omega), if_pos (by omega), if_pos (by omega), wrap_id (by omega)]
      have e1 : l ++ List.replicate (2 * ((2 ^ m : Nat) : Int)).toNat z29 = mkT (2 * 2 ^ (m + 1) - 1) (VX l) := by
        conv => lhs; rw [mkT_self l]
        rw [mkT_app (fun x hx => VX_out hx)]
        congr 1
        rw [h, Nat.pow_succ]
        omega
      rw [e1, show ((2 ^ m : Nat) : Int) * 2 = ((2 ^ (m + 1) : Nat) : Int) by rw [Nat.pow_succ]; omega]
    · exact add_j3 hm5 (by rw [Nat.pow_succ]; omega) rfl (VX l) hg f0 f1 f2 f3 f4 l5
theorem add_none {l : List S29} (h : l.length = 63) (hfull : ∀ j, j < 32 → (VX l (2 * j)).f0 = true) (f0 : Bool) (f1 f2 f3 f4 : Int) (l5 : List Int) : Evr (fun k => tree_Add.f k l f0 f1 f2 f3 f4 l5) ([], 0, 41) := by
  refine .congr (f := fun k => tree_Add.l0 k l 32 0 f0 f1 f2 f3 f4 l5) (fun k => by unfold tree_Add.f; rw [(leaves_at (n := 32) (by omega) (by omega) (by omega)).2, Option.bind_some]; rfl) ?_
  refine add_l0 (n := 32) (i := 32) (by omega) (by omega) (by omega) f0 f1 f2 f3 f4 l5 (by omega) hfull (by omega) ?_ 32 0 (by omega)
  refine .succ (f := fun k => tree_Add.j2 k l 32 32 true f0 f1 f2 f3 f4 l5) (fun k => ?_) (.succ (f := fun _ => some (([] : List S29), 0, 41)) (fun k => ?_) (.const fun _ => rfl))
  · rw [tree_Add.j1]; rfl
  · rw [tree_Add.j2, if_pos rfl]
end Go.Proofs.YtbblomnhobodkaaDoor.Pure
