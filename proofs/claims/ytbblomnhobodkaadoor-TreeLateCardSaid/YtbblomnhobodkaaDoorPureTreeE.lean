/- What this claim reaches of a longer text of this session. -/
import Derived.Test.YtbblomnhobodkaaDoorPTwx18
import Derived.Test.YtbblomnhobodkaaDoorPTwx14
import Derived.Test.YtbblomnhobodkaaDoorPTwx32
import Derived.Test.YtbblomnhobodkaaDoorPTwx27
import Derived.Test.YtbblomnhobodkaaDoorPureTreeC
set_option linter.unusedVariables false
set_option linter.unusedSimpArgs false
namespace Go.Proofs.YtbblomnhobodkaaDoor.Pure
open Go.RowKit Go.Proofs.YtbblomnhobodkaaDoor Go.Proofs.YtbblomnhobodkaaDoor.PTw Go.Proofs.YtbblomnhobodkaaDoorW.PrintWords
theorem Evr.uniq {α : Type} {g : Nat → Option α} {a b : α} (h : Evr g a) (k : Evr g b) : a = b := by
  obtain ⟨K, hK⟩ := h
  obtain ⟨L, hL⟩ := k
  exact Option.some.inj ((hK (K + L) (by omega)).symm.trans (hL (K + L) (by omega)))
set_option maxRecDepth 100000 in
theorem und_fin : ∀ m : Fin 6, ∀ i : Fin 32, ∀ x : Fin 63, i.val < 2 ^ m.val → x.val < 2 * 2 ^ m.val - 1 → conclaveref03_Under.f 20 (2 * (i.val : Int)) (x.val : Int) ((2 ^ m.val : Nat) : Int) = some (decide (x.val ∈ pathN i.val m.val) || decide (x.val = 2 * i.val)) := by decide +kernel
theorem und_at {m i x : Nat} (hm : m ≤ 5) (hi : i < 2 ^ m) (hx : x < 2 * 2 ^ m - 1) : Evr (fun k => conclaveref03_Under.f k (2 * (i : Int)) (x : Int) ((2 ^ m : Nat) : Int)) (decide (x ∈ pathN i m) || decide (x = 2 * i)) := by
  have hp := pow_le32 hm
  exact .of_mono (K := 20) (fun k a h => conclaveref03_Under.mono _ _ _ k _ h) (und_fin ⟨m, by omega⟩ ⟨i, by omega⟩ ⟨x, by omega⟩ hi hx)
theorem above_l0 {m i : Nat} (hm : m ≤ 5) (hi : i < 2 ^ m) : ∀ (d j : Nat) (g : Nat → S29), d + j = 2 * 2 ^ m - 1 → Evr (fun k => conclaveref04_above.l0 k (i : Int) (mkT (2 * 2 ^ m - 1) g) ((2 ^ m : Nat) : Int) (j : Int)) (mkT (2 * 2 ^ m - 1) (fun x => if j ≤ x ∧ x ∈ pathN i m then z29 else g x)) := by
  have hp := pow_le32 hm
  have hok := pathN_ok hm hi
  intro d
  induction d with
  | zero =>
    intro j g hd
    refine .succ (f := fun _ => some (mkT (2 * 2 ^ m - 1) g)) (fun k => by rw [conclaveref04_above.l0, mkT_len, if_neg (by omega)]) (.const fun _ => ?_)
    congr 1
    refine mkT_congr fun x hx => ?_
    rw [if_neg (fun hh => by omega)]
  | succ d ih =>
    intro j g hd
    have hstep : ∀ (g' : Nat → S29), (∀ x, x ≠ j → g' x = g x) → (g' j = if j ∈ pathN i m then z29 else g j) → mkT (2 * 2 ^ m - 1) (fun x => if j + 1 ≤ x ∧ x ∈ pathN i m then z29 else g' x) = mkT (2 * 2 ^ m - 1) (fun x => if j ≤ x ∧ x ∈ pathN i m then z29 else g x) := fun g' h1 h2 => mkT_congr fun x _ => by
      by_cases c : x = j
      · subst c
        rw [if_neg (fun hh => by omega), h2]
        by_cases c2 : x ∈ pathN i m
        · rw [if_pos c2, if_pos ⟨Nat.le_refl _, c2⟩]
        · rw [if_neg c2, if_neg (fun hh => c2 hh.2)]
      · rw [h1 x c]
        by_cases c2 : j ≤ x ∧ x ∈ pathN i m
        · rw [if_pos c2, if_pos ⟨by omega, c2.2⟩]
        · rw [if_neg c2, if_neg (fun hh => c2 ⟨by omega, hh.2⟩)]
    by_cases c : j = 2 * i
    · have hn : j ∉ pathN i m := fun hh => by have := (hok.2 _ hh).1; omega
      rw [← hstep g (fun _ _ => rfl) (by rw [if_neg hn])]
      refine .succ (fun k => ?_) (ih (j + 1) g (by omega))
      rw [conclaveref04_above.l0, mkT_len, if_pos (by omega), wrap_id (a := 2 * (i : Int)) (by omega), if_pos (by omega), wrap_id (by omega), show (j : Int) + 1 = ((j + 1 : Nat) : Int) by omega]
    · have hu := und_at hm hi (x := j) (by omega)
      have hop : ∀ k, conclaveref04_above.l0 (k + 1) (i : Int) (mkT (2 * 2 ^ m - 1) g) ((2 ^ m : Nat) : Int) (j : Int) = (conclaveref03_Under.f k (2 * (i : Int)) (j : Int) ((2 ^ m : Nat) : Int)).bind fun t => if t = true then conclaveref04_above.l0 k (i : Int) (mkT (2 * 2 ^ m - 1) (fun x => if x = j then z29 else g x)) ((2 ^ m : Nat) : Int) ((j + 1 : Nat) : Int) else conclaveref04_above.l0 k (i : Int) (mkT (2 * 2 ^ m - 1) g) ((2 ^ m : Nat) : Int) ((j + 1 : Nat) : Int) := fun k => by
        rw [conclaveref04_above.l0, mkT_len, if_pos (by omega), wrap_id (a := 2 * (i : Int)) (by omega), if_neg (by omega), wrap_id (a := (j : Int) + 1) (by omega), show (j : Int) + 1 = ((j + 1 : Nat) : Int) by omega, if_pos (by omega), Int.toNat_natCast, ← mkT_set]
        rfl
      refine .succ hop (hu.bind ?_)
      rw [decide_eq_false c, Bool.or_false]
      by_cases c2 : j ∈ pathN i m
      · simp only [decide_eq_true c2, if_true]
        rw [← hstep (fun x => if x = j then z29 else g x) (fun x hx => by rw [if_neg hx]) (by rw [if_pos rfl, if_pos c2])]
        exact ih (j + 1) _ (by omega)
      · simp only [decide_eq_false c2, Bool.false_eq_true, if_false]
        rw [← hstep g (fun _ _ => rfl) (by rw [if_neg c2])]
        exact ih (j + 1) _ (by omega)
def abvG (l : List S29) (i m : Nat) : Nat → S29 := fun x => if x ∈ pathN i m then z29 else VX l x
theorem above_ev {l : List S29} {m i : Nat} (hm : m ≤ 5) (h : l.length = 2 * 2 ^ m - 1) (hi : i < 2 ^ m) (h5 : ∀ v ∈ l, v.f5.length < 17592186044416) : Evr (fun k => conclaveref04_above.f k l (i : Int)) (mkT (2 * 2 ^ m - 1) (abvG l i m)) := by
  have hp := pow_le32 hm
  have h0 := above_l0 hm hi (2 * 2 ^ m - 1) 0 (VX l) (by omega)
  have e : mkT (2 * 2 ^ m - 1) (fun x => if 0 ≤ x ∧ x ∈ pathN i m then z29 else VX l x) = mkT (2 * 2 ^ m - 1) (abvG l i m) := mkT_congr fun x _ => by
    unfold abvG
    by_cases c : x ∈ pathN i m
    · rw [if_pos ⟨Nat.zero_le _, c⟩, if_pos c]
    · rw [if_neg (fun hh => c hh.2), if_neg c]
  rw [e, ← h, ← mkT_self l] at h0
  have hc := copy_ev (l := l) (by omega) h5
  refine .congr (f := fun k => (conclaveref04_Copy.f k l).bind fun t => conclaveref04_above.l0 k (i : Int) t ((2 ^ m : Nat) : Int) 0) (fun k => ?_) (hc.bind ?_)
  · unfold conclaveref04_above.f
    congr 1
    funext t
    rw [(leaves_at h hp.1 (by omega)).1, Option.bind_some]
  · rw [h] at h0
    exact h0
def updL (l : List S29) (i m : Nat) (leaf : S29) : List S29 := mkT (2 * 2 ^ m - 1) (fun x => if x ∈ pathN i m then z29 else if x = 2 * i then leaf else VX l x)
theorem full_at {l : List S29} {m : Nat} (hm : m ≤ 5) (h : l.length = 2 * 2 ^ m - 1) {i : Nat} (hi : i < 2 ^ m) : fullB l (2 ^ m) (i : Int) = (VX l (2 * i)).f0 := by
  unfold fullB
  rw [decide_eq_true (by omega), decide_eq_true (by omega), Bool.true_and, Bool.true_and]
  rfl
theorem tupdate_ev {l : List S29} {m i : Nat} (hm : m ≤ 5) (h : l.length = 2 * 2 ^ m - 1) (hl : LateOk l) (hi : i < 2 ^ m) (hf : (VX l (2 * i)).f0 = true) (f0 : Bool) (f1 f2 f3 f4 : Int) (l5 : List Int) : Evr (fun k => tree_Update.f k l (i : Int) f0 f1 f2 f3 f4 l5) (updL l i m ⟨true, f1, f2, f3, f4, []⟩, 0) := by
  have hp := pow_le32 hm
  have h5 : ∀ v ∈ l, v.f5.length < 17592186044416 := fun v hv => by have := hl.len v hv; omega
  have hcl := clean_ev hm hi (fun x => if x = 2 * i then (⟨true, f1, f2, f3, f4, []⟩ : S29) else VX l x)
  have e : l.set (2 * i) (⟨true, f1, f2, f3, f4, []⟩ : S29) = mkT (2 * 2 ^ m - 1) (fun x => if x = 2 * i then (⟨true, f1, f2, f3, f4, []⟩ : S29) else VX l x) := by
    conv => lhs; rw [mkT_self l]
    rw [mkT_set, h]
  rw [← e] at hcl
  refine .congr (f := fun k => (tree_clean.f k (l.set (2 * i) (⟨true, f1, f2, f3, f4, []⟩ : S29)) (i : Int)).bind fun t3 => some (t3, 0)) (fun k => ?_) (hcl.bind (.const fun _ => rfl))
  unfold tree_Update.f
  rw [(full_same h hp.1 (by omega) _).2, full_at hm h hi, hf, Option.bind_some, if_pos rfl, copied_at k (by omega) h5, Option.bind_some, wrap_id (by omega), if_pos (by omega), if_pos (by omega), show (2 * (i : Int)).toNat = 2 * i by omega]
theorem rupdate_ev {l : List S29} {m i : Nat} (hm : m ≤ 5) (h : l.length = 2 * 2 ^ m - 1) (hl : LateOk l) (hi : i < 2 ^ m) (hf : (VX l (2 * i)).f0 = true) (f0 : Bool) (f1 f2 f3 f4 : Int) (l5 : List Int) : Evr (fun k => conclaveref04_Update.f k l (i : Int) f0 f1 f2 f3 f4 l5) (updL l i m ⟨true, f1, f2, f3, f4, []⟩, 0) := by
  have hp := pow_le32 hm
  have h5 : ∀ v ∈ l, v.f5.length < 17592186044416 := fun v hv => by have := hl.len v hv; omega
  have hlo : conclaveref04_Leaf.f f0 f1 f2 f3 f4 l5 = some (true, f1, f2, f3, f4, []) := rfl
  refine .congr (f := fun k => (conclaveref04_above.f k l (i : Int)).bind fun t => if 2 * (i : Int) < (t.length : Int) then some (t.set (2 * i) (⟨true, f1, f2, f3, f4, []⟩ : S29), 0) else none) (fun k => ?_) ((above_ev hm h hi h5).bind (.const fun _ => ?_))
  · unfold conclaveref04_Update.f
    rw [(full_same h hp.1 (by omega) _).1, full_at hm h hi, hf, Option.bind_some, if_pos rfl]
    congr 1
    funext t
    rw [hlo, Option.bind_some, wrap_id (by omega), if_pos (by omega), show (2 * (i : Int)).toNat = 2 * i by omega]
  · rw [mkT_len, if_pos (by omega), mkT_set]
    congr 2
    refine mkT_congr fun x _ => ?_
    unfold abvG
    by_cases c : x = 2 * i
    · have hn : x ∉ pathN i m := fun hh => by have := ((pathN_ok hm hi).2 _ hh).1; omega
      rw [if_pos c, if_neg hn, if_pos c]
    · rw [if_neg c, if_neg c]
theorem update_none {l : List S29} {m : Nat} {i : Int} (hm : m ≤ 5) (h : l.length = 2 * 2 ^ m - 1) (hf : fullB l (2 ^ m) i = false) (f0 : Bool) (f1 f2 f3 f4 : Int) (l5 : List Int) : Evr (fun k => tree_Update.f k l i f0 f1 f2 f3 f4 l5) ([], 40) ∧ Evr (fun k => conclaveref04_Update.f k l i f0 f1 f2 f3 f4 l5) ([], 40) := by
  have hp := pow_le32 hm
  refine ⟨.const fun k => ?_, .const fun k => ?_⟩
  · unfold tree_Update.f
    rw [(full_same h hp.1 (by omega) _).2, hf, Option.bind_some, if_neg (by decide)]
  · unfold conclaveref04_Update.f
    rw [(full_same h hp.1 (by omega) _).1, hf, Option.bind_some, if_neg (by decide)]
end Go.Proofs.YtbblomnhobodkaaDoor.Pure
