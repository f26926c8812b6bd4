/- What this claim reaches of a longer text of this session. -/
import Derived.Test.YtbblomnhobodkaaDoorPTwx10
import Derived.Test.YtbblomnhobodkaaDoorPTwx3
import Derived.Test.YtbblomnhobodkaaDoorPTwx7
import Derived.Test.YtbblomnhobodkaaDoorPTwx11
import Derived.DataShut
set_option linter.unusedVariables false
set_option linter.unusedSimpArgs false
namespace Go.Proofs.YtbblomnhobodkaaDoor.Pure
open Go.RowKit Go.Proofs.YtbblomnhobodkaaDoor Go.Proofs.YtbblomnhobodkaaDoor.PTw Go.Proofs.YtbblomnhobodkaaDoorW.PrintWords
def Evr {α : Type} (g : Nat → Option α) (r : α) : Prop := ∃ K, ∀ k, K ≤ k → g k = some r
theorem Evr.const {α : Type} {g : Nat → Option α} {r : α} (h : ∀ k, g k = some r) : Evr g r := ⟨0, fun k _ => h k⟩
theorem Evr.succ {α : Type} {g f : Nat → Option α} {r : α} (h : ∀ k, g (k + 1) = f k) (hf : Evr f r) : Evr g r := by
  obtain ⟨K, hK⟩ := hf
  refine ⟨K + 1, fun k hk => ?_⟩
  obtain ⟨k, rfl⟩ : ∃ q, k = q + 1 := ⟨k - 1, by omega⟩
  rw [h k]
  exact hK k (by omega)
theorem Evr.bind {α β : Type} {g : Nat → Option α} {f : Nat → α → Option β} {a : α} {r : β} (h : Evr g a) (hf : Evr (fun k => f k a) r) : Evr (fun k => (g k).bind (f k)) r := by
  obtain ⟨K, hK⟩ := h
  obtain ⟨L, hL⟩ := hf
  exact ⟨K + L, fun k hk => by show (g k).bind (f k) = some r; rw [hK k (by omega), Option.bind_some]; exact hL k (by omega)⟩
theorem Evr.of_mono {α : Type} {g : Nat → Option α} {r : α} (hm : ∀ k a, g k = some a → g (k + 1) = some a) {K : Nat} (h : g K = some r) : Evr g r := by
  refine ⟨K, fun k hk => ?_⟩
  obtain ⟨d, rfl⟩ := Nat.exists_eq_add_of_le hk
  clear hk
  induction d with
  | zero => exact h
  | succ d ih => exact hm _ _ ih
theorem Evr.congr {α : Type} {f g : Nat → Option α} {r : α} (h : ∀ k, g k = f k) (hf : Evr f r) : Evr g r := by
  obtain ⟨K, hK⟩ := hf
  exact ⟨K, fun k hk => (h k).trans (hK k hk)⟩
abbrev VX (l : List S29) (x : Nat) : S29 := rd_T29 l (x : Int)
theorem wrap_id {a : Int} (h : -9223372036854775808 ≤ a ∧ a ≤ 9223372036854775807) : wrap64 a = a := by unfold wrap64; omega
theorem leaves_at {l : List S29} {n : Nat} (h : l.length = 2 * n - 1) (hn : 1 ≤ n) (hn2 : n ≤ 1000) : conclaveref04_Leaves.f l = some (n : Int) ∧ tree_Leaves.f l = some (n : Int) := by
  unfold conclaveref04_Leaves.f tree_Leaves.f
  rw [wrap_id (a := (l.length : Int) + 1) (by omega), Int.tdiv_eq_ediv_of_nonneg (by omega), wrap_id (by omega)]
  have : ((l.length : Int) + 1) / 2 = (n : Int) := by omega
  rw [this]
  exact ⟨rfl, rfl⟩
def fullB (l : List S29) (n : Nat) (i : Int) : Bool := decide (0 ≤ i) && decide (i < (n : Int)) && (rd_T29 l (2 * i)).f0
theorem full_same {l : List S29} {n : Nat} (h : l.length = 2 * n - 1) (hn : 1 ≤ n) (hn2 : n ≤ 1000) (i : Int) : conclaveref04_Full.f l i = some (fullB l n i) ∧ tree_full.f l i = some (fullB l n i) := by
  unfold conclaveref04_Full.f tree_full.f fullB
  rw [(leaves_at h hn hn2).1, (leaves_at h hn hn2).2]
  by_cases h1 : i ≥ 0
  · simp only [if_pos h1, Option.bind_some, decide_eq_true (show 0 ≤ i by omega), Bool.true_and]
    by_cases h2 : i < (n : Int)
    · simp only [if_pos h2, decide_eq_true h2, Bool.true_and]
      rw [wrap_id (by omega)]
      simp only [if_pos (show 0 ≤ 2 * i by omega), if_pos (show 2 * i < (l.length : Int) by omega), and_self]
    · simp only [if_neg h2, decide_eq_false h2, Bool.false_and, and_self]
  · simp only [if_neg h1, decide_eq_false (show ¬ 0 ≤ i by omega), Bool.false_and, and_self]
theorem fullB_lt {l : List S29} {n : Nat} {i : Int} (h : fullB l n i = true) : 0 ≤ i ∧ i < n := by
  unfold fullB at h
  simp only [Bool.and_eq_true, decide_eq_true_eq] at h
  exact ⟨h.1.1, h.1.2⟩
theorem VX_at {l : List S29} {i : Nat} (h : i < l.length) : VX l i = l[i] := by
  show rd_T29 l (i : Int) = _
  unfold rd_T29
  rw [Int.toNat_natCast, List.getD_eq_getElem?_getD, List.getElem?_eq_getElem h]; rfl
theorem copy_ev {l : List S29} (hl : l.length ≤ 1000) (h5 : ∀ v ∈ l, v.f5.length < 17592186044416) : Evr (fun k => conclaveref04_Copy.f k l) l := by
  have hl0 : ∀ (d i : Nat), d + i = l.length → Evr (fun k => conclaveref04_Copy.l0 k l (l.take i) (i : Int)) l := by
    intro d
    induction d with
    | zero =>
      intro i hd
      refine .succ (f := fun _ => some l) (fun k => ?_) (.const fun _ => rfl)
      rw [conclaveref04_Copy.l0, if_neg (by omega), List.take_of_length_le (by omega)]
    | succ d ih =>
      intro i hd
      have hi : i < l.length := by omega
      have hn := ih (i + 1) (by omega)
      refine .succ (fun k => ?_) hn
      have e : rd_T29 l (i : Int) = l[i] := VX_at hi
      rw [conclaveref04_Copy.l0, if_pos (by omega), if_pos (by omega), Option.bind_some, e, if_pos (by have := h5 _ (List.getElem_mem hi); simpa using this), if_pos (by simp; omega), wrap_id (by omega), List.take_add_one, List.getElem?_eq_getElem hi]
      rfl
  exact hl0 l.length 0 (by omega)
end Go.Proofs.YtbblomnhobodkaaDoor.Pure
