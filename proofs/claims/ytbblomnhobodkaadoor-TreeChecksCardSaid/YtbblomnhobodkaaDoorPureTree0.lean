/- Trees, plainly: with enough rounds; the document's places and the program's. -/
import Derived.Test.YtbblomnhobodkaaDoorPTvx10
import Derived.Test.YtbblomnhobodkaaDoorPTvx3
import Derived.Test.YtbblomnhobodkaaDoorPTvx7
import Derived.Test.YtbblomnhobodkaaDoorPTvx11
import Derived.DataShut
set_option linter.unusedVariables false
set_option linter.unusedSimpArgs false
namespace Go.Proofs.YtbblomnhobodkaaDoor.Pure
open Go.RowKit Go.Proofs.YtbblomnhobodkaaDoor Go.Proofs.YtbblomnhobodkaaDoor.PTv Go.Proofs.YtbblomnhobodkaaDoorW.PrintWords

/-- With enough rounds g answers r. -/
def Evr {α : Type} (g : Nat → Option α) (r : α) : Prop := ∃ K, ∀ k, K ≤ k → g k = some r
theorem Evr.const {α : Type} {g : Nat → Option α} {r : α} (h : ∀ k, g k = some r) : Evr g r := ⟨0, fun k _ => h k⟩
theorem Evr.succ {α : Type} {g f : Nat → Option α} {r : α} (h : ∀ k, g (k + 1) = f k) (hf : Evr f r) : Evr g r := by
  obtain ⟨K, hK⟩ := hf
  refine ⟨K + 1, fun k hk => ?_⟩
  obtain ⟨k, rfl⟩ : ∃ q, k = q + 1 := ⟨k - 1, by omega⟩
  rw [h k]
  exact hK k (by omega)
theorem Evr.bind {α β : Type} {g : Nat → Option α} {f : Nat → α → Option β} {a : α} {r : β} (h : Evr g a) (hf : Evr (fun k => f k a) r) : Evr (fun k => (g k).bind (f k)) r := by
  obtain ⟨K, hK⟩ := h
  obtain ⟨L, hL⟩ := hf
  exact ⟨K + L, fun k hk => by show (g k).bind (f k) = some r; rw [hK k (by omega), Option.bind_some]; exact hL k (by omega)⟩
theorem Evr.of_mono {α : Type} {g : Nat → Option α} {r : α} (hm : ∀ k a, g k = some a → g (k + 1) = some a) {K : Nat} (h : g K = some r) : Evr g r := by
  refine ⟨K, fun k hk => ?_⟩
  obtain ⟨d, rfl⟩ := Nat.exists_eq_add_of_le hk
  clear hk
  induction d with
  | zero => exact h
  | succ d ih => exact hm _ _ ih
theorem Evr.congr {α : Type} {f g : Nat → Option α} {r : α} (h : ∀ k, g k = f k) (hf : Evr f r) : Evr g r := by
  obtain ⟨K, hK⟩ := hf
  exact ⟨K, fun k hk => (h k).trans (hK k hk)⟩

abbrev VX (l : List S29) (x : Nat) : S29 := rd_T29 l (x : Int)
theorem wrap_id {a : Int} (h : -9223372036854775808 ≤ a ∧ a ≤ 9223372036854775807) : wrap64 a = a := by unfold wrap64; omega

/-- The least powers of two. -/
def pow2s : List Nat := [1, 2, 4, 8, 16, 32]
theorem right_same (n : Nat) (hn : n ≤ 200) : heap_Right.f (n : Int) = some (pow2s.contains n) ∧ conclaveref03_Right.f (n : Int) = some (pow2s.contains n) := by
  have : ∀ n : Fin 201, heap_Right.f (n.val : Int) = some (pow2s.contains n.val) ∧ conclaveref03_Right.f (n.val : Int) = some (pow2s.contains n.val) := by decide +kernel
  exact this ⟨n, by omega⟩
theorem pow2s_le {n : Nat} (h : pow2s.contains n = true) : 1 ≤ n ∧ n ≤ 32 := by
  have h' : n ∈ pow2s := by simpa using h
  simp only [pow2s, List.mem_cons, List.mem_nil_iff, or_false] at h'
  omega
set_option maxRecDepth 100000 in
theorem under_fin : ∀ m : Fin 6, ∀ x : Fin 63, ∀ y : Fin 63, ∃ b, heap_Under.f 20 (y.val : Int) (x.val : Int) ((2 ^ m.val : Nat) : Int) = some b ∧ conclaveref03_Under.f 20 (y.val : Int) (x.val : Int) ((2 ^ m.val : Nat) : Int) = some b := by
  have : ∀ m : Fin 6, ∀ x : Fin 63, ∀ y : Fin 63, heap_Under.f 20 (y.val : Int) (x.val : Int) ((2 ^ m.val : Nat) : Int) = conclaveref03_Under.f 20 (y.val : Int) (x.val : Int) ((2 ^ m.val : Nat) : Int) ∧ (conclaveref03_Under.f 20 (y.val : Int) (x.val : Int) ((2 ^ m.val : Nat) : Int)).isSome = true := by decide +kernel
  intro m x y
  obtain ⟨h1, h2⟩ := this m x y
  obtain ⟨b, hb⟩ := Option.isSome_iff_exists.1 h2
  exact ⟨b, h1.trans hb, hb⟩
theorem pow2s_form {n : Nat} (h : pow2s.contains n = true) : ∃ m : Fin 6, n = 2 ^ m.val := by
  have h' : n ∈ pow2s := by simpa using h
  simp only [pow2s, List.mem_cons, List.mem_nil_iff, or_false] at h'
  rcases h' with h | h | h | h | h | h
  · exact ⟨⟨0, by omega⟩, h⟩
  · exact ⟨⟨1, by omega⟩, h⟩
  · exact ⟨⟨2, by omega⟩, h⟩
  · exact ⟨⟨3, by omega⟩, h⟩
  · exact ⟨⟨4, by omega⟩, h⟩
  · exact ⟨⟨5, by omega⟩, h⟩
/-- What is below what: the program's answer and the document's. -/
theorem under_same {n x y : Nat} (hn : pow2s.contains n = true) (hx : x < 63) (hy : y < 63) : ∃ b, Evr (fun k => heap_Under.f k (y : Int) (x : Int) (n : Int)) b ∧ Evr (fun k => conclaveref03_Under.f k (y : Int) (x : Int) (n : Int)) b := by
  obtain ⟨m, rfl⟩ := pow2s_form hn
  obtain ⟨b, h1, h2⟩ := under_fin m ⟨x, hx⟩ ⟨y, hy⟩
  exact ⟨b, .of_mono (K := 20) (fun k a h => heap_Under.mono _ _ _ k _ h) h1, .of_mono (K := 20) (fun k a h => conclaveref03_Under.mono _ _ _ k _ h) h2⟩
theorem leaves_at {l : List S29} {n : Nat} (h : l.length = 2 * n - 1) (hn : 1 ≤ n) (hn2 : n ≤ 1000) : conclaveref04_Leaves.f l = some (n : Int) ∧ tree_Leaves.f l = some (n : Int) := by
  unfold conclaveref04_Leaves.f tree_Leaves.f
  rw [wrap_id (a := (l.length : Int) + 1) (by omega), Int.tdiv_eq_ediv_of_nonneg (by omega), wrap_id (by omega)]
  have : ((l.length : Int) + 1) / 2 = (n : Int) := by omega
  rw [this]
  exact ⟨rfl, rfl⟩
/-- Is the leaf full: both. -/
def fullB (l : List S29) (n : Nat) (i : Int) : Bool := decide (0 ≤ i) && decide (i < (n : Int)) && (rd_T29 l (2 * i)).f0
theorem full_same {l : List S29} {n : Nat} (h : l.length = 2 * n - 1) (hn : 1 ≤ n) (hn2 : n ≤ 1000) (i : Int) : conclaveref04_Full.f l i = some (fullB l n i) ∧ tree_full.f l i = some (fullB l n i) := by
  unfold conclaveref04_Full.f tree_full.f fullB
  rw [(leaves_at h hn hn2).1, (leaves_at h hn hn2).2]
  by_cases h1 : i ≥ 0
  · simp only [if_pos h1, Option.bind_some, decide_eq_true (show 0 ≤ i by omega), Bool.true_and]
    by_cases h2 : i < (n : Int)
    · simp only [if_pos h2, decide_eq_true h2, Bool.true_and]
      rw [wrap_id (by omega)]
      simp only [if_pos (show 0 ≤ 2 * i by omega), if_pos (show 2 * i < (l.length : Int) by omega), and_self]
    · simp only [if_neg h2, decide_eq_false h2, Bool.false_and, and_self]
  · simp only [if_neg h1, decide_eq_false (show ¬ 0 ≤ i by omega), Bool.false_and, and_self]
theorem fullB_lt {l : List S29} {n : Nat} {i : Int} (h : fullB l n i = true) : 0 ≤ i ∧ i < n := by
  unfold fullB at h
  simp only [Bool.and_eq_true, decide_eq_true_eq] at h
  exact ⟨h.1.1, h.1.2⟩
theorem ints_l0 (l m : List Int) (he : l.length = m.length) (hl : l.length ≤ 100000000000000000) : ∀ (n k i : Nat), n + i = l.length → n < k → conclaveref01_Ints.l0 k l m (i : Int) = some (decide (l.drop i = m.drop i))
  | 0, k + 1, i, hn, hk => by
    rw [conclaveref01_Ints.l0, if_neg (by omega), List.drop_eq_nil_of_le (by omega), List.drop_eq_nil_of_le (by omega)]
    rfl
  | n + 1, k + 1, i, hn, hk => by
    rw [conclaveref01_Ints.l0, if_pos (by omega), if_pos (by omega), if_pos (by omega)]
    have e1 : rd l (i : Int) = l[i]'(by omega) := by simp [rd, List.getD_eq_getElem?_getD, List.getElem?_eq_getElem (show i < l.length by omega)]
    have e2 : rd m (i : Int) = m[i]'(by omega) := by simp [rd, List.getD_eq_getElem?_getD, List.getElem?_eq_getElem (show i < m.length by omega)]
    have d1 : l.drop i = l[i]'(by omega) :: l.drop (i + 1) := List.drop_eq_getElem_cons (by omega)
    have d2 : m.drop i = m[i]'(by omega) :: m.drop (i + 1) := List.drop_eq_getElem_cons (by omega)
    rw [d1, d2, e1, e2]
    by_cases c : l[i]'(by omega) = m[i]'(by omega)
    · rw [if_pos c, wrap_id (by omega), show (i : Int) + 1 = ((i + 1 : Nat) : Int) by omega, ints_l0 l m he hl n k (i + 1) (by omega) (by omega)]
      congr 1
      rw [decide_eq_decide, c, List.cons.injEq]
      exact ⟨fun h => ⟨rfl, h⟩, fun h => h.2⟩
    · rw [if_neg c]
      congr 1
      exact (decide_eq_false fun h => c (List.cons.inj h).1).symm
theorem ints_ev (l m : List Int) (hl : l.length ≤ 100000000000000000) : Evr (fun k => conclaveref01_Ints.f k l m) (decide (l = m)) := by
  refine ⟨l.length + 1, fun k hk => ?_⟩
  show conclaveref01_Ints.f k l m = _
  unfold conclaveref01_Ints.f
  by_cases he : l.length = m.length
  · rw [if_pos (by omega)]
    have := ints_l0 l m he hl l.length k 0 (by omega) (by omega)
    simpa using this
  · rw [if_neg (by omega), decide_eq_false (fun e => he (by rw [e]))]
theorem VX_at {l : List S29} {i : Nat} (h : i < l.length) : VX l i = l[i] := by
  show rd_T29 l (i : Int) = _
  unfold rd_T29
  rw [Int.toNat_natCast, List.getD_eq_getElem?_getD, List.getElem?_eq_getElem h]; rfl
/-- One list of vertices is the same as itself. -/
theorem same_refl {l : List S29} (hl : l.length ≤ 1000) (h5 : ∀ v ∈ l, v.f5.length ≤ 100000000000000000) : Evr (fun k => conclaveref04_Same.f k l l) true := by
  have hl0 : ∀ (d i : Nat), d + i = l.length → Evr (fun k => conclaveref04_Same.l0 k l l (i : Int)) true := by
    intro d
    induction d with
    | zero => exact fun i hd => .succ (f := fun _ => some true) (fun k => by rw [conclaveref04_Same.l0, if_neg (by omega)]) (.const fun _ => rfl)
    | succ d ih =>
      intro i hd
      have hn := ih (i + 1) (by omega)
      have hi := ints_ev (VX l i).f5 (VX l i).f5 (by rw [VX_at (show i < l.length by omega)]; exact h5 _ (List.getElem_mem _))
      refine .succ (f := fun k => (conclaveref01_Ints.f k (VX l i).f5 (VX l i).f5).bind fun t => if t = true then conclaveref04_Same.l0 k l l ((i : Int) + 1) else some false) (fun k => ?_) (.bind hi ?_)
      · rw [conclaveref04_Same.l0, if_pos (by omega), if_pos (by omega), if_pos (by omega), if_neg (by simp), if_pos rfl, if_pos rfl, if_pos rfl, if_pos rfl, wrap_id (by omega)]
      · rw [decide_eq_true rfl]
        exact hn
  unfold conclaveref04_Same.f
  simp only [if_true]
  exact hl0 l.length 0 (by omega)
/-- A copy is what it was copied from. -/
theorem copy_ev {l : List S29} (hl : l.length ≤ 1000) (h5 : ∀ v ∈ l, v.f5.length < 17592186044416) : Evr (fun k => conclaveref04_Copy.f k l) l := by
  have hl0 : ∀ (d i : Nat), d + i = l.length → Evr (fun k => conclaveref04_Copy.l0 k l (l.take i) (i : Int)) l := by
    intro d
    induction d with
    | zero =>
      intro i hd
      refine .succ (f := fun _ => some l) (fun k => ?_) (.const fun _ => rfl)
      rw [conclaveref04_Copy.l0, if_neg (by omega), List.take_of_length_le (by omega)]
    | succ d ih =>
      intro i hd
      have hi : i < l.length := by omega
      have hn := ih (i + 1) (by omega)
      refine .succ (fun k => ?_) hn
      have e : rd_T29 l (i : Int) = l[i] := VX_at hi
      rw [conclaveref04_Copy.l0, if_pos (by omega), if_pos (by omega), Option.bind_some, e, if_pos (by have := h5 _ (List.getElem_mem hi); simpa using this), if_pos (by simp; omega), wrap_id (by omega), List.take_add_one, List.getElem?_eq_getElem hi]
      rfl
  exact hl0 l.length 0 (by omega)
end Go.Proofs.YtbblomnhobodkaaDoor.Pure
