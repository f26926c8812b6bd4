/- What this claim reaches of a longer text of this session. -/
import Derived.Test.YtbblomnhobodkaaDoorPTwx30
import Derived.Test.YtbblomnhobodkaaDoorPTwx5
import Derived.Test.YtbblomnhobodkaaDoorPureTree0
set_option linter.unusedVariables false
set_option linter.unusedSimpArgs false
namespace Go.Proofs.YtbblomnhobodkaaDoor.Pure
open Go.RowKit Go.Proofs.YtbblomnhobodkaaDoor Go.Proofs.YtbblomnhobodkaaDoor.PTw Go.Proofs.YtbblomnhobodkaaDoorW.PrintWords
def mkT (N : Nat) (g : Nat → S29) : List S29 := (List.range N).map g
theorem mkT_len (N : Nat) (g : Nat → S29) : (mkT N g).length = N := by simp [mkT]
theorem mkT_get {N : Nat} {g : Nat → S29} {x : Nat} (h : x < N) : VX (mkT N g) x = g x := by
  rw [VX_at (by rw [mkT_len]; exact h)]
  simp [mkT]
theorem VX_out {l : List S29} {x : Nat} (h : l.length ≤ x) : VX l x = z29 := by
  show rd_T29 l (x : Int) = _
  unfold rd_T29
  rw [Int.toNat_natCast, List.getD_eq_getElem?_getD, List.getElem?_eq_none h]
  rfl
theorem mkT_self (l : List S29) : l = mkT l.length (VX l) := by
  refine List.ext_getElem (by rw [mkT_len]) fun i h1 h2 => ?_
  rw [← VX_at h1]
  simp [mkT]
theorem mkT_congr {N : Nat} {g g' : Nat → S29} (h : ∀ x, x < N → g x = g' x) : mkT N g = mkT N g' := by
  unfold mkT
  exact List.map_congr_left fun x hx => h x (List.mem_range.1 hx)
theorem mkT_set {N : Nat} {g : Nat → S29} {i : Nat} {v : S29} : (mkT N g).set i v = mkT N (fun x => if x = i then v else g x) := by
  refine List.ext_getElem (by simp [mkT_len]) fun x h1 h2 => ?_
  rw [List.getElem_set]
  simp only [mkT, List.getElem_map, List.getElem_range]
  by_cases c : i = x
  · rw [if_pos c, if_pos c.symm]
  · rw [if_neg c, if_neg (fun e => c e.symm)]
theorem mkT_app {N M : Nat} {g : Nat → S29} (h : ∀ x, N ≤ x → g x = z29) : mkT N g ++ List.replicate M z29 = mkT (N + M) g := by
  refine List.ext_getElem (by simp [mkT_len]) fun x h1 h2 => ?_
  rw [List.getElem_append]
  by_cases c : x < N
  · rw [dif_pos (by rw [mkT_len]; exact c)]
    simp [mkT]
  · rw [dif_neg (by rw [mkT_len]; exact c), List.getElem_replicate]
    simp only [mkT, List.getElem_map, List.getElem_range]
    exact (h x (by omega)).symm
theorem mkT_take {N M : Nat} {g : Nat → S29} (h : M ≤ N) : (mkT N g).take M = mkT M g := by
  refine List.ext_getElem (by simp [mkT_len]; omega) fun x h1 h2 => ?_
  rw [List.getElem_take]
  simp [mkT]
def pathN (i m : Nat) : List Nat := (List.range m).map fun k => i / 2 ^ (k + 1) * 2 ^ (k + 2) + 2 ^ (k + 1) - 1
def ints (l : List Nat) : List Int := l.map fun (x : Nat) => (x : Int)
theorem ints_len (l : List Nat) : (ints l).length = l.length := by simp [ints]
theorem ints_at {l : List Nat} {j : Nat} (h : j < l.length) : rd (ints l) (j : Int) = (l[j] : Int) := by
  simp [rd, ints, List.getD_eq_getElem?_getD, List.getElem?_eq_getElem h]
set_option maxRecDepth 100000 in
theorem path_fin : ∀ m : Fin 6, ∀ i : Fin 32, i.val < 2 ^ m.val → heap_Path.f (2 * (i.val : Int)) ((2 ^ m.val : Nat) : Int) = some (ints (pathN i.val m.val), 0) := by decide +kernel
theorem path_at {m i : Nat} (hm : m ≤ 5) (hi : i < 2 ^ m) : heap_Path.f (2 * (i : Int)) ((2 ^ m : Nat) : Int) = some (ints (pathN i m), 0) := by
  have h32 : i < 32 := Nat.lt_of_lt_of_le hi (Nat.le_trans (Nat.pow_le_pow_right (by decide) hm) (by decide))
  exact path_fin ⟨m, by omega⟩ ⟨i, h32⟩ hi
theorem pathN_fin : ∀ m : Fin 6, ∀ i : Fin 32, i.val < 2 ^ m.val → (pathN i.val m.val).Nodup ∧ ∀ x ∈ pathN i.val m.val, x % 2 = 1 ∧ x < 2 * 2 ^ m.val - 1 := by decide +kernel
theorem pathN_ok {m i : Nat} (hm : m ≤ 5) (hi : i < 2 ^ m) : (pathN i m).Nodup ∧ ∀ x ∈ pathN i m, x % 2 = 1 ∧ x < 2 * 2 ^ m - 1 := by
  have h32 : i < 32 := Nat.lt_of_lt_of_le hi (Nat.le_trans (Nat.pow_le_pow_right (by decide) hm) (by decide))
  exact pathN_fin ⟨m, by omega⟩ ⟨i, h32⟩ hi
theorem pow_le32 {m : Nat} (hm : m ≤ 5) : 1 ≤ 2 ^ m ∧ 2 ^ m ≤ 32 := ⟨Nat.one_le_two_pow, Nat.le_trans (Nat.pow_le_pow_right (by decide) hm) (by decide)⟩
theorem mem_cut {P : List Nat} {j x : Nat} (hj : j < P.length) : x ∈ P.drop j ↔ x = P[j] ∨ x ∈ P.drop (j + 1) := by
  rw [List.drop_eq_getElem_cons hj, List.mem_cons]
theorem clean_l0 (P : List Nat) (N : Nat) (hP : ∀ x ∈ P, x < N) (hl : P.length ≤ 1000) : ∀ (d j : Nat) (g : Nat → S29), d + j = P.length → Evr (fun k => tree_clean.l0 k (ints P) ((ints P).length : Int) (j : Int) (mkT N g)) (mkT N (fun x => if x ∈ P.drop j then z29 else g x)) := by
  intro d
  induction d with
  | zero =>
    intro j g hd
    refine .succ (f := fun _ => some (mkT N g)) (fun k => by rw [tree_clean.l0, ints_len, if_neg (by omega)]) (.const fun _ => ?_)
    rw [List.drop_eq_nil_of_le (by omega)]
    simp only [List.not_mem_nil, if_false]
  | succ d ih =>
    intro j g hd
    have hj : j < P.length := by omega
    have hx := hP _ (List.getElem_mem hj)
    have mem := fun x => mem_cut hj (x := x)
    have h1 := ih (j + 1) (fun x => if x = P[j] then z29 else g x) (by omega)
    refine .succ (f := fun k => tree_clean.l0 k (ints P) ((ints P).length : Int) ((j + 1 : Nat) : Int) (mkT N (fun x => if x = P[j] then z29 else g x))) (fun k => ?_) ?_
    · rw [tree_clean.l0, ints_len, if_pos (by omega), if_pos (by omega), if_pos (by omega), ints_at hj, if_pos (by omega), mkT_len, if_pos (by omega), wrap_id (by omega), Int.toNat_natCast, show (j : Int) + 1 = ((j + 1 : Nat) : Int) by omega, ← mkT_set]
      rfl
    · have e : (mkT N fun x => if x ∈ P.drop j then z29 else g x) = mkT N (fun x => if x ∈ P.drop (j + 1) then z29 else if x = P[j] then z29 else g x) := mkT_congr fun x _ => by
        by_cases c1 : x = P[j]
        · rw [if_pos ((mem x).2 (.inl c1)), if_pos c1, ite_self]
        · by_cases c2 : x ∈ P.drop (j + 1)
          · rw [if_pos ((mem x).2 (.inr c2)), if_pos c2]
          · rw [if_neg (fun hh => ((mem x).1 hh).elim c1 c2), if_neg c2, if_neg c1]
      rw [e]
      exact h1
theorem clean_ev {m i : Nat} (hm : m ≤ 5) (hi : i < 2 ^ m) (g : Nat → S29) : Evr (fun k => tree_clean.f k (mkT (2 * 2 ^ m - 1) g) (i : Int)) (mkT (2 * 2 ^ m - 1) (fun x => if x ∈ pathN i m then z29 else g x)) := by
  have hp := pow_le32 hm
  unfold tree_clean.f
  rw [(leaves_at (l := mkT (2 * 2 ^ m - 1) g) (n := 2 ^ m) (mkT_len _ _) hp.1 (by omega)).2]
  simp only [Option.bind_some]
  rw [wrap_id (by omega), path_at hm hi]
  simp only [Option.bind_some]
  have h := clean_l0 (pathN i m) (2 * 2 ^ m - 1) (fun x hx => ((pathN_ok hm hi).2 x hx).2) (by simp [pathN]; omega) (pathN i m).length 0 g (by omega)
  rw [List.drop_zero] at h
  exact h
theorem copied_at {l : List S29} (k : Nat) (hl : l.length ≤ 1000) (h5 : ∀ v ∈ l, v.f5.length < 17592186044416) : tree_copied.f k l = some l := by
  unfold tree_copied.f
  rw [if_pos (by omega), if_pos]
  rw [List.all_eq_true]
  intro v hv
  exact decide_eq_true (h5 v hv)
def insN (l : List Int) (i : Int) : List Int := l.take (l.countP (· < i)) ++ i :: l.drop (l.countP (· < i))
def lateIn (v : S29) (i : Int) : S29 := ⟨v.f0, v.f1, v.f2, v.f3, v.f4, insN v.f5 i⟩
theorem add_l1 (P : List Nat) (N : Nat) (hP : ∀ x ∈ P, x < N) (hN : P.Nodup) (hl : P.length ≤ 1000) (i : Int) : ∀ (d j : Nat) (g : Nat → S29), d + j = P.length → (∀ x ∈ P.drop j, (g x).f0 = true → (g x).f5.Pairwise (· ≤ ·) ∧ (g x).f5.length ≤ 1000) →
    Evr (fun k => tree_Add.l1 k i (mkT N g) (ints P) ((ints P).length : Int) (j : Int)) (mkT N (fun x => if x ∈ P.drop j ∧ (g x).f0 = true then lateIn (g x) i else g x), i, 0) := by
  intro d
  induction d with
  | zero =>
    intro j g hd _
    refine .succ (f := fun _ => some (mkT N g, i, 0)) (fun k => by rw [tree_Add.l1, ints_len, if_neg (by omega)]) (.const fun _ => ?_)
    rw [List.drop_eq_nil_of_le (by omega)]
    simp only [List.not_mem_nil, false_and, if_false]
  | succ d ih =>
    intro j g hd hg
    have hj : j < P.length := by omega
    have hx := hP _ (List.getElem_mem hj)
    have hdrop := List.drop_eq_getElem_cons hj
    have mem := fun x => mem_cut hj (x := x)
    have hnot : P[j] ∉ P.drop (j + 1) := by
      have := hN
      rw [← List.take_append_drop j P, hdrop] at this
      have := (List.nodup_append.1 this).2.1
      exact (List.nodup_cons.1 this).1
    by_cases c : (g P[j]).f0 = true
    · obtain ⟨hs, hlen⟩ := hg P[j] (by rw [hdrop]; exact List.mem_cons_self ..) c
      have h1 := ih (j + 1) (fun x => if x = P[j] then lateIn (g P[j]) i else g x) (by omega) (fun x hx2 => by
        have : x ≠ P[j] := fun e => hnot (by rw [← e]; exact hx2)
        simp only [this, if_false]
        exact hg x (by rw [hdrop]; exact List.mem_cons_of_mem _ hx2))
      have hcnt := List.countP_le_length (p := fun a => decide (a < i)) (l := (g P[j]).f5)
      refine .succ (f := fun k => tree_Add.l1 k i (mkT N (fun x => if x = P[j] then lateIn (g P[j]) i else g x)) (ints P) ((ints P).length : Int) ((j + 1 : Nat) : Int)) (fun k => ?_) ?_
      · rw [tree_Add.l1, ints_len, if_pos (by omega), if_pos (by omega), if_pos (by omega), ints_at hj, if_pos (by omega), mkT_len, if_pos (by omega)]
        have e : rd_T29 (mkT N g) (P[j] : Int) = g P[j] := mkT_get hx
        rw [e, if_pos c]
        unfold slices_BinarySearch_int_int.f
        rw [if_pos (by omega), if_pos hs, Option.bind_some]
        unfold slices_Insert_int_int.f
        rw [if_pos (by omega), if_pos (by omega), if_pos (by omega)]
        simp only [Option.bind_some, Int.toNat_natCast]
        rw [mkT_set, wrap_id (by omega), show (j : Int) + 1 = ((j + 1 : Nat) : Int) by omega]
        rfl
      · have e : (mkT N fun x => if x ∈ P.drop j ∧ (g x).f0 = true then lateIn (g x) i else g x) = mkT N (fun x => if x ∈ P.drop (j + 1) ∧ (if x = P[j] then lateIn (g P[j]) i else g x).f0 = true then lateIn (if x = P[j] then lateIn (g P[j]) i else g x) i else if x = P[j] then lateIn (g P[j]) i else g x) := mkT_congr fun x _ => by
          by_cases c1 : x = P[j]
          · have c' : (g x).f0 = true := by rw [c1]; exact c
            rw [if_pos ⟨(mem x).2 (.inl c1), c'⟩, if_neg (fun hh => hnot (by rw [← c1]; exact hh.1)), if_pos c1, c1]
          · simp only [if_neg c1]
            by_cases c2 : x ∈ P.drop (j + 1) ∧ (g x).f0 = true
            · rw [if_pos c2, if_pos ⟨(mem x).2 (.inr c2.1), c2.2⟩]
            · rw [if_neg c2, if_neg (fun hh => ((mem x).1 hh.1).elim c1 (fun h2 => c2 ⟨h2, hh.2⟩))]
        rw [e]
        exact h1
    · have h1 := ih (j + 1) g (by omega) (fun x hx2 => hg x (by rw [hdrop]; exact List.mem_cons_of_mem _ hx2))
      refine .succ (f := fun k => tree_Add.l1 k i (mkT N g) (ints P) ((ints P).length : Int) ((j + 1 : Nat) : Int)) (fun k => ?_) ?_
      · rw [tree_Add.l1, ints_len, if_pos (by omega), if_pos (by omega), if_pos (by omega), ints_at hj, if_pos (by omega), mkT_len, if_pos (by omega)]
        have e : rd_T29 (mkT N g) (P[j] : Int) = g P[j] := mkT_get hx
        rw [e, if_neg c, wrap_id (by omega), show (j : Int) + 1 = ((j + 1 : Nat) : Int) by omega]
      · have e : (mkT N fun x => if x ∈ P.drop j ∧ (g x).f0 = true then lateIn (g x) i else g x) = mkT N (fun x => if x ∈ P.drop (j + 1) ∧ (g x).f0 = true then lateIn (g x) i else g x) := mkT_congr fun x _ => by
          by_cases c1 : x = P[j]
          · rw [if_neg (fun hh => c (by rw [← c1]; exact hh.2)), if_neg (fun hh => hnot (by rw [← c1]; exact hh.1))]
          · by_cases c2 : x ∈ P.drop (j + 1) ∧ (g x).f0 = true
            · rw [if_pos c2, if_pos ⟨(mem x).2 (.inr c2.1), c2.2⟩]
            · rw [if_neg c2, if_neg (fun hh => ((mem x).1 hh.1).elim c1 (fun h2 => c2 ⟨h2, hh.2⟩))]
        rw [e]
        exact h1
def addL (l : List S29) (i m : Nat) (leaf : S29) : List S29 := mkT (2 * 2 ^ m - 1) (fun x => if x ∈ pathN i m ∧ (VX l x).f0 = true then lateIn (VX l x) i else if x = 2 * i then leaf else VX l x)
structure LateOk (l : List S29) : Prop where
  len : ∀ v ∈ l, v.f5.length ≤ 1000
  up : ∀ v ∈ l, v.f0 = true → v.f5.Pairwise (· ≤ ·)
theorem LateOk.at {l : List S29} (h : LateOk l) (x : Nat) : (VX l x).f5.length ≤ 1000 ∧ ((VX l x).f0 = true → (VX l x).f5.Pairwise (· ≤ ·)) := by
  by_cases c : x < l.length
  · rw [VX_at c]; exact ⟨h.len _ (List.getElem_mem c), h.up _ (List.getElem_mem c)⟩
  · rw [VX_out (by omega)]
    exact ⟨by simp [z29], fun e => by simp [z29] at e⟩
end Go.Proofs.YtbblomnhobodkaaDoor.Pure
