/- What this claim reaches of a longer text of this session. -/
import Derived.Test.YtbblomnhobodkaaDoorPTwx7
import Derived.Test.YtbblomnhobodkaaDoorPTwx6
import Derived.Test.YtbblomnhobodkaaDoorPTwx16
import Derived.Test.YtbblomnhobodkaaDoorPTwx15
import Derived.Test.YtbblomnhobodkaaDoorPureTreeC
set_option linter.unusedVariables false
set_option linter.unusedSimpArgs false
namespace Go.Proofs.YtbblomnhobodkaaDoor.Pure
open Go.RowKit Go.Proofs.YtbblomnhobodkaaDoor Go.Proofs.YtbblomnhobodkaaDoor.PTw Go.Proofs.YtbblomnhobodkaaDoorW.PrintWords
def lvN (x : Nat) : Nat := ((List.range 6).find? (fun k => x % 2 ^ (k + 1) == 2 ^ k - 1)).getD 0
def copN (i m : Nat) : List Nat := (List.range m).map fun k => if i / 2 ^ k % 2 = 0 then (i / 2 ^ k + 1) * 2 ^ (k + 1) + 2 ^ k - 1 else (i / 2 ^ k - 1) * 2 ^ (k + 1) + 2 ^ k - 1
set_option maxRecDepth 100000 in
theorem child_fin : ∀ m : Fin 6, ∀ x : Fin 63, x.val < 2 * 2 ^ m.val - 1 → heap_Children.f (x.val : Int) ((2 ^ m.val : Nat) : Int) = (if lvN x.val = 0 then some (0, 0, 30) else some (((x.val - 2 ^ (lvN x.val - 1) : Nat) : Int), ((x.val + 2 ^ (lvN x.val - 1) : Nat) : Int), 0)) := by decide +kernel
set_option maxRecDepth 100000 in
theorem lv_fin : ∀ m : Fin 6, ∀ x : Fin 63, x.val < 2 * 2 ^ m.val - 1 → lvN x.val ≤ m.val ∧ (lvN x.val ≠ 0 → lvN (x.val - 2 ^ (lvN x.val - 1)) = lvN x.val - 1 ∧ lvN (x.val + 2 ^ (lvN x.val - 1)) = lvN x.val - 1 ∧ x.val + 2 ^ (lvN x.val - 1) < 2 * 2 ^ m.val - 1 ∧ 2 ^ (lvN x.val - 1) ≤ x.val) := by decide +kernel
set_option maxRecDepth 100000 in
theorem width_fin : ∀ x : Fin 63, conclaveref03_Width.f 20 (x.val : Int) = some ((2 ^ lvN x.val - 1 : Nat) : Int) := by decide +kernel
set_option maxRecDepth 100000 in
theorem cop_fin : ∀ m : Fin 6, ∀ i : Fin 32, i.val < 2 ^ m.val → heap_Copath.f (2 * (i.val : Int)) ((2 ^ m.val : Nat) : Int) = some (ints (copN i.val m.val), 0) ∧ conclaveref03_Path.f 100 (2 * (i.val : Int)) ((2 ^ m.val : Nat) : Int) = some (ints (pathN i.val m.val)) ∧ conclaveref03_Copath.f 100 (2 * (i.val : Int)) ((2 ^ m.val : Nat) : Int) = some (ints (copN i.val m.val)) := by decide +kernel
theorem child_at {m x : Nat} (hm : m ≤ 5) (hx : x < 2 * 2 ^ m - 1) : heap_Children.f (x : Int) ((2 ^ m : Nat) : Int) = (if lvN x = 0 then some (0, 0, 30) else some (((x - 2 ^ (lvN x - 1) : Nat) : Int), ((x + 2 ^ (lvN x - 1) : Nat) : Int), 0)) := by
  have hp := pow_le32 hm
  exact child_fin ⟨m, by omega⟩ ⟨x, by omega⟩ hx
theorem lv_at {m x : Nat} (hm : m ≤ 5) (hx : x < 2 * 2 ^ m - 1) : lvN x ≤ m ∧ (lvN x ≠ 0 → lvN (x - 2 ^ (lvN x - 1)) = lvN x - 1 ∧ lvN (x + 2 ^ (lvN x - 1)) = lvN x - 1 ∧ x + 2 ^ (lvN x - 1) < 2 * 2 ^ m - 1 ∧ 2 ^ (lvN x - 1) ≤ x) := by
  have hp := pow_le32 hm
  exact lv_fin ⟨m, by omega⟩ ⟨x, by omega⟩ hx
theorem width_at {x : Nat} (hx : x < 63) : Evr (fun k => conclaveref03_Width.f k (x : Int)) ((2 ^ lvN x - 1 : Nat) : Int) :=
  .of_mono (K := 20) (fun k a h => conclaveref03_Width.mono _ k _ h) (width_fin ⟨x, hx⟩)
def resN (l : List S29) : Nat → Nat → List Int
  | 0, x => if (VX l x).f0 = true then (x : Int) :: (VX l x).f5.map (fun y => 2 * y) else []
  | k + 1, x => if (VX l x).f0 = true then (x : Int) :: (VX l x).f5.map (fun y => 2 * y) else resN l k (x - 2 ^ k) ++ resN l k (x + 2 ^ k)
structure LateSm (l : List S29) : Prop where
  len : ∀ x, (VX l x).f5.length ≤ 100
  sm : ∀ x, ∀ y ∈ (VX l x).f5, 0 ≤ y ∧ y ≤ 100
theorem resN_len {l : List S29} (h : LateSm l) : ∀ (k x : Nat), (resN l k x).length ≤ 101 * 2 ^ k
  | 0, x => by
    unfold resN
    split
    · simp; have := h.len x; omega
    · simp
  | k + 1, x => by
    unfold resN
    have h1 := resN_len h k (x - 2 ^ k)
    have h2 := resN_len h k (x + 2 ^ k)
    have hp : 1 ≤ 2 ^ k := Nat.one_le_two_pow
    split
    · simp; have := h.len x; rw [Nat.pow_succ]; omega
    · rw [List.length_append, Nat.pow_succ]; omega
theorem res_l0 {l : List S29} (late : List Int) (hl : late.length ≤ 1000) (hs : ∀ y ∈ late, 0 ≤ y ∧ y ≤ 100) : ∀ (d j : Nat) (acc : List Int), d + j = late.length → acc.length + d ≤ 100000 → Evr (fun k => tree_Resolution.l0 k acc late (late.length : Int) (j : Int)) (acc ++ (late.drop j).map (fun y => 2 * y)) := by
  intro d
  induction d with
  | zero =>
    intro j acc hd _
    refine .succ (f := fun _ => some acc) (fun k => by rw [tree_Resolution.l0, if_neg (by omega)]) (.const fun _ => ?_)
    rw [List.drop_eq_nil_of_le (by omega)]
    simp
  | succ d ih =>
    intro j acc hd ha
    have hj : j < late.length := by omega
    have hy := hs _ (List.getElem_mem hj)
    have e : rd late (j : Int) = late[j] := by simp [rd, List.getD_eq_getElem?_getD, List.getElem?_eq_getElem hj]
    rw [List.drop_eq_getElem_cons hj, List.map_cons, show acc ++ 2 * late[j] :: (late.drop (j + 1)).map (fun y => 2 * y) = acc ++ [2 * late[j]] ++ (late.drop (j + 1)).map (fun y => 2 * y) by simp]
    refine .succ (fun k => ?_) (ih (j + 1) (acc ++ [2 * late[j]]) (by omega) (by simp; omega))
    rw [tree_Resolution.l0, if_pos (by omega), if_pos (by omega), if_pos (by omega), if_pos (by omega), e, wrap_id (a := 2 * late[j]) (by omega), wrap_id (by omega), show (j : Int) + 1 = ((j + 1 : Nat) : Int) by omega]
theorem tres_open {l : List S29} {x : Nat} (hx : x < l.length) {r : List Int} (hr : Evr (fun q => tree_Resolution.j0 q l (x : Int) false) r) : Evr (fun q => tree_Resolution.f q l (x : Int)) r :=
  .succ (fun q => by rw [tree_Resolution.f, if_neg (by omega), decide_eq_false (by omega)]) hr
theorem tres_full {l : List S29} (hL : LateSm l) {x : Nat} (hx : x < l.length) (hf : (VX l x).f0 = true) : Evr (fun q => tree_Resolution.f q l (x : Int)) ((x : Int) :: (VX l x).f5.map (fun y => 2 * y)) := by
  have h := res_l0 (l := l) (VX l x).f5 (by have := hL.len x; omega) (hL.sm x) (VX l x).f5.length 0 [(x : Int)] (by omega) (by have := hL.len x; simp; omega)
  rw [List.drop_zero] at h
  refine tres_open hx (.succ (fun q => ?_) h)
  have e : (rd_T29 l (x : Int)).f0 = true := hf
  rw [tree_Resolution.j0, if_neg (by decide), if_pos (by omega), if_pos (by omega), e, if_pos rfl]
  rfl
theorem tres_ev {l : List S29} {m : Nat} (hm : m ≤ 5) (h : l.length = 2 * 2 ^ m - 1) (hL : LateSm l) : ∀ (k x : Nat), lvN x = k → x < l.length → Evr (fun q => tree_Resolution.f q l (x : Int)) (resN l k x) := by
  have hp := pow_le32 hm
  intro k
  induction k with
  | zero =>
    intro x hk hx
    by_cases c : (VX l x).f0 = true
    · have := tres_full hL hx c
      unfold resN
      rw [if_pos c]
      exact this
    · unfold resN
      rw [if_neg c]
      have hc := child_at hm (x := x) (by omega)
      rw [hk, if_pos rfl] at hc
      refine tres_open hx (.succ (f := fun _ => some []) (fun q => ?_) (.const fun _ => rfl))
      have e : ¬ (rd_T29 l (x : Int)).f0 = true := c
      rw [tree_Resolution.j0, if_neg (by decide), if_pos (by omega), if_pos (by omega), if_neg e, (leaves_at h hp.1 (by omega)).2, Option.bind_some, hc, Option.bind_some, if_neg (by decide)]
  | succ k ih =>
    intro x hk hx
    by_cases c : (VX l x).f0 = true
    · have := tres_full hL hx c
      unfold resN
      rw [if_pos c]
      exact this
    · have hlv := lv_at hm (x := x) (by omega)
      rw [hk] at hlv
      obtain ⟨h1, h2, h3, h4⟩ := hlv.2 (by omega)
      rw [show k + 1 - 1 = k by omega] at h1 h2 h3 h4
      have r1 := ih (x - 2 ^ k) h1 (Nat.lt_of_le_of_lt (Nat.sub_le _ _) hx)
      have r2 := ih (x + 2 ^ k) h2 (by rw [h]; exact h3)
      have hc := child_at hm (x := x) (by omega)
      rw [hk, if_neg (by omega), show k + 1 - 1 = k by omega] at hc
      have l1 := resN_len hL k (x - 2 ^ k)
      have l2 := resN_len hL k (x + 2 ^ k)
      have hpk : 2 ^ k ≤ 32 := by
        have : k ≤ 5 := by have := hlv.1; omega
        exact (pow_le32 this).2
      have e : ¬ (rd_T29 l (x : Int)).f0 = true := c
      have er : resN l (k + 1) x = resN l k (x - 2 ^ k) ++ resN l k (x + 2 ^ k) := by
        conv => lhs; unfold resN
        rw [if_neg c]
      rw [er]
      refine tres_open hx (.succ (f := fun q => (tree_Resolution.f q l ((x - 2 ^ k : Nat) : Int)).bind fun a => (tree_Resolution.f q l ((x + 2 ^ k : Nat) : Int)).bind fun b => if a.length + b.length < 17592186044416 then some (a ++ b) else none) (fun q => ?_) (r1.bind (r2.bind (.const fun _ => ?_))))
      · rw [tree_Resolution.j0, if_neg (by decide), if_pos (by omega), if_pos (by omega), if_neg e, (leaves_at h hp.1 (by omega)).2, Option.bind_some, hc, Option.bind_some, if_pos rfl]
      · rw [if_pos (by omega)]
theorem rres_late0 {l : List S29} {x : Nat} (hx : x < l.length) (late : List Int) (e5 : (rd_T29 l (x : Int)).f5 = late) (hll : late.length ≤ 100) (hsm : ∀ y ∈ late, 0 ≤ y ∧ y ≤ 100) (s : List Int) {r : List Int} : ∀ (d j : Nat) (acc : List Int), d + j = late.length → acc.length + d ≤ 100000 → Evr (fun k => conclaveref04_Resolution.l0 k l (acc ++ (late.drop j).map (fun y => 2 * y)) s) r → Evr (fun k => conclaveref04_Resolution.l1 k l acc s (x : Int) (j : Int)) r := by
  intro d
  induction d with
  | zero =>
    intro j acc hd _ hr
    rw [List.drop_eq_nil_of_le (by omega), List.map_nil, List.append_nil] at hr
    refine .succ (fun k => ?_) hr
    rw [conclaveref04_Resolution.l1, if_pos (by omega), if_pos (by omega), e5, if_neg (by omega)]
  | succ d ih =>
    intro j acc hd ha hr
    have hj : j < late.length := by omega
    have hy := hsm _ (List.getElem_mem hj)
    have e : rd late (j : Int) = late[j] := by simp [rd, List.getD_eq_getElem?_getD, List.getElem?_eq_getElem hj]
    rw [List.drop_eq_getElem_cons hj, List.map_cons, show acc ++ 2 * late[j] :: (late.drop (j + 1)).map (fun y => 2 * y) = acc ++ [2 * late[j]] ++ (late.drop (j + 1)).map (fun y => 2 * y) by simp] at hr
    refine .succ (fun k => ?_) (ih (j + 1) (acc ++ [2 * late[j]]) (by omega) (by simp; omega) hr)
    rw [conclaveref04_Resolution.l1, if_pos (by omega), if_pos (by omega), e5, if_pos (by omega), if_pos (by omega), if_pos (by omega), e, wrap_id (a := 2 * late[j]) (by omega), wrap_id (by omega), show (j : Int) + 1 = ((j + 1 : Nat) : Int) by omega]
theorem rres_late {l : List S29} {x : Nat} (hx : x < l.length) (hL : LateSm l) (s : List Int) {r : List Int} : ∀ (d j : Nat) (acc : List Int), d + j = (VX l x).f5.length → acc.length + d ≤ 100000 → Evr (fun k => conclaveref04_Resolution.l0 k l (acc ++ ((VX l x).f5.drop j).map (fun y => 2 * y)) s) r → Evr (fun k => conclaveref04_Resolution.l1 k l acc s (x : Int) (j : Int)) r :=
  rres_late0 hx (VX l x).f5 rfl (hL.len x) (hL.sm x) s
theorem pop_two (l : List S29) (acc s : List Int) (w x q : Nat) (h1 : 1 ≤ w) (h2 : w ≤ 32) (h3 : w ≤ x) (h4 : x < 63) (hs : s.length ≤ 1000) : (if ((w : Nat) : Int) > 0 then (if s.length < 17592186044416 then ((some (s ++ [wrap64 ((x : Int) + (w : Int))] : List Int)).bind fun y => if y.length < 17592186044416 then conclaveref04_Resolution.l0 q l acc (y ++ [wrap64 ((x : Int) - (w : Int))]) else none) else none) else conclaveref04_Resolution.l0 q l acc s) = conclaveref04_Resolution.l0 q l acc (s ++ [((x + w : Nat) : Int)] ++ [((x - w : Nat) : Int)]) := by
  have e1 : wrap64 ((x : Int) + (w : Int)) = ((x + w : Nat) : Int) := by rw [wrap_id (by omega)]; omega
  have e2 : wrap64 ((x : Int) - (w : Int)) = ((x - w : Nat) : Int) := by rw [wrap_id (by omega)]; omega
  rw [if_pos (by omega), if_pos (by omega), Option.bind_some, if_pos (by simp; omega), e1, e2]
theorem rres_pop {l : List S29} {m : Nat} (hm : m ≤ 5) (h : l.length = 2 * 2 ^ m - 1) (hL : LateSm l) : ∀ (k x : Nat), lvN x = k → x < l.length → ∀ (acc s : List Int) (r : List Int), acc.length + 101 * 2 ^ k ≤ 90000 → s.length + k ≤ 1000 → Evr (fun q => conclaveref04_Resolution.l0 q l (acc ++ resN l k x) s) r → Evr (fun q => conclaveref04_Resolution.l0 q l acc (s ++ [(x : Int)])) r := by
  have hp := pow_le32 hm
  have hop : ∀ (x : Nat), x < l.length → ∀ (acc s : List Int), s.length ≤ 1000 → ∀ q, conclaveref04_Resolution.l0 (q + 1) l acc (s ++ [(x : Int)]) = if (VX l x).f0 = true then (if acc.length < 17592186044416 then conclaveref04_Resolution.l1 q l (acc ++ [(x : Int)]) s (x : Int) 0 else none) else ((conclaveref03_Width.f q (x : Int)).bind fun t => if (wrap64 (Int.tdiv (wrap64 (t + 1)) 2)) > 0 then (if s.length < 17592186044416 then ((some (s ++ [wrap64 ((x : Int) + (wrap64 (Int.tdiv (wrap64 (t + 1)) 2)))] : List Int)).bind fun y => if y.length < 17592186044416 then conclaveref04_Resolution.l0 q l acc (y ++ [wrap64 ((x : Int) - (wrap64 (Int.tdiv (wrap64 (t + 1)) 2)))]) else none) else none) else conclaveref04_Resolution.l0 q l acc s) := by
    intro x hx acc s hs q
    have hlen : (s ++ [(x : Int)]).length = s.length + 1 := by simp
    have ew : wrap64 (((s ++ [(x : Int)]).length : Int) - 1) = (s.length : Int) := by rw [hlen, wrap_id (by omega)]; omega
    have erd : rd (s ++ [(x : Int)]) (s.length : Int) = (x : Int) := by simp [rd, List.getD_eq_getElem?_getD]
    have etk : (s ++ [(x : Int)]).take ((s.length : Int)).toNat = s := by simp
    rw [conclaveref04_Resolution.l0, ew, erd, etk, if_pos (by omega), if_pos (by omega), if_pos (by omega), if_pos (by omega), Option.bind_some, if_pos (by omega), if_pos (by omega)]
  intro k
  induction k with
  | zero =>
    intro x hk hx acc s r ha hs hr
    refine .succ (hop x hx acc s (by omega)) ?_
    by_cases c : (VX l x).f0 = true
    · unfold resN at hr
      rw [if_pos c, show acc ++ (x : Int) :: (VX l x).f5.map (fun y => 2 * y) = acc ++ [(x : Int)] ++ ((VX l x).f5.drop 0).map (fun y => 2 * y) by simp] at hr
      have := rres_late hx hL s (VX l x).f5.length 0 (acc ++ [(x : Int)]) (by omega) (by have := hL.len x; simp; omega) hr
      refine .congr (fun q => ?_) this
      rw [if_pos c, if_pos (by omega)]
      rfl
    · unfold resN at hr
      rw [if_neg c, List.append_nil] at hr
      have hw := width_at (x := x) (by omega)
      rw [hk] at hw
      refine .congr (f := fun q => (conclaveref03_Width.f q (x : Int)).bind fun t => if (wrap64 (Int.tdiv (wrap64 (t + 1)) 2)) > 0 then (if s.length < 17592186044416 then ((some (s ++ [wrap64 ((x : Int) + (wrap64 (Int.tdiv (wrap64 (t + 1)) 2)))] : List Int)).bind fun y => if y.length < 17592186044416 then conclaveref04_Resolution.l0 q l acc (y ++ [wrap64 ((x : Int) - (wrap64 (Int.tdiv (wrap64 (t + 1)) 2)))]) else none) else none) else conclaveref04_Resolution.l0 q l acc s) (fun q => by rw [if_neg c]) (hw.bind ?_)
      refine .congr (fun q => ?_) hr
      have ew0 : wrap64 (Int.tdiv (wrap64 (((2 ^ 0 - 1 : Nat) : Int) + 1)) 2) = 0 := by decide +kernel
      rw [ew0, if_neg (by decide)]
  | succ k ih =>
    intro x hk hx acc s r ha hs hr
    have hpk1 : 2 ^ (k + 1) = 2 * 2 ^ k := by rw [Nat.pow_succ]; omega
    have hpk : 1 ≤ 2 ^ k := Nat.one_le_two_pow
    refine .succ (hop x hx acc s (by omega)) ?_
    by_cases c : (VX l x).f0 = true
    · unfold resN at hr
      rw [if_pos c, show acc ++ (x : Int) :: (VX l x).f5.map (fun y => 2 * y) = acc ++ [(x : Int)] ++ ((VX l x).f5.drop 0).map (fun y => 2 * y) by simp] at hr
      have := rres_late hx hL s (VX l x).f5.length 0 (acc ++ [(x : Int)]) (by omega) (by have := hL.len x; simp; omega) hr
      refine .congr (fun q => ?_) this
      rw [if_pos c, if_pos (by omega)]
      rfl
    · have hlv := lv_at hm (x := x) (by omega)
      rw [hk] at hlv
      obtain ⟨h1, h2, h3, h4⟩ := hlv.2 (by omega)
      rw [show k + 1 - 1 = k by omega] at h1 h2 h3 h4
      have l1 := resN_len hL k (x - 2 ^ k)
      have er : resN l (k + 1) x = resN l k (x - 2 ^ k) ++ resN l k (x + 2 ^ k) := by
        conv => lhs; unfold resN
        rw [if_neg c]
      rw [er, ← List.append_assoc] at hr
      have q2 := ih (x + 2 ^ k) h2 (by omega) (acc ++ resN l k (x - 2 ^ k)) s r (by simp; omega) (by omega) hr
      have q1 := ih (x - 2 ^ k) h1 (by omega) acc (s ++ [((x + 2 ^ k : Nat) : Int)]) r (by omega) (by simp; omega) q2
      have hw := width_at (x := x) (by omega)
      rw [hk] at hw
      have hpk32 : 2 ^ k ≤ 32 := by
        have : k ≤ 5 := by have := hlv.1; omega
        exact (pow_le32 this).2
      have ew : wrap64 (Int.tdiv (wrap64 (((2 ^ (k + 1) - 1 : Nat) : Int) + 1)) 2) = ((2 ^ k : Nat) : Int) := by
        rw [wrap_id (a := ((2 ^ (k + 1) - 1 : Nat) : Int) + 1) (by omega), Int.tdiv_eq_ediv_of_nonneg (by omega), wrap_id (by omega)]
        omega
      refine .congr (f := fun q => (conclaveref03_Width.f q (x : Int)).bind fun t => if (wrap64 (Int.tdiv (wrap64 (t + 1)) 2)) > 0 then (if s.length < 17592186044416 then ((some (s ++ [wrap64 ((x : Int) + (wrap64 (Int.tdiv (wrap64 (t + 1)) 2)))] : List Int)).bind fun y => if y.length < 17592186044416 then conclaveref04_Resolution.l0 q l acc (y ++ [wrap64 ((x : Int) - (wrap64 (Int.tdiv (wrap64 (t + 1)) 2)))]) else none) else none) else conclaveref04_Resolution.l0 q l acc s) (fun q => by rw [if_neg c]) (hw.bind ?_)
      refine .congr (fun q => ?_) q1
      have x63 : x < 63 := by omega
      rw [ew]
      exact pop_two l acc s (2 ^ k) x q hpk hpk32 h4 x63 (by omega)
theorem rres_ev {l : List S29} {m : Nat} (hm : m ≤ 5) (h : l.length = 2 * 2 ^ m - 1) (hL : LateSm l) {x : Nat} (hx : x < l.length) : Evr (fun q => conclaveref04_Resolution.f q l (x : Int)) (resN l (lvN x) x) := by
  have hp := pow_le32 hm
  have hlv := (lv_at hm (x := x) (by omega)).1
  have hk : 2 ^ lvN x ≤ 32 := (pow_le32 (by omega)).2
  have he : Evr (fun q => conclaveref04_Resolution.l0 q l ([] ++ resN l (lvN x) x) []) (resN l (lvN x) x) := .succ (f := fun _ => some (resN l (lvN x) x)) (fun q => by rw [conclaveref04_Resolution.l0, if_neg (by simp), List.nil_append]) (.const fun _ => rfl)
  have h2 := rres_pop hm h hL (lvN x) x rfl hx [] [] _ (by simp; omega) (by simp; omega) he
  refine .congr (f := fun q => conclaveref04_Resolution.j0 q l (x : Int) [] false) (fun q => by unfold conclaveref04_Resolution.f; rw [if_neg (by omega), decide_eq_false (by omega)]) (.succ (fun q => ?_) h2)
  rw [conclaveref04_Resolution.j0, if_neg (by decide)]
  rfl
end Go.Proofs.YtbblomnhobodkaaDoor.Pure
