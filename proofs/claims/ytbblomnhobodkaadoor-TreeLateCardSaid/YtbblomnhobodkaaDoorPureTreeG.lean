/- What this claim reaches of a longer text of this session. -/
import Derived.Test.YtbblomnhobodkaaDoorPTwx17
import Derived.Test.YtbblomnhobodkaaDoorPureTreeD
import Derived.Test.YtbblomnhobodkaaDoorPureTreeF
set_option linter.unusedVariables false
set_option linter.unusedSimpArgs false
namespace Go.Proofs.YtbblomnhobodkaaDoor.Pure
open Go.RowKit Go.Proofs.YtbblomnhobodkaaDoor Go.Proofs.YtbblomnhobodkaaDoor.PTw Go.Proofs.YtbblomnhobodkaaDoorW.PrintWords
theorem RG.lateSm {g : Nat → S29} {m : Nat} (h : RG g m) (x : Nat) : (g x).f5.length ≤ 100 ∧ ∀ y ∈ (g x).f5, 0 ≤ y ∧ y ≤ 100 := by
  have := h.lates x
  exact ⟨by omega, fun y hy => by have := this.1 y hy; omega⟩
theorem RT.lateSm {l : List S29} {m : Nat} (h : RT l m) : LateSm l := ⟨fun x => (h.rg.lateSm x).1, fun x => (h.rg.lateSm x).2⟩
set_option maxRecDepth 100000 in
theorem copN_fin : ∀ m : Fin 6, ∀ i : Fin 32, i.val < 2 ^ m.val → ∀ x ∈ copN i.val m.val, x < 2 * 2 ^ m.val - 1 := by decide +kernel
theorem copN_lt {m i x : Nat} (hm : m ≤ 5) (hi : i < 2 ^ m) (h : x ∈ copN i m) : x < 2 * 2 ^ m - 1 := by
  have hp := pow_le32 hm
  exact copN_fin ⟨m, by omega⟩ ⟨i, by omega⟩ hi x h
def filtL (l : List S29) : List Nat → List Nat → List (Nat × Nat)
  | p :: P, c :: C => if 0 < (resN l (lvN c) c).length then (p, c) :: filtL l P C else filtL l P C
  | _, _ => []
theorem filtL_sub {l : List S29} : ∀ (P C : List Nat), ((filtL l P C).map Prod.fst).Sublist P
  | [], C => by unfold filtL; simp
  | p :: P, [] => by unfold filtL; simp
  | p :: P, c :: C => by
    unfold filtL
    split
    · exact (filtL_sub P C).cons₂ p
    · exact (filtL_sub P C).cons p
theorem tfilt_l0 {l : List S29} {m : Nat} (hR : RT l m) (P C : List Nat) (he : P.length = C.length) (hl : C.length ≤ 1000) (hC : ∀ c ∈ C, c < 2 * 2 ^ m - 1) : ∀ (d j : Nat) (a b : List Nat), d + j = C.length → a.length ≤ j → b.length ≤ j →
    Evr (fun k => tree_Filtered.l0 k l (ints a) (ints b) (ints P) (ints C) ((ints C).length : Int) (j : Int)) (ints (a ++ (filtL l (P.drop j) (C.drop j)).map Prod.fst), ints (b ++ (filtL l (P.drop j) (C.drop j)).map Prod.snd)) ∧
    Evr (fun k => conclaveref04_Filtered.l0 k l (ints a) (ints b) (ints P) (ints C) (j : Int)) (ints (a ++ (filtL l (P.drop j) (C.drop j)).map Prod.fst), ints (b ++ (filtL l (P.drop j) (C.drop j)).map Prod.snd)) := by
  intro d
  induction d with
  | zero =>
    intro j a b hd _ _
    rw [List.drop_eq_nil_of_le (by omega), List.drop_eq_nil_of_le (by omega)]
    refine ⟨.succ (f := fun _ => some (ints a, ints b)) (fun k => by rw [tree_Filtered.l0, if_neg (by rw [ints_len]; omega)]) (.const fun _ => ?_), .succ (f := fun _ => some (ints a, ints b)) (fun k => by rw [conclaveref04_Filtered.l0, ints_len, if_neg (by omega)]) (.const fun _ => ?_)⟩
    · simp [filtL]
    · simp [filtL]
  | succ d ih =>
    intro j a b hd ha hb
    have hj : j < C.length := by omega
    have hjP : j < P.length := by omega
    have hc := hC _ (List.getElem_mem hj)
    have h1 := tres_ev hR.hm hR.len hR.lateSm (lvN C[j]) C[j] rfl (by rw [hR.len]; exact hc)
    have h2 := rres_ev hR.hm hR.len hR.lateSm (x := C[j]) (by rw [hR.len]; exact hc)
    have et : ∀ k, tree_Filtered.l0 (k + 1) l (ints a) (ints b) (ints P) (ints C) ((ints C).length : Int) (j : Int) = (tree_Resolution.f k l (C[j] : Int)).bind fun t => if (t.length : Int) > 0 then tree_Filtered.l0 k l (ints (a ++ [P[j]])) (ints (b ++ [C[j]])) (ints P) (ints C) ((ints C).length : Int) ((j + 1 : Nat) : Int) else tree_Filtered.l0 k l (ints a) (ints b) (ints P) (ints C) ((ints C).length : Int) ((j + 1 : Nat) : Int) := fun k => by
      rw [tree_Filtered.l0, ints_len, if_pos (by omega), if_pos (by omega), if_pos (by omega), ints_at hj, ints_at hjP, wrap_id (by omega), show (j : Int) + 1 = ((j + 1 : Nat) : Int) by omega, ints_len, ints_len, ints_len, if_pos (show (j : Int) < (P.length : Int) by omega), if_pos (show a.length < 17592186044416 by omega), if_pos (show b.length < 17592186044416 by omega), ints_append, ints_append]
      rfl
    have er : ∀ k, conclaveref04_Filtered.l0 (k + 1) l (ints a) (ints b) (ints P) (ints C) (j : Int) = (conclaveref04_Resolution.f k l (C[j] : Int)).bind fun t => if (t.length : Int) > 0 then conclaveref04_Filtered.l0 k l (ints (a ++ [P[j]])) (ints (b ++ [C[j]])) (ints P) (ints C) ((j + 1 : Nat) : Int) else conclaveref04_Filtered.l0 k l (ints a) (ints b) (ints P) (ints C) ((j + 1 : Nat) : Int) := fun k => by
      rw [conclaveref04_Filtered.l0, ints_len, if_pos (by omega), if_pos (by omega), ints_len, if_pos (by omega), ints_at hj, ints_at hjP, wrap_id (by omega), show (j : Int) + 1 = ((j + 1 : Nat) : Int) by omega, ints_len, ints_len, if_pos (show a.length < 17592186044416 by omega), if_pos (show b.length < 17592186044416 by omega), ints_append, ints_append]
      rfl
    rw [List.drop_eq_getElem_cons hj, List.drop_eq_getElem_cons hjP]
    unfold filtL
    by_cases c : 0 < (resN l (lvN C[j]) C[j]).length
    · rw [if_pos c, List.map_cons, List.map_cons]
      obtain ⟨i1, i2⟩ := ih (j + 1) (a ++ [P[j]]) (b ++ [C[j]]) (by omega) (by simp; omega) (by simp; omega)
      rw [List.append_assoc, List.append_assoc] at i1 i2
      refine ⟨.succ et (h1.bind (.congr (fun k => by rw [if_pos (by omega)]) i1)), .succ er (h2.bind (.congr (fun k => by rw [if_pos (by omega)]) i2))⟩
    · rw [if_neg c]
      obtain ⟨i1, i2⟩ := ih (j + 1) a b (by omega) (by omega) (by omega)
      refine ⟨.succ et (h1.bind (.congr (fun k => by rw [if_neg (by omega)]) i1)), .succ er (h2.bind (.congr (fun k => by rw [if_neg (by omega)]) i2))⟩
def fP (l : List S29) (i m : Nat) : List Nat := (filtL l (pathN i m) (copN i m)).map Prod.fst
def fC (l : List S29) (i m : Nat) : List Nat := (filtL l (pathN i m) (copN i m)).map Prod.snd
theorem fP_sub (l : List S29) (i m : Nat) : (fP l i m).Sublist (pathN i m) := filtL_sub _ _
theorem fP_len (l : List S29) (i m : Nat) : (fP l i m).length ≤ m := by
  have := (fP_sub l i m).length_le
  simpa [pathN] using this
def filtR (l : List S29) (m : Nat) (i : Int) : List Nat × List Nat := if 0 ≤ i ∧ i < ((2 ^ m : Nat) : Int) then (fP l i.toNat m, fC l i.toNat m) else ([], [])
theorem cop_at {m i : Nat} (hm : m ≤ 5) (hi : i < 2 ^ m) : heap_Copath.f (2 * (i : Int)) ((2 ^ m : Nat) : Int) = some (ints (copN i m), 0) ∧ Evr (fun k => conclaveref03_Path.f k (2 * (i : Int)) ((2 ^ m : Nat) : Int)) (ints (pathN i m)) ∧ Evr (fun k => conclaveref03_Copath.f k (2 * (i : Int)) ((2 ^ m : Nat) : Int)) (ints (copN i m)) := by
  have hp := pow_le32 hm
  obtain ⟨h1, h2, h3⟩ := cop_fin ⟨m, by omega⟩ ⟨i, by omega⟩ hi
  exact ⟨h1, .of_mono (K := 100) (fun k a h => conclaveref03_Path.mono _ _ k _ h) h2, .of_mono (K := 100) (fun k a h => conclaveref03_Copath.mono _ _ k _ h) h3⟩
theorem filt_ev {l : List S29} {m : Nat} (hR : RT l m) (i : Int) : Evr (fun k => tree_Filtered.f k l i) (ints (filtR l m i).1, ints (filtR l m i).2) ∧ Evr (fun k => conclaveref04_Filtered.f k l i) (ints (filtR l m i).1, ints (filtR l m i).2) := by
  have hm := hR.hm
  have hp := pow_le32 hm
  have h := hR.len
  unfold filtR tree_Filtered.f conclaveref04_Filtered.f
  simp only [(leaves_at h hp.1 (by omega)).1, (leaves_at h hp.1 (by omega)).2, Option.bind_some]
  have tj : Evr (fun k => tree_Filtered.j0 k l i [] [] ((2 ^ m : Nat) : Int) true) (ints [], ints []) := .succ (f := fun _ => some (([] : List Int), ([] : List Int))) (fun k => by rw [tree_Filtered.j0, if_pos rfl]) (.const fun _ => rfl)
  have rj : Evr (fun k => conclaveref04_Filtered.j0 k l i [] [] true) (ints [], ints []) := .succ (f := fun _ => some (([] : List Int), ([] : List Int))) (fun k => by rw [conclaveref04_Filtered.j0, if_pos rfl]) (.const fun _ => rfl)
  by_cases c1 : i < 0
  · simp only [if_pos c1, if_neg (show ¬ (0 ≤ i ∧ i < ((2 ^ m : Nat) : Int)) by omega)]
    exact ⟨tj, rj⟩
  · by_cases c2 : i < ((2 ^ m : Nat) : Int)
    · obtain ⟨n, rfl⟩ : ∃ n : Nat, i = (n : Int) := ⟨i.toNat, by omega⟩
      have hn : n < 2 ^ m := by omega
      simp only [if_neg c1, if_pos (show 0 ≤ (n : Int) ∧ (n : Int) < ((2 ^ m : Nat) : Int) by omega), Int.toNat_natCast]
      obtain ⟨hc, hp3, hc3⟩ := cop_at hm hn
      have hpa := path_at hm hn
      have hlen : (pathN n m).length = (copN n m).length := by simp [pathN, copN]
      obtain ⟨f1, f2⟩ := tfilt_l0 hR (pathN n m) (copN n m) hlen (by simp [copN]; omega) (fun c hc => copN_lt hm hn hc) (copN n m).length 0 [] [] (by omega) (by simp) (by simp)
      rw [List.drop_zero, List.drop_zero, List.nil_append, List.nil_append] at f1 f2
      rw [decide_eq_false (show ¬ (n : Int) ≥ ((2 ^ m : Nat) : Int) by omega)]
      refine ⟨.succ (f := fun k => tree_Filtered.l0 k l [] [] (ints (pathN n m)) (ints (copN n m)) ((ints (copN n m)).length : Int) 0) (fun k => ?_) f1, .succ (f := fun k => (conclaveref03_Path.f k (2 * (n : Int)) ((2 ^ m : Nat) : Int)).bind fun t => (conclaveref03_Copath.f k (2 * (n : Int)) ((2 ^ m : Nat) : Int)).bind fun u => conclaveref04_Filtered.l0 k l [] [] t u 0) (fun k => ?_) (hp3.bind (hc3.bind f2))⟩
      · rw [tree_Filtered.j0, if_neg (by decide), wrap_id (by omega), hpa, Option.bind_some, hc, Option.bind_some]
      · rw [conclaveref04_Filtered.j0, if_neg (by decide), (leaves_at h hp.1 (by omega)).1, Option.bind_some, wrap_id (by omega)]
    · simp only [if_neg c1, if_neg (show ¬ (0 ≤ i ∧ i < ((2 ^ m : Nat) : Int)) by omega), decide_eq_true (show i ≥ ((2 ^ m : Nat) : Int) by omega)]
      exact ⟨tj, rj⟩
theorem keys_ev {l : List S29} {m : Nat} (hR : RT l m) (o : Int) (i : Int) (b : Bool) (key c s h : Int) (late : List Int) (more : Int) : Evr (fun k => conclavelaw04_keys.f k l o i b key c s h late more) (List.replicate ((((filtR l m i).1.length : Nat) : Int) + (if -40 ≤ more ∧ more ≤ 40 then more else 0)).toNat key) := by
  have hm := hR.hm
  have hlen : (filtR l m i).1.length ≤ 5 := by
    unfold filtR
    split
    · have := fP_len l i.toNat m; show (fP l i.toNat m).length ≤ 5; omega
    · simp
  have hl0 : ∀ (q : Int), q ≤ 1000 → ∀ (d j : Nat), (d : Int) + j = q ∨ (d = 0 ∧ q < (j : Int)) → Evr (fun k => conclavelaw04_keys.l0 k q (List.replicate j key) (j : Int) o i b key c s h late more) (List.replicate (j + d) key) := by
    intro q hq d
    induction d with
    | zero =>
      intro j hd
      exact .succ (f := fun _ => some (List.replicate j key)) (fun k => by rw [conclavelaw04_keys.l0, if_neg (by omega)]) (.const fun _ => rfl)
    | succ d ih =>
      intro j hd
      have := ih (j + 1) (by omega)
      rw [show j + (d + 1) = j + 1 + d by omega]
      refine .succ (fun k => ?_) this
      rw [conclavelaw04_keys.l0, if_pos (by omega), List.length_replicate, if_pos (by omega), wrap_id (by omega), ← List.replicate_succ', show (j : Int) + 1 = ((j + 1 : Nat) : Int) by omega]
  have hj1 : ∀ (q : Int), q ≤ 1000 → Evr (fun k => conclavelaw04_keys.j1 k q o i b key c s h late more) (List.replicate q.toNat key) := fun q hq => by
    have := hl0 q hq q.toNat 0 (by omega)
    rw [Nat.zero_add] at this
    exact .succ (f := fun k => conclavelaw04_keys.l0 k q [] 0 o i b key c s h late more) (fun k => by rw [conclavelaw04_keys.j1]) this
  refine .congr (f := fun k => (conclaveref04_Filtered.f k l i).bind fun p => conclavelaw04_keys.j0 k (p.1.length : Int) (decide (-40 ≤ more ∧ more ≤ 40)) o i b key c s h late more) (fun k => ?_) ((filt_ev hR i).2.bind ?_)
  · unfold conclavelaw04_keys.f
    congr 1
    funext p
    by_cases c1 : more ≥ -40
    · rw [if_pos c1]
      congr 1
      by_cases c2 : more ≤ 40
      · rw [decide_eq_true c2, decide_eq_true ⟨c1, c2⟩]
      · rw [decide_eq_false c2, decide_eq_false (fun hh => c2 hh.2)]
    · rw [if_neg c1, decide_eq_false (fun hh => c1 hh.1)]
  · rw [ints_len]
    by_cases c1 : -40 ≤ more ∧ more ≤ 40
    · rw [decide_eq_true c1, if_pos c1]
      exact .succ (fun k => by rw [conclavelaw04_keys.j0, if_pos rfl, wrap_id (by omega)]) (hj1 _ (by omega))
    · rw [decide_eq_false c1, if_neg c1, Int.add_zero]
      exact .succ (fun k => by rw [conclavelaw04_keys.j0, if_neg (by decide)]) (hj1 _ (by omega))
def AllKey (F : Nat → S29) : Prop := ∀ x, ∃ k h : Int, F x = ⟨true, k, 0, 0, h, []⟩
theorem mer_same : ∀ k p ks hs x j, conclaveref04_Merge.l0 k p ks hs x j = tree_Merge.l0 k p ks hs x j := by
  intro k
  induction k with
  | zero => intros; rfl
  | succ k ih =>
    intro p ks hs x j
    rw [conclaveref04_Merge.l0, tree_Merge.l0, ih]
theorem mer_l0 (P : List Nat) (N : Nat) (hP : ∀ x ∈ P, x < N) (hN : P.Nodup) (ks hs : List Int) (hk : ks.length = P.length) (hh : hs.length = P.length) (hl : P.length ≤ 1000) : ∀ (d j : Nat), d + j = P.length → ∃ F : Nat → S29, AllKey F ∧ ∀ g, Evr (fun k => tree_Merge.l0 k (ints P) ks hs (mkT N g) (j : Int)) (mkT N (fun x => if x ∈ P.drop j then F x else g x), 0) := by
  intro d
  induction d with
  | zero =>
    intro j hd
    refine ⟨fun _ => ⟨true, 0, 0, 0, 0, []⟩, fun _ => ⟨0, 0, rfl⟩, fun g => ?_⟩
    refine .succ (f := fun _ => some (mkT N g, 0)) (fun k => by rw [tree_Merge.l0, ints_len, if_neg (by omega)]) (.const fun _ => ?_)
    rw [List.drop_eq_nil_of_le (by omega)]
    simp only [List.not_mem_nil, if_false]
  | succ d ih =>
    intro j hd
    have hj : j < P.length := by omega
    have hx := hP _ (List.getElem_mem hj)
    have mem := fun x => mem_cut hj (x := x)
    have hnot : P[j] ∉ P.drop (j + 1) := by
      have := hN
      rw [← List.take_append_drop j P, List.drop_eq_getElem_cons hj] at this
      have := (List.nodup_append.1 this).2.1
      exact (List.nodup_cons.1 this).1
    obtain ⟨F, hF, he⟩ := ih (j + 1) (by omega)
    refine ⟨fun x => if x = P[j] then ⟨true, rd ks (j : Int), 0, 0, rd hs (j : Int), []⟩ else F x, fun x => ?_, fun g => ?_⟩
    · by_cases c : x = P[j]
      · exact ⟨_, _, if_pos c⟩
      · obtain ⟨a, b, h⟩ := hF x
        exact ⟨a, b, (if_neg c).trans h⟩
    · have h1 := he (fun x => if x = P[j] then ⟨true, rd ks (j : Int), 0, 0, rd hs (j : Int), []⟩ else g x)
      have e : mkT N (fun x => if x ∈ P.drop (j + 1) then F x else if x = P[j] then (⟨true, rd ks (j : Int), 0, 0, rd hs (j : Int), []⟩ : S29) else g x) = mkT N (fun x => if x ∈ P.drop j then (if x = P[j] then (⟨true, rd ks (j : Int), 0, 0, rd hs (j : Int), []⟩ : S29) else F x) else g x) := mkT_congr fun x _ => by
        by_cases c1 : x = P[j]
        · rw [if_neg (by rw [c1]; exact hnot), if_pos c1, if_pos ((mem x).2 (.inl c1)), if_pos c1]
        · by_cases c2 : x ∈ P.drop (j + 1)
          · rw [if_pos c2, if_pos ((mem x).2 (.inr c2)), if_neg c1]
          · rw [if_neg c2, if_neg c1, if_neg (fun hh => ((mem x).1 hh).elim c1 c2)]
      rw [e] at h1
      refine .succ (fun k => ?_) h1
      rw [tree_Merge.l0, ints_len, if_pos (by omega), if_pos (by omega), if_pos (by omega), if_pos (by omega), ints_at hj, if_pos (by omega), mkT_len, if_pos (by omega), Int.toNat_natCast, mkT_set, wrap_id (by omega), show (j : Int) + 1 = ((j + 1 : Nat) : Int) by omega]
theorem merge_ev {l : List S29} {m i : Nat} (hR : RT l m) (hi : i < 2 ^ m) (hf : (VX l (2 * i)).f0 = true) (f0 : Bool) (f1 f2 f3 f4 : Int) (l5 ks hs : List Int) (hk : ks.length = (fP l i m).length) (hh : hs.length = (fP l i m).length) : ∃ F : Nat → S29, AllKey F ∧
    Evr (fun k => tree_Merge.f k l (i : Int) f0 f1 f2 f3 f4 l5 ks hs) (mkT (2 * 2 ^ m - 1) (merG (VX l) i m ⟨true, f1, f2, f3, f4, []⟩ (fun x => if x ∈ fP l i m then F x else z29)), 0) ∧
    Evr (fun k => conclaveref04_Merge.f k l (i : Int) f0 f1 f2 f3 f4 l5 ks hs) (mkT (2 * 2 ^ m - 1) (merG (VX l) i m ⟨true, f1, f2, f3, f4, []⟩ (fun x => if x ∈ fP l i m then F x else z29)), 0) := by
  have hm := hR.hm
  have h := hR.len
  have hp := pow_le32 hm
  have hok := pathN_ok hm hi
  have h5 : ∀ v ∈ l, v.f5.length < 17592186044416 := fun v hv => by have := hR.l5 v hv; omega
  have hfl := filt_ev hR (i : Int)
  have hfr : filtR l m (i : Int) = (fP l i m, fC l i m) := by unfold filtR; rw [if_pos (by omega), Int.toNat_natCast]
  rw [hfr] at hfl
  have hPsub : ∀ x ∈ fP l i m, x ∈ pathN i m := fun x hx => (fP_sub l i m).subset hx
  obtain ⟨F, hF, he⟩ := mer_l0 (fP l i m) (2 * 2 ^ m - 1) (fun x hx => (hok.2 x (hPsub x hx)).2) ((fP_sub l i m).nodup hok.1) ks hs hk hh (by have := fP_len l i m; omega) (fP l i m).length 0 (by omega)
  refine ⟨F, hF, ?_⟩
  have h1 := he (fun x => if x ∈ pathN i m then z29 else if x = 2 * i then (⟨true, f1, f2, f3, f4, []⟩ : S29) else VX l x)
  rw [List.drop_zero] at h1
  have e : mkT (2 * 2 ^ m - 1) (fun x => if x ∈ fP l i m then F x else if x ∈ pathN i m then z29 else if x = 2 * i then (⟨true, f1, f2, f3, f4, []⟩ : S29) else VX l x) = mkT (2 * 2 ^ m - 1) (merG (VX l) i m ⟨true, f1, f2, f3, f4, []⟩ (fun x => if x ∈ fP l i m then F x else z29)) := mkT_congr fun x _ => by
    unfold merG
    by_cases c1 : x ∈ fP l i m
    · rw [if_pos c1, if_pos (hPsub x c1)]
      exact (if_pos c1).symm
    · rw [if_neg c1]
      by_cases c2 : x ∈ pathN i m
      · rw [if_pos c2, if_pos c2]
        exact (if_neg c1).symm
      · rw [if_neg c2, if_neg c2]
  rw [e] at h1
  constructor
  · have hcl := clean_ev hm hi (fun x => if x = 2 * i then (⟨true, f1, f2, f3, f4, []⟩ : S29) else VX l x)
    have e2 : l.set (2 * i) (⟨true, f1, f2, f3, f4, []⟩ : S29) = mkT (2 * 2 ^ m - 1) (fun x => if x = 2 * i then (⟨true, f1, f2, f3, f4, []⟩ : S29) else VX l x) := by
      conv => lhs; rw [mkT_self l]
      rw [mkT_set, h]
    rw [← e2] at hcl
    refine .congr (fun k => ?_) (hfl.1.bind (f := fun k p => if ks.length = p.1.length ∧ hs.length = p.1.length then ((tree_copied.f k l).bind fun t2 => if 0 ≤ (wrap64 (2 * (i : Int))) then (if (wrap64 (2 * (i : Int))) < (t2.length : Int) then ((tree_clean.f k (t2.set ((wrap64 (2 * (i : Int))) : Int).toNat (⟨true, f1, f2, f3, f4, ([] : List Int)⟩ : S29)) (i : Int)).bind fun t3 => tree_Merge.l0 k p.1 ks hs t3 0) else none) else none) else some (([] : List S29), 30)) (.congr (fun k => ?_) (hcl.bind (f := fun k t3 => tree_Merge.l0 k (ints (fP l i m)) ks hs t3 0) h1)))
    · unfold tree_Merge.f
      rw [(full_same h hp.1 (by omega) _).2, full_at hm h hi, hf, Option.bind_some, if_pos rfl]
    · rw [ints_len, if_pos (And.intro hk hh), copied_at k (by omega) h5, Option.bind_some, wrap_id (by omega), if_pos (by omega), if_pos (by omega), show (2 * (i : Int)).toNat = 2 * i by omega]
  · have hab := above_ev hm h hi h5
    have e2 : (mkT (2 * 2 ^ m - 1) (abvG l i m)).set (2 * i) (⟨true, f1, f2, f3, f4, []⟩ : S29) = mkT (2 * 2 ^ m - 1) (fun x => if x ∈ pathN i m then z29 else if x = 2 * i then (⟨true, f1, f2, f3, f4, []⟩ : S29) else VX l x) := by
      rw [mkT_set]
      refine mkT_congr fun x _ => ?_
      unfold abvG
      by_cases c : x = 2 * i
      · have hn : x ∉ pathN i m := fun hh => by have := path_odd hm hi hh; omega
        rw [if_pos c, if_neg hn, if_pos c]
      · rw [if_neg c, if_neg c]
    refine .congr (fun k => ?_) (hfl.2.bind (f := fun k p => if ks.length = p.1.length ∧ hs.length = p.1.length then ((conclaveref04_above.f k l (i : Int)).bind fun t2 => if 0 ≤ (wrap64 (2 * (i : Int))) then (if (wrap64 (2 * (i : Int))) < (t2.length : Int) then conclaveref04_Merge.l0 k p.1 ks hs (t2.set ((wrap64 (2 * (i : Int))) : Int).toNat (⟨true, f1, f2, f3, f4, ([] : List Int)⟩ : S29)) 0 else none) else none) else some (([] : List S29), 30)) (.congr (fun k => ?_) (hab.bind (f := fun k t2 => if 0 ≤ (wrap64 (2 * (i : Int))) then (if (wrap64 (2 * (i : Int))) < (t2.length : Int) then conclaveref04_Merge.l0 k (ints (fP l i m)) ks hs (t2.set ((wrap64 (2 * (i : Int))) : Int).toNat (⟨true, f1, f2, f3, f4, ([] : List Int)⟩ : S29)) 0 else none) else none) (.congr (fun k => ?_) h1))))
    · unfold conclaveref04_Merge.f
      rw [(full_same h hp.1 (by omega) _).1, full_at hm h hi, hf, Option.bind_some, if_pos rfl]
    · rw [ints_len, if_pos (And.intro hk hh)]
    · rw [wrap_id (by omega), if_pos (by omega), mkT_len, if_pos (by omega), show (2 * (i : Int)).toNat = 2 * i by omega, e2, mer_same]
      rfl
theorem merge_bad {l : List S29} {m i : Nat} (hR : RT l m) (hi : i < 2 ^ m) (hf : (VX l (2 * i)).f0 = true) (f0 : Bool) (f1 f2 f3 f4 : Int) (l5 ks hs : List Int) (hk : ¬ (ks.length = (fP l i m).length ∧ hs.length = (fP l i m).length)) :
    Evr (fun k => tree_Merge.f k l (i : Int) f0 f1 f2 f3 f4 l5 ks hs) ([], 30) ∧ Evr (fun k => conclaveref04_Merge.f k l (i : Int) f0 f1 f2 f3 f4 l5 ks hs) ([], 30) := by
  have hm := hR.hm
  have h := hR.len
  have hp := pow_le32 hm
  have hfl := filt_ev hR (i : Int)
  have hfr : filtR l m (i : Int) = (fP l i m, fC l i m) := by unfold filtR; rw [if_pos (by omega), Int.toNat_natCast]
  rw [hfr] at hfl
  constructor
  · refine .congr (fun k => ?_) (hfl.1.bind (f := fun k p => if ks.length = p.1.length ∧ hs.length = p.1.length then ((tree_copied.f k l).bind fun t2 => if 0 ≤ (wrap64 (2 * (i : Int))) then (if (wrap64 (2 * (i : Int))) < (t2.length : Int) then ((tree_clean.f k (t2.set ((wrap64 (2 * (i : Int))) : Int).toNat (⟨true, f1, f2, f3, f4, ([] : List Int)⟩ : S29)) (i : Int)).bind fun t3 => tree_Merge.l0 k p.1 ks hs t3 0) else none) else none) else some (([] : List S29), 30)) (r := ([], 30)) (.const fun k => by rw [ints_len]; simp only [if_neg hk]))
    unfold tree_Merge.f
    rw [(full_same h hp.1 (by omega) _).2, full_at hm h hi, hf, Option.bind_some, if_pos rfl]
  · refine .congr (fun k => ?_) (hfl.2.bind (f := fun k p => if ks.length = p.1.length ∧ hs.length = p.1.length then ((conclaveref04_above.f k l (i : Int)).bind fun t2 => if 0 ≤ (wrap64 (2 * (i : Int))) then (if (wrap64 (2 * (i : Int))) < (t2.length : Int) then conclaveref04_Merge.l0 k p.1 ks hs (t2.set ((wrap64 (2 * (i : Int))) : Int).toNat (⟨true, f1, f2, f3, f4, ([] : List Int)⟩ : S29)) 0 else none) else none) else some (([] : List S29), 30)) (r := ([], 30)) (.const fun k => by rw [ints_len]; simp only [if_neg hk]))
    unfold conclaveref04_Merge.f
    rw [(full_same h hp.1 (by omega) _).1, full_at hm h hi, hf, Option.bind_some, if_pos rfl]
theorem merge_none {l : List S29} {m : Nat} {i : Int} (hR : RT l m) (hf : fullB l (2 ^ m) i = false) (f0 : Bool) (f1 f2 f3 f4 : Int) (l5 ks hs : List Int) : Evr (fun k => tree_Merge.f k l i f0 f1 f2 f3 f4 l5 ks hs) ([], 40) ∧ Evr (fun k => conclaveref04_Merge.f k l i f0 f1 f2 f3 f4 l5 ks hs) ([], 40) := by
  have hm := hR.hm
  have h := hR.len
  have hp := pow_le32 hm
  refine ⟨.const fun k => ?_, .const fun k => ?_⟩
  · unfold tree_Merge.f
    rw [(full_same h hp.1 (by omega) _).2, hf, Option.bind_some, if_neg (by decide)]
  · unfold conclaveref04_Merge.f
    rw [(full_same h hp.1 (by omega) _).1, hf, Option.bind_some, if_neg (by decide)]
end Go.Proofs.YtbblomnhobodkaaDoor.Pure
