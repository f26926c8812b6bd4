/- What this claim reaches of a longer text of this session. -/
import Derived.Test.YtbblomnhobodkaaDoorPTwx28
import Derived.Test.YtbblomnhobodkaaDoorPureTreeH
set_option linter.unusedVariables false
set_option linter.unusedSimpArgs false
namespace Go.Proofs.YtbblomnhobodkaaDoor.Pure
open Go.RowKit Go.Proofs.YtbblomnhobodkaaDoor Go.Proofs.YtbblomnhobodkaaDoor.PTw Go.Proofs.YtbblomnhobodkaaDoorW.PrintWords
set_option maxRecDepth 100000 in
theorem upward_fin : ∀ m : Fin 6, ∀ i : Fin 32, i.val < 2 ^ m.val → conclavelaw04_upward.f 20 (2 * (i.val : Int)) ((2 ^ m.val : Nat) : Int) = some (ints (pathN i.val m.val)) := by decide +kernel
theorem upward_at {m i : Nat} (hm : m ≤ 5) (hi : i < 2 ^ m) : Evr (fun k => conclavelaw04_upward.f k (2 * (i : Int)) ((2 ^ m : Nat) : Int)) (ints (pathN i m)) := by
  have hp := pow_le32 hm
  exact .of_mono (K := 20) (fun k a h => conclavelaw04_upward.mono _ _ k _ h) (upward_fin ⟨m, by omega⟩ ⟨i, by omega⟩ hi)
theorem mem_ints {x : Nat} {P : List Nat} : (x : Int) ∈ ints P ↔ x ∈ P := by
  unfold ints
  rw [List.mem_map]
  constructor
  · rintro ⟨y, hy, e⟩
    rw [← Int.ofNat.inj e]; exact hy
  · exact fun h => ⟨x, h, rfl⟩
section
variable {a i x : Int} {r : List S29} {f0 : Bool} {f1 f2 f3 f4 : Int} {l5 : List Int} {res : Bool}
theorem late_l1 (L : List Int) (hL : L.length ≤ 1000) : ∀ (d j : Nat) (b : Bool), d + j = L.length → Evr (fun k => (conclaveref04_Leaves.f r).bind fun t => (conclavelaw04_upward.f k (wrap64 (2 * i)) t).bind fun u => conclavelaw04_TreeLate.l2 k a r i x (b || decide (i ∈ L.drop j)) false u (u.length : Int) 0 f0 f1 f2 f3 f4 l5) res → Evr (fun k => conclavelaw04_TreeLate.l1 k a r i x b L (L.length : Int) (j : Int) f0 f1 f2 f3 f4 l5) res := by
  intro d
  induction d with
  | zero =>
    intro j b hd h
    rw [List.drop_eq_nil_of_le (by omega), decide_eq_false (List.not_mem_nil), Bool.or_false] at h
    exact .succ (fun k => by rw [conclavelaw04_TreeLate.l1, if_neg (by omega)]) h
  | succ d ih =>
    intro j b hd h
    have hj : j < L.length := by omega
    have ej : wrap64 ((j : Int) + 1) = ((j + 1 : Nat) : Int) := by rw [wrap_id (by omega)]; omega
    cases b with
    | true => exact .succ (fun k => by rw [conclavelaw04_TreeLate.l1, if_pos (by omega), if_pos (by omega), if_pos (by omega), if_pos rfl, ej]) (ih (j + 1) true (by omega) (by simpa using h))
    | false =>
      refine .succ (fun k => by rw [conclavelaw04_TreeLate.l1, if_pos (by omega), if_pos (by omega), if_pos (by omega), if_neg (by decide), ej, rd_nth hj]) (ih (j + 1) (L[j] == i) (by omega) ?_)
      have e : ((L[j] == i) || decide (i ∈ L.drop (j + 1))) = (false || decide (i ∈ L.drop j)) := by
        rw [List.drop_eq_getElem_cons hj, Bool.false_or]
        by_cases c : L[j] = i
        · have h2 : decide (i ∈ L[j] :: L.drop (j + 1)) = true := decide_eq_true (by rw [c]; exact List.mem_cons_self ..)
          rw [h2, beq_iff_eq.2 c, Bool.true_or]
        · rw [beq_eq_false_iff_ne.2 c, Bool.false_or, decide_eq_decide, List.mem_cons]
          exact ⟨.inr, fun hh => hh.resolve_left fun e => c e.symm⟩
      rw [e]
      exact h
theorem late_l2 (lt : Bool) (L : List Int) (hL : L.length ≤ 1000) : ∀ (d j : Nat) (b : Bool), d + j = L.length → Evr (fun k => if (b || decide (x ∈ L.drop j)) = true then (if 0 ≤ x then (if x < (r.length : Int) then (if (lt != (rd_T29 r x).f0) = true then some false else conclavelaw04_TreeLate.l0 k a r i (wrap64 (x + 2)) f0 f1 f2 f3 f4 l5) else none) else none) else (if (lt != false) = true then some false else conclavelaw04_TreeLate.l0 k a r i (wrap64 (x + 2)) f0 f1 f2 f3 f4 l5)) res → Evr (fun k => conclavelaw04_TreeLate.l2 k a r i x lt b L (L.length : Int) (j : Int) f0 f1 f2 f3 f4 l5) res := by
  intro d
  induction d with
  | zero =>
    intro j b hd h
    rw [List.drop_eq_nil_of_le (by omega), decide_eq_false (List.not_mem_nil), Bool.or_false] at h
    exact .succ (fun k => by rw [conclavelaw04_TreeLate.l2, if_neg (by omega)]) h
  | succ d ih =>
    intro j b hd h
    have hj : j < L.length := by omega
    have ej : wrap64 ((j : Int) + 1) = ((j + 1 : Nat) : Int) := by rw [wrap_id (by omega)]; omega
    cases b with
    | true => exact .succ (fun k => by rw [conclavelaw04_TreeLate.l2, if_pos (by omega), if_pos (by omega), if_pos (by omega), if_pos rfl, ej]) (ih (j + 1) true (by omega) (by simpa using h))
    | false =>
      refine .succ (fun k => by rw [conclavelaw04_TreeLate.l2, if_pos (by omega), if_pos (by omega), if_pos (by omega), if_neg (by decide), ej, rd_nth hj]) (ih (j + 1) (L[j] == x) (by omega) ?_)
      have e : ((L[j] == x) || decide (x ∈ L.drop (j + 1))) = (false || decide (x ∈ L.drop j)) := by
        rw [List.drop_eq_getElem_cons hj, Bool.false_or]
        by_cases c : L[j] = x
        · have h2 : decide (x ∈ L[j] :: L.drop (j + 1)) = true := decide_eq_true (by rw [c]; exact List.mem_cons_self ..)
          rw [h2, beq_iff_eq.2 c, Bool.true_or]
        · rw [beq_eq_false_iff_ne.2 c, Bool.false_or, decide_eq_decide, List.mem_cons]
          exact ⟨.inr, fun hh => hh.resolve_left fun e => c e.symm⟩
      rw [e]
      exact h
end
theorem late_l3 {t : List S29} {P : List Nat} (hP : ∀ y ∈ P, y < t.length ∧ (VX t y).f5 = []) (hl : P.length ≤ 1000) : ∀ (d j : Nat), d + j = P.length → Evr (fun k => conclavelaw04_TreeLate.l3 k t (ints P) ((ints P).length : Int) (j : Int)) true := by
  intro d
  induction d with
  | zero => exact fun j hd => .succ (f := fun _ => some true) (fun k => by rw [conclavelaw04_TreeLate.l3, ints_len, if_neg (by omega)]) (.const fun _ => rfl)
  | succ d ih =>
    intro j hd
    have hj : j < P.length := by omega
    obtain ⟨h1, h2⟩ := hP _ (List.getElem_mem hj)
    have e : (rd_T29 t (P[j] : Int)).f5 = [] := h2
    refine .succ (fun k => ?_) (ih (j + 1) (by omega))
    rw [conclavelaw04_TreeLate.l3, ints_len, if_pos (by omega), if_pos (by omega), if_pos (by omega), ints_at hj, if_pos (by omega), if_pos (by omega), e, if_pos (by simp), wrap_id (by omega), show (j : Int) + 1 = ((j + 1 : Nat) : Int) by omega]
theorem late_l0 {l : List S29} {m m' i : Nat} (hR : RT l m) (hm' : m' ≤ 5) (hi : i < 2 ^ m') (hfree : (VX l (2 * i)).f0 = false) (leaf : S29) (hRr : RT (addL l i m' leaf) m') (a : Int) (f0 : Bool) (f1 f2 f3 f4 : Int) (l5 : List Int) {res : Bool}
    (hend : Evr (fun k => conclavelaw04_TreeLate.l0 k a (addL l i m' leaf) (i : Int) ((2 * 2 ^ m' - 1 : Nat) : Int) f0 f1 f2 f3 f4 l5) res) : ∀ (d x : Nat), 2 * d + x = 2 * 2 ^ m' - 1 → x % 2 = 1 → Evr (fun k => conclavelaw04_TreeLate.l0 k a (addL l i m' leaf) (i : Int) (x : Int) f0 f1 f2 f3 f4 l5) res := by
  have hp := pow_le32 hm'
  have hlen := hRr.len
  have hni : ∀ x, (i : Int) ∉ (VX l x).f5 := fun x hx => by
    obtain ⟨j, h1, h2, h3, _⟩ := hR.rg.late x _ hx
    rw [show 2 * i = 2 * j by omega, h3] at hfree
    cases hfree
  have hup := upward_at hm' hi
  obtain ⟨r, hr⟩ : ∃ r, r = addL l i m' leaf := ⟨_, rfl⟩
  have hat : ∀ x, x < 2 * 2 ^ m' - 1 → VX r x = addG (VX l) i m' leaf x := fun x hx => by rw [hr]; exact mkT_get hx
  rw [← hr] at hlen hend ⊢
  intro d
  induction d with
  | zero => intro x hd _; rw [show x = 2 * 2 ^ m' - 1 by omega]; exact hend
  | succ d ih =>
    intro x hd ho
    have hxN : x < 2 * 2 ^ m' - 1 := by omega
    have hnx := ih (x + 2) (by omega) (by omega)
    have hrx := hat x hxN
    have hL32 : (VX r x).f5.length ≤ 1000 := by rw [hr]; have := (hRr.rg.lates x).2; omega
    have exf : (VX r x).f0 = (VX l x).f0 := by
      rw [hrx]; unfold addG
      by_cases c : x ∈ pathN i m' ∧ (VX l x).f0 = true
      · rw [if_pos c]; rfl
      · rw [if_neg c, if_neg (by omega)]
    have emem : decide ((i : Int) ∈ (VX r x).f5) = (decide (x ∈ pathN i m') && (VX l x).f0) := by
      rw [hrx]; unfold addG
      by_cases c : x ∈ pathN i m' ∧ (VX l x).f0 = true
      · rw [if_pos c, decide_eq_true c.1, c.2]
        exact decide_eq_true (insN_mem.2 (.inl rfl))
      · rw [if_neg c, if_neg (by omega), decide_eq_false (hni x)]
        by_cases c1 : x ∈ pathN i m'
        · have : (VX l x).f0 = false := by simpa using fun h => c ⟨c1, h⟩
          rw [this, Bool.and_false]
        · rw [decide_eq_false c1, Bool.false_and]
    refine .succ (f := fun k => conclavelaw04_TreeLate.l1 k a r (i : Int) (x : Int) false (VX r x).f5 ((VX r x).f5.length : Int) ((0 : Nat) : Int) f0 f1 f2 f3 f4 l5) (fun k => ?_) ?_
    · rw [conclavelaw04_TreeLate.l0, hlen, if_pos (by omega), if_pos (by omega)]
      rfl
    · refine late_l1 (VX r x).f5 hL32 (VX r x).f5.length 0 false (by omega) ?_
      rw [List.drop_zero, Bool.false_or, emem]
      refine .congr (f := fun k => (conclavelaw04_upward.f k (2 * (i : Int)) ((2 ^ m' : Nat) : Int)).bind fun u => conclavelaw04_TreeLate.l2 k a r (i : Int) (x : Int) (decide (x ∈ pathN i m') && (VX l x).f0) false u (u.length : Int) ((0 : Nat) : Int) f0 f1 f2 f3 f4 l5) (fun k => ?_) (hup.bind ?_)
      · rw [(leaves_at hlen hp.1 (by omega)).1, Option.bind_some, wrap_id (by omega)]
        rfl
      · refine late_l2 _ (ints (pathN i m')) (by rw [ints_len]; simp [pathN]; omega) _ 0 false (by rw [Nat.add_zero]) ?_
        rw [List.drop_zero, Bool.false_or]
        have e0 : (rd_T29 r (x : Int)).f0 = (VX l x).f0 := exf
        by_cases c1 : x ∈ pathN i m'
        · rw [decide_eq_true (mem_ints.2 c1), decide_eq_true c1, Bool.true_and]
          refine .congr (fun k => ?_) hnx
          rw [if_pos rfl, if_pos (by omega), hlen, if_pos (by omega), e0, if_neg (by simp), wrap_id (by omega)]
          rfl
        · rw [decide_eq_false (fun h => c1 (mem_ints.1 h)), decide_eq_false c1, Bool.false_and]
          refine .congr (fun k => ?_) hnx
          rw [if_neg (by decide), if_neg (by decide), wrap_id (by omega)]
          rfl
theorem late_ev {t : List S29} {m : Nat} (hR : RT t m) (a : Int) (f0 : Bool) (f1 f2 f3 f4 : Int) (l5 : List Int) : Evr (fun k => (tree_Add.f k t f0 f1 f2 f3 f4 l5).bind fun bt => if bt.2.2 = 0 then conclavelaw04_TreeLate.l0 k a bt.1 bt.2.1 1 f0 f1 f2 f3 f4 l5 else (conclaveref04_Members.f k t).bind fun u => some ((u.length : Int) == 32)) true := by
  rcases add_cases hR with ⟨i, m', hc, hle, hi, hm5, hfull, hfree, hrt, h⟩ | ⟨rfl, hfull, h⟩
  · have hRr := hrt ⟨true, f1, f2, f3, f4, []⟩ ⟨rfl, rfl⟩
    refine (h f0 f1 f2 f3 f4 l5).1.bind (.congr (f := fun k => conclavelaw04_TreeLate.l0 k a (addL t i m' ⟨true, f1, f2, f3, f4, []⟩) (i : Int) ((1 : Nat) : Int) f0 f1 f2 f3 f4 l5) (fun k => by rw [if_pos rfl]; rfl) ?_)
    have hp := pow_le32 hm5
    refine late_l0 hR hm5 hi hfree _ hRr a f0 f1 f2 f3 f4 l5 ?_ (2 ^ m' - 1) 1 (by omega) (by decide)
    generalize addL t i m' ⟨true, f1, f2, f3, f4, []⟩ = r at hRr
    have hlen := hRr.len
    have op : ∀ k, conclavelaw04_TreeLate.l0 (k + 1) a r (i : Int) ((2 * 2 ^ m' - 1 : Nat) : Int) f0 f1 f2 f3 f4 l5 = if fullB r (2 ^ m') a = true then ((tree_Filtered.f k r a).bind fun bt => if 0 ≤ (bt.1.length : Int) then (if ((bt.1.length : Int) : Int).toNat ≤ 35184372088832 then ((tree_Merge.f k r a f0 f1 f2 f3 f4 l5 (List.replicate ((bt.1.length : Int) : Int).toNat 0) (List.replicate ((bt.1.length : Int) : Int).toNat 0)).bind fun bu => if bu.2 = 0 then ((conclaveref04_Leaves.f bu.1).bind fun n => (conclavelaw04_upward.f k (wrap64 (2 * a)) n).bind fun u => conclavelaw04_TreeLate.l3 k bu.1 u (u.length : Int) 0) else some false) else none) else none) else some true := fun k => by
      rw [conclavelaw04_TreeLate.l0, hlen, if_neg (by omega), (full_same hlen hp.1 (by omega) _).1, Option.bind_some]
    refine .succ op ?_
    cases hf : fullB r (2 ^ m') a with
    | false => exact .const fun k => by rw [if_neg (by decide)]
    | true =>
      have hb := fullB_lt hf
      obtain ⟨n, rfl⟩ : ∃ n : Nat, a = (n : Int) := ⟨a.toNat, by omega⟩
      have hn : n < 2 ^ m' := by omega
      rw [full_at hm5 hlen hn] at hf
      have hfl := (filt_ev hRr (n : Int)).1
      have hfr : filtR r m' (n : Int) = (fP r n m', fC r n m') := by unfold filtR; rw [if_pos (by omega), Int.toNat_natCast]
      rw [hfr] at hfl
      obtain ⟨F, hF, hM, _⟩ := merge_ev hRr hn hf f0 f1 f2 f3 f4 l5 (List.replicate (fP r n m').length 0) (List.replicate (fP r n m').length 0) (by simp) (by simp)
      have hpl := fP_len r n m'
      refine .congr (fun k => by rw [if_pos rfl]) (hfl.bind (.congr (fun k => ?_) (hM.bind (f := fun k bu => if bu.2 = 0 then ((conclaveref04_Leaves.f bu.1).bind fun n_ => (conclavelaw04_upward.f k (wrap64 (2 * (n : Int))) n_).bind fun u => conclavelaw04_TreeLate.l3 k bu.1 u (u.length : Int) 0) else some false) ?_)))
      · dsimp only
        rw [ints_len, if_pos (by omega), Int.toNat_natCast, if_pos (by omega)]
      · have hRm := mer_rt hRr hn (leaf := ⟨true, f1, f2, f3, f4, []⟩) ⟨rfl, rfl⟩ (okF_of hF (P := fP r n m'))
        obtain ⟨g, hg⟩ : ∃ g, g = merG (VX r) n m' ⟨true, f1, f2, f3, f4, []⟩ (fun x => if x ∈ fP r n m' then F x else z29) := ⟨_, rfl⟩
        rw [← hg] at hRm ⊢
        have hl3 := late_l3 (t := mkT (2 * 2 ^ m' - 1) g) (P := pathN n m') (fun y hy => ⟨by rw [mkT_len]; exact path_lt hm5 hn hy, by
          rw [mkT_get (path_lt hm5 hn hy), hg]
          unfold merG
          rw [if_pos hy]
          exact ((okF_of hF (P := fP r n m')).f5 y).1⟩) (by simp [pathN]; omega) (pathN n m').length 0 (by omega)
        refine .congr (fun k => ?_) ((upward_at hm5 hn).bind (f := fun k u => conclavelaw04_TreeLate.l3 k (mkT (2 * 2 ^ m' - 1) g) u (u.length : Int) 0) hl3)
        rw [if_pos rfl, (leaves_at (l := mkT (2 * 2 ^ m' - 1) g) (n := 2 ^ m') (mkT_len _ _) hp.1 (by omega)).1, Option.bind_some, wrap_id (by omega)]
  · refine (h f0 f1 f2 f3 f4 l5).1.bind (.congr (fun k => by rw [if_neg (by decide)]) ((rmembers_ev hR.len (by decide) (by decide)).bind (.const fun k => ?_)))
    have e : fullN t 0 (2 ^ 5) = List.range' 0 32 := by
      unfold fullN
      exact List.filter_eq_self.2 fun j hj => hfull j (by have := (List.mem_range'_1.1 hj).2; omega)
    rw [ints_len, e]
    rfl
theorem treeLate_ev (f0 : Bool) (f1 f2 f3 f4 : Int) (l5 : List Int) (ops : List S32) (a : Int) : Evr (fun k => conclavelaw04_TreeLate.f k f0 f1 f2 f3 f4 l5 ops a) true := by
  obtain ⟨t, m, hR, hg⟩ := grown_ev f0 f1 f2 f3 f4 l5 ops
  refine .congr (fun k => ?_) (hg.bind (f := fun k t => (tree_Add.f k t f0 f1 f2 f3 f4 l5).bind fun bt => if bt.2.2 = 0 then conclavelaw04_TreeLate.l0 k a bt.1 bt.2.1 1 f0 f1 f2 f3 f4 l5 else (conclaveref04_Members.f k t).bind fun u => some ((u.length : Int) == 32)) (late_ev hR a f0 f1 f2 f3 f4 l5))
  unfold conclavelaw04_TreeLate.f
  rw [show conclavelaw04_anchor.f k = some true from rfl, Option.bind_some, if_pos rfl]
end Go.Proofs.YtbblomnhobodkaaDoor.Pure
