/- What this claim reaches of a longer text of this session. -/
import Derived.Test.YtbblomnhobodkaaDoorPTwx16
import Derived.Test.YtbblomnhobodkaaDoorPureTreeC
set_option linter.unusedVariables false
set_option linter.unusedSimpArgs false
namespace Go.Proofs.YtbblomnhobodkaaDoor.Pure
open Go.RowKit Go.Proofs.YtbblomnhobodkaaDoor Go.Proofs.YtbblomnhobodkaaDoor.PTw Go.Proofs.YtbblomnhobodkaaDoorW.PrintWords
def hT (L : S29) (m : Nat) (bs : Nat → Bool) : List S29 := mkT (2 * 2 ^ m - 1) (fun x => if x % 2 = 0 ∧ bs (x / 2) = true then L else z29)
def upd (bs : Nat → Bool) (i : Nat) (b : Bool) : Nat → Bool := fun j => if j = i then b else bs j
structure HInv (m : Nat) (bs : Nat → Bool) : Prop where
  hm : m ≤ 5
  lt : ∀ j, bs j = true → j < 2 ^ m
  top : ∃ j, bs j = true ∧ 2 ^ m / 2 ≤ j
structure IsL (L : S29) : Prop where
  f0 : L.f0 = true
  f5 : L.f5 = []
section
variable {L : S29} {m : Nat} {bs : Nat → Bool}
theorem hT_len : (hT L m bs).length = 2 * 2 ^ m - 1 := mkT_len _ _
theorem hT_at (hI : HInv m bs) (x : Nat) : VX (hT L m bs) x = if x % 2 = 0 ∧ bs (x / 2) = true then L else z29 := by
  by_cases c : x < 2 * 2 ^ m - 1
  · exact mkT_get c
  · rw [VX_out (by rw [hT_len]; omega), if_neg]
    rintro ⟨h1, h2⟩
    have := hI.lt _ h2
    omega
theorem hT_full (hI : HInv m bs) (hL : IsL L) (j : Nat) : (VX (hT L m bs) (2 * j)).f0 = bs j := by
  rw [hT_at hI, show 2 * j / 2 = j by omega, show 2 * j % 2 = 0 by omega]
  cases h : bs j with
  | true => rw [if_pos ⟨rfl, rfl⟩]; exact hL.f0
  | false => rw [if_neg (fun h => by cases h.2)]; rfl
theorem hT_odd (hI : HInv m bs) {x : Nat} (h : x % 2 = 1) : VX (hT L m bs) x = z29 := by
  rw [hT_at hI, if_neg]
  rintro ⟨h1, _⟩
  omega
theorem hT_late (hL : IsL L) : LateOk (hT L m bs) := by
  have h : ∀ v ∈ hT L m bs, v.f5 = [] := by
    intro v hv
    obtain ⟨x, _, rfl⟩ := List.mem_map.1 hv
    split
    · exact hL.f5
    · rfl
  exact ⟨fun v hv => by rw [h v hv]; simp, fun v hv _ => by rw [h v hv]; exact List.Pairwise.nil⟩
theorem hT_add {m' i : Nat} (hI : HInv m bs) (hi : i < 2 ^ m') (hm : m' ≤ 5) : addL (hT L m bs) i m' L = hT L m' (upd bs i true) := by
  refine mkT_congr fun x _ => ?_
  have hok := pathN_ok hm hi
  by_cases c : x % 2 = 1
  · have hz := hT_odd (L := L) hI c
    rw [hz, if_neg (fun h => by cases h.2), if_neg (by omega), if_neg (fun h => by omega)]
  · have hn : x ∉ pathN i m' := fun hx => c (hok.2 x hx).1
    rw [if_neg (fun h => hn h.1), hT_at hI]
    by_cases c2 : x = 2 * i
    · subst c2
      rw [if_pos rfl, if_pos ⟨by omega, by unfold upd; rw [if_pos (by omega)]⟩]
    · rw [if_neg c2]
      have : upd bs i true (x / 2) = bs (x / 2) := by unfold upd; rw [if_neg (by omega)]
      rw [this]
theorem hT_cut {i : Nat} (hI : HInv m bs) (hi : i < 2 ^ m) (m' : Nat) : mkT (2 * 2 ^ m' - 1) (cutG (hT L m bs) i m) = hT L m' (upd bs i false) := by
  refine mkT_congr fun x _ => ?_
  have hok := pathN_ok hI.hm hi
  unfold cutG
  by_cases c : x % 2 = 1
  · have hz := hT_odd (L := L) hI c
    rw [hz, if_neg (show ¬ x = 2 * i by omega), ite_self, if_neg (fun h => by omega)]
  · have hn : x ∉ pathN i m := fun hx => c (hok.2 x hx).1
    rw [if_neg hn, hT_at hI]
    by_cases c2 : x = 2 * i
    · subst c2
      rw [if_pos rfl, if_neg (fun h => by have := h.2; unfold upd at this; rw [if_pos (by omega)] at this; cases this)]
    · rw [if_neg c2]
      have : upd bs i false (x / 2) = bs (x / 2) := by unfold upd; rw [if_neg (by omega)]
      rw [this]
def cntB (bs : Nat → Bool) (n : Nat) : Nat := (List.range n).countP bs
theorem cnt_upd (bs : Nat → Bool) (i : Nat) (h : bs i = true) : ∀ (l : List Nat), l.Nodup → i ∈ l → l.countP bs = l.countP (upd bs i false) + 1
  | a :: l, hn, hi => by
    have hn' := List.nodup_cons.1 hn
    rw [List.countP_cons, List.countP_cons]
    by_cases c : a = i
    · subst c
      have e : l.countP bs = l.countP (upd bs a false) := List.countP_congr fun x hx => by
        have : x ≠ a := fun e => hn'.1 (by rw [← e]; exact hx)
        unfold upd
        rw [if_neg this]
      rw [e, h]
      unfold upd
      simp
    · have hi' : i ∈ l := by rcases List.mem_cons.1 hi with h1 | h1; exact absurd h1.symm c; exact h1
      rw [cnt_upd bs i h l hn'.2 hi']
      have : upd bs i false a = bs a := by unfold upd; rw [if_neg c]
      rw [this]
      omega
theorem cnt_cut (bs : Nat → Bool) {n : Nat} (h : ∀ j, bs j = true → j < n) (d : Nat) : cntB bs (n + d) = cntB bs n := by
  unfold cntB
  rw [List.range_add, List.countP_append, List.countP_map]
  have : (List.range d).countP (bs ∘ fun x => n + x) = 0 := List.countP_eq_zero.2 fun x _ hx => by
    have hx' : bs (n + x) = true := hx
    have := h _ hx'
    omega
  omega
theorem full_cnt (hI : HInv m bs) (hL : IsL L) : (fullN (hT L m bs) 0 (2 ^ m)).length = cntB bs 64 := by
  have hp := pow_le32 hI.hm
  unfold fullN
  rw [← List.countP_eq_length_filter, ← List.range_eq_range']
  have e : cntB bs 64 = cntB bs (2 ^ m) := by
    have := cnt_cut bs hI.lt (64 - 2 ^ m)
    rw [show 2 ^ m + (64 - 2 ^ m) = 64 by omega] at this
    exact this
  rw [e]
  unfold cntB
  exact List.countP_congr fun x _ => by rw [hT_full hI hL]
theorem tops_of (hb : ∃ j, bs j = true) : ∀ (q : Nat), (∀ j, bs j = true → j < 2 ^ q) → ∃ m', m' ≤ q ∧ (∀ j, bs j = true → j < 2 ^ m') ∧ ∃ j, bs j = true ∧ 2 ^ m' / 2 ≤ j := by
  intro q
  induction q with
  | zero =>
    intro h
    obtain ⟨j, hj⟩ := hb
    exact ⟨0, Nat.le_refl _, h, j, hj, by simp⟩
  | succ q ih =>
    intro h
    by_cases c : ∃ j, bs j = true ∧ 2 ^ (q + 1) / 2 ≤ j
    · exact ⟨q + 1, Nat.le_refl _, h, c⟩
    · obtain ⟨m', h1, h2, h3⟩ := ih (fun j hj => by
        have : ¬ 2 ^ (q + 1) / 2 ≤ j := fun hh => c ⟨j, hj, hh⟩
        rw [Nat.pow_succ] at this
        omega)
      exact ⟨m', by omega, h2, h3⟩
theorem add_next {i : Nat} (hI : HInv m bs) (hL : IsL L) (hi : ∀ j, j < i → bs j = true) (hn : bs i = false) (h32 : i < 32) : ∃ m', HInv m' (upd bs i true) ∧ ∀ (f0 : Bool) (f1 f2 f3 f4 : Int) (l5 : List Int), L = ⟨true, f1, f2, f3, f4, []⟩ → Evr (fun k => tree_Add.f k (hT L m bs) f0 f1 f2 f3 f4 l5) (hT L m' (upd bs i true), (i : Int), 0) := by
  have hp := pow_le32 hI.hm
  have hle : i ≤ 2 ^ m := by
    rcases Nat.eq_zero_or_pos i with h | h
    · rw [h]; exact Nat.zero_le _
    · have := hI.lt (i - 1) (hi _ (by omega)); omega
  obtain ⟨m', hc, hlt, hm5⟩ : ∃ m', ((i < 2 ^ m ∧ m' = m) ∨ (i = 2 ^ m ∧ m' = m + 1 ∧ m' ≤ 5)) ∧ i < 2 ^ m' ∧ m' ≤ 5 := by
    by_cases c : i < 2 ^ m
    · exact ⟨m, .inl ⟨c, rfl⟩, c, hI.hm⟩
    · have e : i = 2 ^ m := by omega
      have h4 : m ≤ 4 := by
        rcases Nat.lt_or_ge 4 m with h | h
        · have : 2 ^ 5 ≤ 2 ^ m := Nat.pow_le_pow_right (by decide) h
          omega
        · exact h
      exact ⟨m + 1, .inr ⟨e, rfl, by omega⟩, by rw [Nat.pow_succ]; omega, by omega⟩
  refine ⟨m', ⟨hm5, fun j hj => ?_, ?_⟩, fun f0 f1 f2 f3 f4 l5 e => ?_⟩
  · by_cases c : j = i
    · omega
    · have hb : bs j = true := by unfold upd at hj; rw [if_neg c] at hj; exact hj
      have := hI.lt j hb
      have hmm : 2 ^ m ≤ 2 ^ m' := Nat.pow_le_pow_right (by decide) (by omega)
      omega
  · rcases hc with ⟨_, rfl⟩ | ⟨e, rfl, _⟩
    · obtain ⟨j, hj, h2⟩ := hI.top
      refine ⟨j, ?_, h2⟩
      unfold upd
      split
      · rfl
      · exact hj
    · exact ⟨i, by unfold upd; rw [if_pos rfl], by rw [Nat.pow_succ]; omega⟩
  · have h := add_ev (l := hT L m bs) (i := i) hI.hm hT_len (hT_late hL) hle (fun j hj => by rw [hT_full hI hL]; exact hi j hj) (fun _ => by rw [hT_full hI hL]; exact hn) hc f0 f1 f2 f3 f4 l5
    rw [← e, hT_add hI hlt hm5] at h
    exact h
theorem rem_next {i : Nat} (hI : HInv m bs) (hL : IsL L) (hb : bs i = true) (hc : 1 < cntB bs 64) : ∃ m', HInv m' (upd bs i false) ∧ Evr (fun k => tree_Remove.f k (hT L m bs) (i : Int)) (hT L m' (upd bs i false), 0) := by
  have hp := pow_le32 hI.hm
  have hi := hI.lt i hb
  have hcu := cnt_upd bs i hb (List.range 64) List.nodup_range (List.mem_range.2 (by omega))
  have hex : ∃ j, upd bs i false j = true := by
    have : 0 < (List.range 64).countP (upd bs i false) := by unfold cntB at hc; omega
    obtain ⟨j, _, hj⟩ := List.countP_pos_iff.1 this
    exact ⟨j, hj⟩
  have hlt : ∀ j, upd bs i false j = true → j < 2 ^ m := fun j hj => by
    unfold upd at hj
    split at hj
    · cases hj
    · exact hI.lt j hj
  obtain ⟨m', h1, h2, j, h3, h4⟩ := tops_of hex m hlt
  refine ⟨m', ⟨by have := hI.hm; omega, h2, j, h3, h4⟩, ?_⟩
  have hg : ∀ j, (cutG (hT L m bs) i m (2 * j)).f0 = upd bs i false j := fun j => by
    have hok := pathN_ok hI.hm hi
    have hn : 2 * j ∉ pathN i m := fun hx => by have := (hok.2 _ hx).1; omega
    unfold cutG upd
    rw [if_neg hn]
    by_cases c : j = i
    · rw [if_pos (by omega), if_pos c]; rfl
    · rw [if_neg (by omega), if_neg c, hT_full hI hL]
  have h := remove_ev (l := hT L m bs) (i := i) hI.hm hT_len (hT_late hL) hi (by rw [hT_full hI hL]; exact hb) (by rw [full_cnt hI hL]; omega) (m' := m') ⟨h1, fun q hq1 hq2 => by
    rw [hg]
    cases hh : upd bs i false q with
    | false => rfl
    | true => have := h2 q hh; omega, j, h4, h2 j h3, by rw [hg]; exact h3⟩
  rw [hT_cut hI hi m'] at h
  exact h
theorem rem_none {v : Int} (hI : HInv m bs) (hL : IsL L) (h : ∀ i : Nat, v = (i : Int) → bs i = true → cntB bs 64 = 1) : Evr (fun k => tree_Remove.f k (hT L m bs) v) ([], 40) := by
  refine remove_one hI.hm hT_len fun hf => ?_
  obtain ⟨h0, h1⟩ := fullB_lt hf
  obtain ⟨i, rfl⟩ : ∃ i : Nat, v = (i : Int) := ⟨v.toNat, by omega⟩
  rw [full_cnt hI hL]
  refine h i rfl ?_
  unfold fullB at hf
  simp only [Bool.and_eq_true] at hf
  have := hf.2
  have e : (VX (hT L m bs) (2 * i)).f0 = true := this
  rw [hT_full hI hL] at e
  exact e
end
def mkB (bs : Nat → Bool) : List Bool := (List.range 64).map bs
theorem mkB_len (bs : Nat → Bool) : (mkB bs).length = 64 := by simp [mkB]
theorem mkB_get (bs : Nat → Bool) {j : Nat} (h : j < 64) : rdOf false (mkB bs) (j : Int) = bs j := by
  unfold rdOf
  rw [Int.toNat_natCast, List.getD_eq_getElem?_getD, List.getElem?_eq_getElem (by rw [mkB_len]; exact h)]
  simp [mkB]
theorem mkB_set (bs : Nat → Bool) (i : Nat) (b : Bool) : (mkB bs).set i b = mkB (upd bs i b) := by
  refine List.ext_getElem (by simp [mkB_len]) fun x h1 h2 => ?_
  rw [List.getElem_set]
  simp only [mkB, List.getElem_map, List.getElem_range, upd]
  by_cases c : i = x
  · rw [if_pos c, if_pos c.symm]
  · rw [if_neg c, if_neg (fun e => c e.symm)]
section
variable {L : S29} (f0 : Bool) (f1 f2 f3 f4 : Int) (l5 : List Int)
theorem holes_l3 (hL : IsL L) (eL : L = ⟨true, f1, f2, f3, f4, []⟩) {m : Nat} {bs : Nat → Bool} (hI : HInv m bs) {w : Nat} (hw : ∀ j, j < w → bs j = true) (hn : bs w = false) : ∀ (d j : Nat), d + j = w → Evr (fun k => conclavelaw04_TreeHoles.l3 k (hT L m bs) (mkB bs) (j : Int) f0 f1 f2 f3 f4 l5) true := by
  have hp := pow_le32 hI.hm
  have hw32 : w ≤ 32 := by
    rcases Nat.eq_zero_or_pos w with h | h
    · rw [h]; decide
    · have := hI.lt (w - 1) (hw _ (by omega)); omega
  intro d
  induction d with
  | zero =>
    intro j hd
    have : j = w := by omega
    subst this
    have hop : ∀ k, conclavelaw04_TreeHoles.l3 (k + 1) (hT L m bs) (mkB bs) (j : Int) f0 f1 f2 f3 f4 l5 = (tree_Add.f k (hT L m bs) f0 f1 f2 f3 f4 l5).bind fun bt753 => if (j : Int) = 32 then some (bt753.2.2 == 41) else if bt753.2.2 = 0 then some (bt753.2.1 == (j : Int)) else some false := fun k => by
      rw [conclavelaw04_TreeHoles.l3, if_pos (by omega), mkB_len, if_pos (by omega), mkB_get bs (by omega), hn, if_neg (by decide)]
    refine .succ hop ?_
    by_cases c : j = 32
    · subst c
      have hm5 : m = 5 := by
        have h31 := hI.lt 31 (hw 31 (by omega))
        have := hI.hm
        rcases Nat.lt_or_ge m 5 with h | h
        · have : 2 ^ m ≤ 2 ^ 4 := Nat.pow_le_pow_right (by decide) (by omega)
          omega
        · omega
      subst hm5
      refine (add_none (l := hT L 5 bs) hT_len (fun j hj => by rw [hT_full hI hL]; exact hw j hj) f0 f1 f2 f3 f4 l5).bind (.const fun k => ?_)
      rw [if_pos (by decide)]
      rfl
    · obtain ⟨m', _, h⟩ := add_next hI hL hw hn (by omega)
      refine (h f0 f1 f2 f3 f4 l5 eL).bind (.const fun k => ?_)
      rw [if_neg (by omega), if_pos rfl]
      simp
  | succ d ih =>
    intro j hd
    refine .succ (fun k => ?_) (ih (j + 1) (by omega))
    rw [conclavelaw04_TreeHoles.l3, if_pos (by omega), mkB_len, if_pos (by omega), mkB_get bs (by omega), hw j (by omega), if_pos rfl, wrap_id (by omega), show (j : Int) + 1 = ((j + 1 : Nat) : Int) by omega]
theorem first_false {bs : Nat → Bool} {n : Nat} (h : bs n = false) : ∃ w, w ≤ n ∧ (∀ j, j < w → bs j = true) ∧ bs w = false := by
  have h2 : ∀ q, (∀ j, j < q → bs j = true) ∨ ∃ w, w < q ∧ (∀ j, j < w → bs j = true) ∧ bs w = false := by
    intro q
    induction q with
    | zero => exact .inl fun j hj => by omega
    | succ q ih =>
      rcases ih with h1 | ⟨w, h1, h2⟩
      · cases hq : bs q with
        | false => exact .inr ⟨q, by omega, h1, hq⟩
        | true =>
          refine .inl fun j hj => ?_
          rcases Nat.lt_or_ge j q with h | h
          · exact h1 j h
          · rw [show j = q by omega]; exact hq
      · exact .inr ⟨w, by omega, h2⟩
  rcases h2 (n + 1) with h1 | ⟨w, h1, h2⟩
  · rw [h1 n (by omega)] at h; cases h
  · exact ⟨w, by omega, h2⟩
theorem holes_l2 (hL : IsL L) (eL : L = ⟨true, f1, f2, f3, f4, []⟩) (gone : List Int) (hg : gone.length ≤ 40) : ∀ (d j : Nat), d + j = gone.length → ∀ (m : Nat) (bs : Nat → Bool), HInv m bs → Evr (fun k => conclavelaw04_TreeHoles.l2 k (hT L m bs) (mkB bs) (cntB bs 64 : Int) gone (gone.length : Int) (j : Int) f0 f1 f2 f3 f4 l5) true := by
  intro d
  induction d with
  | zero =>
    intro j hd m bs hI
    have hp := pow_le32 hI.hm
    have h32 : bs 32 = false := by
      cases h : bs 32 with
      | false => rfl
      | true => have := hI.lt 32 h; omega
    obtain ⟨w, _, hw, hn⟩ := first_false h32
    refine .succ (fun k => ?_) (holes_l3 f0 f1 f2 f3 f4 l5 hL eL hI hw hn w 0 (by omega))
    rw [conclavelaw04_TreeHoles.l2, if_neg (by omega)]
    rfl
  | succ d ih =>
    intro j hd m bs hI
    have hp := pow_le32 hI.hm
    have hcb : cntB bs 64 ≤ 64 := by unfold cntB; have := List.countP_le_length (p := bs) (l := List.range 64); simpa using this
    obtain ⟨v, hv⟩ : ∃ v, rd gone (j : Int) = v := ⟨_, rfl⟩
    have hnx := ih (j + 1) (by omega)
    -- the three ways meet in j4
    have stay : ∀ (u : List S29) (e : Int), e ≠ 0 → Evr (fun k => conclavelaw04_TreeHoles.j4 k (hT L m bs) (mkB bs) (cntB bs 64 : Int) v u e false gone (gone.length : Int) (j : Int) f0 f1 f2 f3 f4 l5) true := fun u e he => by
      refine .succ (fun k => ?_) (hnx m bs hI)
      have hb : (false != (e == 0)) = false := by
        have : (e == 0) = false := by simpa using he
        rw [this]; rfl
      rw [conclavelaw04_TreeHoles.j4, hb, if_neg (by decide), if_neg (by decide), wrap_id (by omega), show (j : Int) + 1 = ((j + 1 : Nat) : Int) by omega]
    by_cases c0 : 0 ≤ v ∧ v < 64
    · obtain ⟨i, rfl⟩ : ∃ i : Nat, v = (i : Int) := ⟨v.toNat, by omega⟩
      have hmx : mx 0 (mn (i : Int) 63) = (i : Int) := by unfold mx mn; split <;> split <;> omega
      cases hb : bs i with
      | false =>
        have hop : ∀ k, conclavelaw04_TreeHoles.l2 (k + 1) (hT L m bs) (mkB bs) (cntB bs 64 : Int) gone (gone.length : Int) (j : Int) f0 f1 f2 f3 f4 l5 = (tree_Remove.f k (hT L m bs) (i : Int)).bind fun bt => conclavelaw04_TreeHoles.j4 k (hT L m bs) (mkB bs) (cntB bs 64 : Int) (i : Int) bt.1 bt.2 false gone (gone.length : Int) (j : Int) f0 f1 f2 f3 f4 l5 := fun k => by
          rw [conclavelaw04_TreeHoles.l2, if_pos (by omega), if_pos (by omega), if_pos (by omega), hv]
          congr 1
          funext bt
          rw [if_pos (show (i : Int) ≥ 0 by omega), if_pos c0.2, hmx, if_pos (show 0 ≤ (i : Int) by omega), mkB_len, if_pos (by omega), mkB_get bs (by omega), hb, if_neg (by decide)]
        refine .succ hop ((rem_none hI hL (fun q e hq => ?_)).bind (stay _ _ (by decide)))
        have : q = i := by omega
        subst this
        rw [hb] at hq; cases hq
      | true =>
        have hop : ∀ k, conclavelaw04_TreeHoles.l2 (k + 1) (hT L m bs) (mkB bs) (cntB bs 64 : Int) gone (gone.length : Int) (j : Int) f0 f1 f2 f3 f4 l5 = (tree_Remove.f k (hT L m bs) (i : Int)).bind fun bt => conclavelaw04_TreeHoles.j4 k (hT L m bs) (mkB bs) (cntB bs 64 : Int) (i : Int) bt.1 bt.2 (decide ((cntB bs 64 : Int) > 1)) gone (gone.length : Int) (j : Int) f0 f1 f2 f3 f4 l5 := fun k => by
          rw [conclavelaw04_TreeHoles.l2, if_pos (by omega), if_pos (by omega), if_pos (by omega), hv]
          congr 1
          funext bt
          rw [if_pos (show (i : Int) ≥ 0 by omega), if_pos c0.2, hmx, if_pos (show 0 ≤ (i : Int) by omega), mkB_len, if_pos (by omega), mkB_get bs (by omega), hb, if_pos rfl]
        refine .succ hop ?_
        by_cases c1 : 1 < cntB bs 64
        · obtain ⟨m', hI', hr⟩ := rem_next hI hL hb c1
          have hcu := cnt_upd bs i hb (List.range 64) List.nodup_range (List.mem_range.2 (by omega))
          refine hr.bind ?_
          rw [decide_eq_true (by omega)]
          refine .succ (fun k => ?_) (hnx m' (upd bs i false) hI')
          rw [conclavelaw04_TreeHoles.j4, show (true != ((0 : Int) == 0)) = false from rfl, if_neg (by decide), if_pos rfl, if_pos (by omega), mkB_len, if_pos (by omega), Int.toNat_natCast, mkB_set, wrap_id (by omega), wrap_id (by omega), show (j : Int) + 1 = ((j + 1 : Nat) : Int) by omega]
          have e : (cntB bs 64 : Int) - 1 = (cntB (upd bs i false) 64 : Int) := by unfold cntB; omega
          rw [e]
        · have h1 : cntB bs 64 = 1 := by
            have hcu := cnt_upd bs i hb (List.range 64) List.nodup_range (List.mem_range.2 (by omega))
            unfold cntB at c1 ⊢
            omega
          rw [decide_eq_false (by omega)]
          exact (rem_none hI hL (fun _ _ _ => h1)).bind (stay _ _ (by decide))
    · have hb : ∀ k, conclavelaw04_TreeHoles.l2 (k + 1) (hT L m bs) (mkB bs) (cntB bs 64 : Int) gone (gone.length : Int) (j : Int) f0 f1 f2 f3 f4 l5 = (tree_Remove.f k (hT L m bs) v).bind fun bt => conclavelaw04_TreeHoles.j4 k (hT L m bs) (mkB bs) (cntB bs 64 : Int) v bt.1 bt.2 false gone (gone.length : Int) (j : Int) f0 f1 f2 f3 f4 l5 := fun k => by
        rw [conclavelaw04_TreeHoles.l2, if_pos (by omega), if_pos (by omega), if_pos (by omega), hv]
        congr 1
        funext bt
        by_cases c1 : v ≥ 0
        · rw [if_pos c1, if_neg (by omega)]
        · rw [if_neg c1]
      refine .succ hb ((rem_none hI hL (fun q e hq => ?_)).bind (stay _ _ (by decide)))
      have := hI.lt q hq
      omega
def below (n : Nat) : Nat → Bool := fun j => decide (j < n)
theorem below_upd (n : Nat) : upd (below n) n true = below (n + 1) := by
  funext j
  unfold upd below
  by_cases c : j = n
  · rw [if_pos c, decide_eq_true (by omega)]
  · rw [if_neg c]
    by_cases c2 : j < n
    · rw [decide_eq_true c2, decide_eq_true (by omega)]
    · rw [decide_eq_false c2, decide_eq_false (by omega)]
theorem cnt_below : ∀ n : Nat, n ≤ 64 → cntB (below n) 64 = n := by
  have : ∀ n : Fin 65, cntB (below n.val) 64 = n.val := by decide +kernel
  exact fun n hn => this ⟨n, by omega⟩
theorem holes_l1 (hL : IsL L) (eL : L = ⟨true, f1, f2, f3, f4, []⟩) (gone : List Int) (hg : gone.length ≤ 40) {n m : Nat} (hn : n ≤ 32) (hI : HInv m (below n)) : ∀ (d j : Nat), d + j = n → Evr (fun k => conclavelaw04_TreeHoles.l1 k (n : Int) gone (hT L m (below n)) (mkB (below j)) (j : Int) f0 f1 f2 f3 f4 l5) true := by
  intro d
  induction d with
  | zero =>
    intro j hd
    have : j = n := by omega
    subst this
    have h := holes_l2 f0 f1 f2 f3 f4 l5 hL eL gone hg gone.length 0 (by omega) m (below j) hI
    rw [cnt_below j (by omega)] at h
    refine .succ (fun k => ?_) h
    rw [conclavelaw04_TreeHoles.l1, if_neg (by omega)]
    rfl
  | succ d ih =>
    intro j hd
    refine .succ (fun k => ?_) (ih (j + 1) (by omega))
    rw [conclavelaw04_TreeHoles.l1, if_pos (by omega), if_pos (by omega), mkB_len, if_pos (by omega), Int.toNat_natCast, mkB_set, below_upd, wrap_id (by omega), show (j : Int) + 1 = ((j + 1 : Nat) : Int) by omega]
theorem holes_l0 (hL : IsL L) (eL : L = ⟨true, f1, f2, f3, f4, []⟩) (gone : List Int) (hg : gone.length ≤ 40) {n : Nat} (hn : n ≤ 32) : ∀ (d j : Nat), d + j = n → ∀ m, HInv m (below j) → Evr (fun k => conclavelaw04_TreeHoles.l0 k (n : Int) gone (hT L m (below j)) (j : Int) f0 f1 f2 f3 f4 l5) true := by
  intro d
  induction d with
  | zero =>
    intro j hd m hI
    have : j = n := by omega
    subst this
    have h := holes_l1 f0 f1 f2 f3 f4 l5 hL eL gone hg hn hI j 0 (by omega)
    refine .succ (fun k => ?_) h
    rw [conclavelaw04_TreeHoles.l0, if_neg (by omega), if_pos (by decide)]
    rfl
  | succ d ih =>
    intro j hd m hI
    obtain ⟨m', hI', h⟩ := add_next (L := L) hI hL (i := j) (fun q hq => decide_eq_true hq) (decide_eq_false (by omega)) (by omega)
    rw [below_upd] at hI'
    have h2 := h f0 f1 f2 f3 f4 l5 eL
    rw [below_upd] at h2
    refine .succ (f := fun k => (tree_Add.f k (hT L m (below j)) f0 f1 f2 f3 f4 l5).bind fun bt => conclavelaw04_TreeHoles.l0 k (n : Int) gone bt.1 ((j + 1 : Nat) : Int) f0 f1 f2 f3 f4 l5) (fun k => ?_) (h2.bind (ih (j + 1) (by omega) m' hI'))
    rw [conclavelaw04_TreeHoles.l0, if_pos (by omega), wrap_id (by omega), show (j : Int) + 1 = ((j + 1 : Nat) : Int) by omega]
end
theorem TreeHoles : conclavelaw04_TreeHoles.Pure := by
  intro f0 f1 f2 f3 f4 l5 n gone
  intros
  have jt : Evr (fun k => conclavelaw04_TreeHoles.j0 k n gone true f0 f1 f2 f3 f4 l5) true := .succ (f := fun _ => some true) (fun k => by rw [conclavelaw04_TreeHoles.j0, if_pos rfl]) (.const fun _ => rfl)
  have hE : Evr (fun k => conclavelaw04_TreeHoles.f k f0 f1 f2 f3 f4 l5 n gone) true := by
    have hop : ∀ k, conclavelaw04_TreeHoles.f k f0 f1 f2 f3 f4 l5 n gone = (if n < 2 then (conclavelaw04_TreeHoles.j0 k n gone true f0 f1 f2 f3 f4 l5) else (if n > 32 then (conclavelaw04_TreeHoles.j0 k n gone true f0 f1 f2 f3 f4 l5) else (conclavelaw04_TreeHoles.j0 k n gone (decide ((gone.length : Int) > 40)) f0 f1 f2 f3 f4 l5))) := fun k => by
      unfold conclavelaw04_TreeHoles.f conclavelaw04_anchor.f
      rw [Option.bind_some, if_pos rfl]
    refine .congr hop ?_
    by_cases c1 : n < 2
    · simp only [if_pos c1]; exact jt
    simp only [if_neg c1]
    by_cases c2 : n > 32
    · simp only [if_pos c2]; exact jt
    simp only [if_neg c2]
    by_cases c3 : (gone.length : Int) > 40
    · rw [decide_eq_true c3]; exact jt
    rw [decide_eq_false c3]
    obtain ⟨N, rfl⟩ : ∃ N : Nat, n = (N : Int) := ⟨n.toNat, by omega⟩
    have hI : HInv 0 (below 1) := ⟨by decide, fun j hj => by have := of_decide_eq_true hj; simpa using this, 0, rfl, by simp⟩
    have h := holes_l0 (L := ⟨true, f1, f2, f3, f4, []⟩) f0 f1 f2 f3 f4 l5 ⟨rfl, rfl⟩ rfl gone (by omega) (n := N) (by omega) (N - 1) 1 (by omega) 0 hI
    refine .succ (fun k => ?_) h
    have hnew : tree_New.f f0 f1 f2 f3 f4 l5 = some (hT ⟨true, f1, f2, f3, f4, []⟩ 0 (below 1)) := rfl
    rw [conclavelaw04_TreeHoles.j0, if_neg (by decide), hnew, Option.bind_some]
    rfl
  obtain ⟨K, hK⟩ := hE
  exact ⟨K, hK K (Nat.le_refl _)⟩
end Go.Proofs.YtbblomnhobodkaaDoor.Pure
