/- A chain of boxes: who can open it, and from where on. -/
import Derived.Test.YtmdfhaihbaiegaaPureYao2
set_option linter.unusedVariables false
set_option linter.unusedSimpArgs false
namespace Go.Proofs.Ytmdfhaihbaiegaa

theorem known_up {A B : List Nd} (h : A <+: B) {x : Int} (hk : knownB A.length x = true) : knownB B.length x = true := by
  rw [knownB_iff] at *
  have := h.length_le
  omega

/-- The secrets D, each an atom; the boxes E, the j-th to the j-th secret's key and with the one behind it in it. -/
structure Chn (N : List Nd) (D E : List Int) : Prop where
  sec : ∀ j (h : j < D.length), knownB N.length D[j] = true ∧ getN N D[j] = ⟨1, ByteArray.empty, (j : Int) + 1, 0⟩
  box : ∀ j (h : j < E.length), ∃ (p x : Int), D[j + 1]? = some x ∧ knownB N.length E[j] = true ∧ getN N E[j] = ⟨8, ByteArray.empty, p, x⟩ ∧ knownB N.length p = true ∧ ∃ d, D[j]? = some d ∧ getN N p = ⟨6, ByteArray.empty, d, 0⟩
  all : ∀ x, knownB N.length x = true → x ∈ D ∨ x ∈ E ∨ ∃ d ∈ D, getN N x = ⟨6, ByteArray.empty, d, 0⟩

theorem Chn.start : Chn [] [] [] := ⟨fun j h => by simp at h, fun j h => by simp at h, fun x h => by rw [knownB_iff] at h; simp at h; omega⟩

theorem Chn.grow {N N' : List Nd} {D E : List Int} (h : Chn N D E) (hp : N <+: N') (hall : ∀ x, knownB N'.length x = true → knownB N.length x = true ∨ ∃ d ∈ D, getN N' x = ⟨6, ByteArray.empty, d, 0⟩) : Chn N' D E := by
  refine ⟨fun j hj => ⟨known_up hp (h.sec j hj).1, by rw [getN_pre hp (h.sec j hj).1]; exact (h.sec j hj).2⟩, fun j hj => ?_, fun x hx => ?_⟩
  · obtain ⟨p, x, e1, e2, e3, e4, d, e5, e6⟩ := h.box j hj
    exact ⟨p, x, e1, known_up hp e2, by rw [getN_pre hp e2]; exact e3, known_up hp e4, d, e5, by rw [getN_pre hp e4]; exact e6⟩
  · rcases hall x hx with h1 | h1
    · rw [getN_pre hp h1]; exact h.all x h1
    · exact .inr (.inr h1)

theorem Chn.secret {N N' : List Nd} {D : List Int} {t : Int} (h : Chn N D []) (hp : N <+: N') (hk : knownB N'.length t = true) (hn : getN N' t = freshN D.length) (hall : ∀ x, knownB N'.length x = true → knownB N.length x = true ∨ x = t) : Chn N' (D ++ [t]) [] := by
  refine ⟨fun j hj => ?_, fun j hj => by simp at hj, fun x hx => ?_⟩
  · rcases Nat.lt_or_ge j D.length with h1 | h1
    · rw [List.getElem_append_left h1]
      exact ⟨known_up hp (h.sec j h1).1, by rw [getN_pre hp (h.sec j h1).1]; exact (h.sec j h1).2⟩
    · have e : j = D.length := by simp at hj; omega
      subst e
      simp only [List.getElem_append_right (Nat.le_refl _), Nat.sub_self, List.getElem_cons_zero]
      exact ⟨hk, hn⟩
  · rcases hall x hx with h1 | h1
    · rw [getN_pre hp h1]
      rcases h.all x h1 with h2 | h2 | ⟨d, h2, h3⟩
      · exact .inl (List.mem_append_left _ h2)
      · simp at h2
      · exact .inr (.inr ⟨d, List.mem_append_left _ h2, h3⟩)
    · exact .inl (List.mem_append_right _ (by simp [h1]))

theorem Chn.next {N N' : List Nd} {D E : List Int} {t p d x : Int} (h : Chn N D E) (hp : N <+: N') (hk : knownB N'.length t = true) (hn : getN N' t = ⟨8, ByteArray.empty, p, x⟩) (hd : D[E.length]? = some d) (hx : D[E.length + 1]? = some x) (hkp : knownB N.length p = true) (hnp : getN N p = ⟨6, ByteArray.empty, d, 0⟩)
    (hall : ∀ y, knownB N'.length y = true → knownB N.length y = true ∨ y = t) : Chn N' D (E ++ [t]) := by
  refine ⟨fun j hj => ⟨known_up hp (h.sec j hj).1, by rw [getN_pre hp (h.sec j hj).1]; exact (h.sec j hj).2⟩, fun j hj => ?_, fun y hy => ?_⟩
  · rcases Nat.lt_or_ge j E.length with h1 | h1
    · rw [List.getElem_append_left h1]
      obtain ⟨p, x, e1, e2, e3, e4, d, e5, e6⟩ := h.box j h1
      exact ⟨p, x, e1, known_up hp e2, by rw [getN_pre hp e2]; exact e3, known_up hp e4, d, e5, by rw [getN_pre hp e4]; exact e6⟩
    · have e : j = E.length := by simp at hj; omega
      subst e
      simp only [List.getElem_append_right (Nat.le_refl _), Nat.sub_self, List.getElem_cons_zero]
      exact ⟨p, x, hx, hk, hn, known_up hp hkp, d, hd, by rw [getN_pre hp hkp]; exact hnp⟩
  · rcases hall y hy with h1 | h1
    · rw [getN_pre hp h1]
      rcases h.all y h1 with h2 | h2 | h2
      · exact .inl h2
      · exact .inr (.inl (List.mem_append_left _ h2))
      · exact .inr (.inr h2)
    · exact .inr (.inl (List.mem_append_right _ (by simp [h1])))

theorem Chn.inj {N : List Nd} {D E : List Int} (h : Chn N D E) {i j : Nat} (hi : i < D.length) (hj : j < D.length) (he : D[i] = D[j]) : i = j := by
  have h1 := (h.sec i hi).2
  have h2 := (h.sec j hj).2
  rw [he, h2] at h1
  injection h1 with _ _ h3 _
  omega

theorem Chn.ne {N : List Nd} {D E : List Int} (h : Chn N D E) {i : Nat} (hi : i < D.length) : D[i] ∉ E := by
  intro hm
  obtain ⟨j, hj, e⟩ := List.getElem_of_mem hm
  obtain ⟨p, x, _, _, e3, _⟩ := h.box j hj
  rw [e, (h.sec i hi).2] at e3
  injection e3 with e4
  omega

/-- From the secret number f on; f past the last: nothing but the boxes. -/
theorem Chn.closed {N : List Nd} {D E : List Int} (h : Chn N D E) (hlen : D.length = E.length + 1) (f : Nat) {S : Int → Prop} (hS : ∀ x, S x → x ∈ E ∨ ∃ (j : Nat), f ≤ j ∧ D[j]? = some x) :
    Closed N S (fun x => x ∈ E ∨ ∃ (j : Nat), f ≤ j ∧ D[j]? = some x) (fun x => (x ∈ E ∨ ∃ (j : Nat), f ≤ j ∧ D[j]? = some x) ∨ ∃ (j : Nat) (d : Int), f ≤ j ∧ D[j]? = some d ∧ getN N x = ⟨6, ByteArray.empty, d, 0⟩) where
  given t hs _ := hS t hs
  kc t ht := .inl ht
  made t hk hm := by
    rcases h.all t hk with h1 | h1 | ⟨d, h1, h2⟩
    · obtain ⟨j, hj, rfl⟩ := List.getElem_of_mem h1
      unfold MadeP at hm
      rw [(h.sec j hj).2] at hm
      simp at hm
    · exact .inl (.inl h1)
    · unfold MadeP at hm
      rw [h2] at hm
      simp only [Int.reduceEq, false_or, or_true, true_and, or_self, or_false, false_and] at hm
      obtain ⟨i, hi, rfl⟩ := List.getElem_of_mem h1
      rcases hm with (hm | ⟨j, hj, e⟩) | ⟨j, d', hj, e, e2⟩
      · exact absurd hm (h.ne hi)
      · obtain ⟨hj', e'⟩ := List.getElem?_eq_some_iff.1 e
        exact .inr ⟨j, _, hj, e, h2⟩
      · rw [(h.sec i hi).2] at e2
        injection e2 with e3
        omega
  apart t x ht ha := by
    rcases ht with h1 | ⟨j, hj, e⟩
    · obtain ⟨j, hj, rfl⟩ := List.getElem_of_mem h1
      obtain ⟨p, y, e1, e2, e3, e4, d, e5, e6⟩ := h.box j hj
      unfold ApartP at ha
      rw [e3] at ha
      simp only [Int.reduceEq, false_and, true_and, false_or, e6] at ha
      obtain ⟨hc, rfl⟩ := ha
      obtain ⟨hdl, hde⟩ := List.getElem?_eq_some_iff.1 e5
      subst hde
      rcases hc with (hc | ⟨i, hi, e7⟩) | ⟨i, d', hi, e7, e8⟩
      · exact absurd hc (h.ne hdl)
      · obtain ⟨hil, hie⟩ := List.getElem?_eq_some_iff.1 e7
        have := h.inj hil hdl hie
        subst this
        exact .inr ⟨i + 1, by omega, e1⟩
      · rw [(h.sec j hdl).2] at e8
        injection e8 with e9
        omega
    · obtain ⟨hjl, rfl⟩ := List.getElem?_eq_some_iff.1 e
      unfold ApartP at ha
      rw [(h.sec j hjl).2] at ha
      simp at ha

theorem Chn.cannot {N : List Nd} {D E : List Int} (h : Chn N D E) (hlen : D.length = E.length + 1) (f : Nat) {S : Int → Prop} (hS : ∀ x, S x → x ∈ E ∨ ∃ (j : Nat), f ≤ j ∧ D[j]? = some x) {k : Nat} (hk : k < D.length) (hf : k < f) : ¬ CanD N S D[k] := by
  intro hc
  rcases hc _ _ (h.closed hlen f hS) with (h1 | ⟨j, hj, e⟩) | ⟨j, d, hj, e, e2⟩
  · exact h.ne hk h1
  · obtain ⟨hjl, he⟩ := List.getElem?_eq_some_iff.1 e
    have := h.inj hjl hk he
    omega
  · rw [(h.sec k hk).2] at e2
    injection e2 with e3
    omega

theorem Chn.can {N : List Nd} {D E : List Int} (h : Chn N D E) (hlen : D.length = E.length + 1) (f : Nat) {S : Int → Prop} (hE : ∀ x ∈ E, S x) (hf : ∀ (x : Int), D[f]? = some x → S x) : ∀ (k : Nat) (hk : k < D.length), f ≤ k → KnD N S D[k] := by
  intro k
  induction k with
  | zero =>
    intro hk hfk
    have : f = 0 := by omega
    subst this
    exact (closedD N S).given _ (hf _ (by simp [hk])) (h.sec 0 hk).1
  | succ k ih =>
    intro hk hfk
    by_cases e : f = k + 1
    · subst e
      exact (closedD N S).given _ (hf _ (by simp [hk])) (h.sec _ hk).1
    · have h1 := ih (by omega) (by omega)
      have hkE : k < E.length := by omega
      obtain ⟨p, x, e1, e2, e3, e4, d, e5, e6⟩ := h.box k hkE
      have hkb := (closedD N S).given _ (hE _ (List.getElem_mem hkE)) e2
      have hx : x = D[k + 1] := by
        have := List.getElem?_eq_getElem hk
        rw [this] at e1
        exact (Option.some.inj e1).symm
      have hd : d = D[k] := by
        have := List.getElem?_eq_getElem (show k < D.length by omega)
        rw [this] at e5
        exact (Option.some.inj e5).symm
      refine (closedD N S).apart _ _ hkb ?_
      rw [e3]
      exact .inr (.inr ⟨rfl, by show CanD N S (getN N p).a; rw [e6, hd]; exact (closedD N S).kc _ h1, hx.symm⟩)

end Go.Proofs.Ytmdfhaihbaiegaa
