/- What can be derived, plainly: the least sets that are closed under taking apart and making. -/
import Derived.Test.YtmdfhaihbaiegaaPure
set_option linter.unusedVariables false
set_option linter.unusedSimpArgs false
namespace Go.Proofs.Ytmdfhaihbaiegaa

/-- Can a node be made of its parts? -/
def MadeP (C : Int → Prop) (n : Nd) : Prop :=
  n.kind = 2 ∨ ((n.kind = 4 ∨ n.kind = 6) ∧ C n.a) ∨ ((n.kind = 3 ∨ n.kind = 5 ∨ n.kind = 7 ∨ n.kind = 8 ∨ n.kind = 9) ∧ C n.a ∧ C n.b)

theorem MadeP.mono {C C' : Int → Prop} {n : Nd} (h : MadeP C n) (hC : ∀ t, C t → C' t) : MadeP C' n := by
  rcases h with h | ⟨h, h1⟩ | ⟨h, h1, h2⟩
  · exact .inl h
  · exact .inr (.inl ⟨h, hC _ h1⟩)
  · exact .inr (.inr ⟨h, hC _ h1, hC _ h2⟩)

def madeB (c : Int → Bool) (n : Nd) : Bool :=
  if n.kind = 2 then true else if n.kind = 4 ∨ n.kind = 6 then c n.a else if n.kind = 3 ∨ n.kind = 5 ∨ n.kind = 7 ∨ n.kind = 8 ∨ n.kind = 9 then c n.a && c n.b else false

theorem madeB_iff (c : Int → Bool) (n : Nd) : madeB c n = true ↔ MadeP (fun t => c t = true) n := by
  unfold madeB MadeP
  split
  · simp [*]
  · split
    · rename_i h1 h2
      rcases h2 with h2 | h2 <;> simp [h2]
    · split
      · rename_i h1 h2 h3
        rcases h3 with h3 | h3 | h3 | h3 | h3 <;> simp [h3]
      · rename_i h1 h2 h3
        simp only [Bool.false_eq_true, false_iff]
        rintro (h | ⟨h, _⟩ | ⟨h, _⟩)
        · exact h1 h
        · exact h2 h
        · exact h3 h

/-- What comes out of a term that is known. -/
def ApartP (l : List Nd) (C : Int → Prop) (n : Nd) (x : Int) : Prop :=
  (n.kind = 3 ∧ (x = n.a ∨ x = n.b)) ∨ (n.kind = 7 ∧ C n.a ∧ x = n.b) ∨ (n.kind = 8 ∧ C (getN l n.a).a ∧ x = n.b)

theorem ApartP.mono {l : List Nd} {C C' : Int → Prop} {n : Nd} {x : Int} (h : ApartP l C n x) (hC : ∀ t, C t → C' t) : ApartP l C' n x := by
  rcases h with h | ⟨h, h1, h2⟩ | ⟨h, h1, h2⟩
  · exact .inl h
  · exact .inr (.inl ⟨h, hC _ h1, h2⟩)
  · exact .inr (.inr ⟨h, hC _ h1, h2⟩)

structure Closed (l : List Nd) (S K C : Int → Prop) : Prop where
  given : ∀ t, S t → knownB l.length t = true → K t
  kc : ∀ t, K t → C t
  made : ∀ t, knownB l.length t = true → MadeP C (getN l t) → C t
  apart : ∀ t x, K t → ApartP l C (getN l t) x → K x

def CanD (l : List Nd) (S : Int → Prop) (t : Int) : Prop := ∀ K C, Closed l S K C → C t
def KnD (l : List Nd) (S : Int → Prop) (t : Int) : Prop := ∀ K C, Closed l S K C → K t

theorem closedD (l : List Nd) (S : Int → Prop) : Closed l S (KnD l S) (CanD l S) where
  given t hs hk K C h := h.given t hs hk
  kc t ht K C h := h.kc t (ht K C h)
  made t hk hm K C h := h.made t hk (hm.mono fun x hx => hx K C h)
  apart t x ht ha K C h := h.apart t x (ht K C h) (ha.mono fun y hy => hy K C h)

theorem CanD.sub {l : List Nd} {S S' : Int → Prop} {t : Int} (h : CanD l S t) (hS : ∀ x, S x → knownB l.length x = true → KnD l S' x) : CanD l S' t :=
  h _ _ ⟨fun x hx hk => hS x hx hk, (closedD l S').kc, (closedD l S').made, (closedD l S').apart⟩
theorem KnD.sub {l : List Nd} {S S' : Int → Prop} {t : Int} (h : KnD l S t) (hS : ∀ x, S x → knownB l.length x = true → KnD l S' x) : KnD l S' t :=
  h _ _ ⟨fun x hx hk => hS x hx hk, (closedD l S').kc, (closedD l S').made, (closedD l S').apart⟩

theorem wf_node {l : List Nd} (h : WF l) {t : Int} (hk : knownB l.length t = true) : rightB (l.take (t - 1).toNat) (getN l t) = true := by
  have hk' := knownB_iff.1 hk
  unfold getN
  rw [if_pos hk]
  have hi : (t - 1).toNat < l.length := by omega
  have := h _ hi
  unfold nodeAt
  rw [List.getD_eq_getElem?_getD, List.getElem?_eq_getElem hi]
  exact this

theorem take_len {l : List Nd} {t : Int} (hk : knownB l.length t = true) : (l.take (t - 1).toNat).length = (t - 1).toNat := by
  have hk' := knownB_iff.1 hk
  simp; omega

theorem rightO_parts {l : List Nd} {n : Nd} (h : rightO l n = true) : (1 ≤ partsT n.kind → knownB l.length n.a = true) ∧ (partsT n.kind = 2 → knownB l.length n.b = true) ∧ (n.kind = 8 → (nodeAt l n.a).kind = 6) := by
  unfold rightO at h
  simp only [Bool.and_eq_true, Bool.not_eq_true', Bool.and_eq_false_imp, decide_eq_true_eq, Bool.or_eq_true] at h
  obtain ⟨⟨_, h1, h2⟩, h3⟩ := h
  refine ⟨fun e => by simpa using h1 e, fun e => by simpa using h2 e, fun e => ?_⟩
  rcases h3 with h3 | h3
  · exact absurd e h3
  · exact h3

/-- The parts of a term are terms, of lower numbers. -/
theorem wf_parts {l : List Nd} (h : WF l) {t : Int} (hk : knownB l.length t = true) :
    (((getN l t).kind = 3 ∨ (getN l t).kind = 5 ∨ (getN l t).kind = 7 ∨ (getN l t).kind = 8 ∨ (getN l t).kind = 9) → (1 ≤ (getN l t).a ∧ (getN l t).a < t) ∧ (1 ≤ (getN l t).b ∧ (getN l t).b < t)) ∧
    (((getN l t).kind = 4 ∨ (getN l t).kind = 6) → 1 ≤ (getN l t).a ∧ (getN l t).a < t) ∧
    ((getN l t).kind = 8 → (getN l (getN l t).a).kind = 6 ∧ 1 ≤ (getN l (getN l t).a).a ∧ (getN l (getN l t).a).a < t) := by
  have main : ∀ t, knownB l.length t = true → (((getN l t).kind = 3 ∨ (getN l t).kind = 5 ∨ (getN l t).kind = 7 ∨ (getN l t).kind = 8 ∨ (getN l t).kind = 9) → (1 ≤ (getN l t).a ∧ (getN l t).a < t) ∧ (1 ≤ (getN l t).b ∧ (getN l t).b < t)) ∧
    (((getN l t).kind = 4 ∨ (getN l t).kind = 6) → 1 ≤ (getN l t).a ∧ (getN l t).a < t) ∧ ((getN l t).kind = 8 → (getN l (getN l t).a).kind = 6) := by
    intro t hk
    have hr := wf_node h hk
    have hl := take_len hk
    have hk' := knownB_iff.1 hk
    generalize hn : getN l t = n at *
    have one : n.kind ≠ 1 → rightO (l.take (t - 1).toNat) n = true := fun e => by unfold rightB at hr; rw [if_neg e] at hr; exact hr
    refine ⟨fun e => ?_, fun e => ?_, fun e => ?_⟩
    · have h2 : partsT n.kind = 2 := by rcases e with e | e | e | e | e <;> rw [e] <;> rfl
      have := rightO_parts (one (by rintro e1; rcases e with e | e | e | e | e <;> omega))
      have a1 := this.1 (by omega)
      have a2 := this.2.1 h2
      rw [knownB_iff, hl] at a1 a2
      omega
    · have h2 : 1 ≤ partsT n.kind := by rcases e with e | e <;> rw [e] <;> decide
      have := rightO_parts (one (by rintro e1; rcases e with e | e <;> omega))
      have a1 := this.1 h2
      rw [knownB_iff, hl] at a1
      omega
    · have := rightO_parts (one (by omega))
      have a1 := this.1 (by rw [e]; decide)
      have a3 := this.2.2 e
      rw [knownB_iff, hl] at a1
      unfold getN
      rw [if_pos (by rw [knownB_iff]; omega)]
      unfold nodeAt at *
      rw [List.getD_eq_getElem?_getD, List.getElem?_take, if_pos (by omega), ← List.getD_eq_getElem?_getD] at a3
      exact a3
  obtain ⟨m1, m2, m3⟩ := main t hk
  refine ⟨m1, m2, fun e => ?_⟩
  have h6 := m3 e
  have ha := (m1 (.inr (.inr (.inr (.inl e))))).1
  have hk' := knownB_iff.1 hk
  have := (main (getN l t).a (by rw [knownB_iff]; omega)).2.1 (.inr h6)
  exact ⟨h6, this.1, by omega⟩

/-- What can be derived is a term of the store. -/
theorem rangeD {l : List Nd} (h : WF l) (S : Int → Prop) : Closed l S (fun t => KnD l S t ∧ knownB l.length t = true) (fun t => CanD l S t ∧ knownB l.length t = true) where
  given t hs hk := ⟨(closedD l S).given t hs hk, hk⟩
  kc t ht := ⟨(closedD l S).kc t ht.1, ht.2⟩
  made t hk hm := ⟨(closedD l S).made t hk (hm.mono fun _ h => h.1), hk⟩
  apart t x ht ha := by
    refine ⟨(closedD l S).apart t x ht.1 (ha.mono fun _ h => h.1), ?_⟩
    obtain ⟨w1, w2, w3⟩ := wf_parts h ht.2
    have hk := knownB_iff.1 ht.2
    rw [knownB_iff]
    rcases ha with ⟨e, rfl | rfl⟩ | ⟨e, _, rfl⟩ | ⟨e, _, rfl⟩
    · have := w1 (.inl e); omega
    · have := w1 (.inl e); omega
    · have := w1 (.inr (.inr (.inl e))); omega
    · have := w1 (.inr (.inr (.inr (.inl e)))); omega

theorem CanD.range {l : List Nd} (h : WF l) {S : Int → Prop} {t : Int} (ht : CanD l S t) : knownB l.length t = true := (ht _ _ (rangeD h S)).2
theorem KnD.range {l : List Nd} (h : WF l) {S : Int → Prop} {t : Int} (ht : KnD l S t) : knownB l.length t = true := (ht _ _ (rangeD h S)).2

theorem getN_pre {L L' : List Nd} (h : L <+: L') {t : Int} (hk : knownB L.length t = true) : getN L' t = getN L t := by
  obtain ⟨r, rfl⟩ := h
  have hk1 := knownB_iff.1 hk
  have hk' : knownB (L ++ r).length t = true := by rw [knownB_iff]; simp; omega
  unfold getN
  rw [if_pos hk, if_pos hk']
  unfold nodeAt
  rw [List.getD_eq_getElem?_getD, List.getD_eq_getElem?_getD, List.getElem?_append_left (by omega)]

/-- A store that has grown: what could be derived can. -/
theorem growD {l l' : List Nd} (h : WF l) (hp : l <+: l') (S S' : Int → Prop) (hS : ∀ x, S x → knownB l.length x = true → KnD l' S' x) :
    Closed l S (fun t => KnD l' S' t ∧ knownB l.length t = true) (fun t => CanD l' S' t ∧ knownB l.length t = true) where
  given t hs hk := ⟨hS t hs hk, hk⟩
  kc t ht := ⟨(closedD l' S').kc t ht.1, ht.2⟩
  made t hk hm := ⟨(closedD l' S').made t (by rw [knownB_iff] at *; have := hp.length_le; omega) (by rw [getN_pre hp hk]; exact hm.mono fun _ h => h.1), hk⟩
  apart t x ht ha := by
    obtain ⟨w1, w2, w3⟩ := wf_parts h ht.2
    have hk := knownB_iff.1 ht.2
    have hx : knownB l.length x = true := by
      rw [knownB_iff]
      rcases ha with ⟨e, rfl | rfl⟩ | ⟨e, _, rfl⟩ | ⟨e, _, rfl⟩
      · have := w1 (.inl e); omega
      · have := w1 (.inl e); omega
      · have := w1 (.inr (.inr (.inl e))); omega
      · have := w1 (.inr (.inr (.inr (.inl e)))); omega
    refine ⟨(closedD l' S').apart t x ht.1 ?_, hx⟩
    rw [getN_pre hp ht.2]
    rcases ha with h | ⟨e, h1, h2⟩ | ⟨e, h1, h2⟩
    · exact .inl h
    · exact .inr (.inl ⟨e, h1.1, h2⟩)
    · have := w1 (.inr (.inr (.inr (.inl e))))
      exact .inr (.inr ⟨e, by rw [getN_pre hp (by rw [knownB_iff]; omega)]; exact h1.1, h2⟩)

theorem KnD.grow {l l' : List Nd} (h : WF l) (hp : l <+: l') {S S' : Int → Prop} (hS : ∀ x, S x → knownB l.length x = true → KnD l' S' x) {t : Int} (ht : KnD l S t) : KnD l' S' t := (ht _ _ (growD h hp S S' hS)).1
theorem CanD.grow {l l' : List Nd} (h : WF l) (hp : l <+: l') {S S' : Int → Prop} (hS : ∀ x, S x → knownB l.length x = true → KnD l' S' x) {t : Int} (ht : CanD l S t) : CanD l' S' t := (ht _ _ (growD h hp S S' hS)).1

end Go.Proofs.Ytmdfhaihbaiegaa
