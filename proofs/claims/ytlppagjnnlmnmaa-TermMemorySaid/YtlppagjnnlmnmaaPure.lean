/- The algebra of terms, plainly: nodes, what is right, what is made. No program in sight. -/
import Derived.Test.YtlppagjnnlmnmaaProg
set_option linter.unusedVariables false
set_option linter.unusedSimpArgs false
namespace Go.Proofs.Ytlppagjnnlmnmaa

structure Nd where
  kind : Int
  label : ByteArray
  a : Int
  b : Int
  deriving DecidableEq

def partsL (k : Int) : Int := if k = 2 then 1024 else if k = 3 ∨ k = 7 ∨ k = 8 ∨ k = 9 then 0 else if k = 4 ∨ k = 5 then 32 else if k = 6 then 0 else -1
def partsT (k : Int) : Int := if k = 2 then 0 else if k = 3 ∨ k = 7 ∨ k = 8 ∨ k = 9 then 2 else if k = 4 then 1 else if k = 5 then 2 else if k = 6 then 1 else 0
theorem partsT_range (k : Int) : 0 ≤ partsT k ∧ partsT k ≤ 2 := by unfold partsT; (repeat' split) <;> simp
theorem partsL_range (k : Int) : -1 ≤ partsL k ∧ partsL k ≤ 1024 := by unfold partsL; (repeat' split) <;> simp

def knownB (n : Nat) (t : Int) : Bool := decide (1 ≤ t) && decide (t ≤ n)
theorem knownB_iff {n : Nat} {t : Int} : knownB n t = true ↔ 1 ≤ t ∧ t ≤ n := by simp [knownB]

def nodeAt (l : List Nd) (t : Int) : Nd := l.getD (t - 1).toNat ⟨0, ByteArray.empty, 0, 0⟩

theorem nodeAt_get (l : List Nd) {i : Nat} (hi : i < l.length) : nodeAt l ((i : Int) + 1) = l[i] := by
  unfold nodeAt; rw [show ((i : Int) + 1 - 1).toNat = i by omega, List.getD_eq_getElem?_getD, List.getElem?_eq_getElem hi]; rfl

/-- What 'right' says of a node that is no atom. -/
def rightO (l : List Nd) (n : Nd) : Bool :=
  !decide (partsL n.kind < n.label.size) && (!(decide (partsT n.kind < 1) && decide (n.a ≠ 0)) && !(decide (partsT n.kind < 2) && decide (n.b ≠ 0))) &&
  (!(decide (1 ≤ partsT n.kind) && !knownB l.length n.a) && !(decide (partsT n.kind = 2) && !knownB l.length n.b)) && (decide (n.kind ≠ 8) || decide ((nodeAt l n.a).kind = 6))

/-- What 'right' says. -/
def rightB (l : List Nd) (n : Nd) : Bool :=
  if n.kind = 1 then decide (1 ≤ n.a) && decide (n.a ≤ 1099511627776) && (decide (n.label.toList = []) && decide (n.b = 0)) else rightO l n

def idx (l : List Nd) (n : Nd) : Option Nat := l.findIdx? (· = n)

theorem idx_none {l : List Nd} {n : Nd} : idx l n = none ↔ n ∉ l := by
  unfold idx
  rw [List.findIdx?_eq_none_iff]
  simp only [decide_eq_false_iff_not]
  exact ⟨fun h hn => h n hn rfl, fun h x hx e => h (e ▸ hx)⟩

theorem idx_some {l : List Nd} {n : Nd} {k : Nat} (h : idx l n = some k) : ∃ hk : k < l.length, l[k] = n := by
  unfold idx at h
  rw [List.findIdx?_eq_some_iff_getElem] at h
  obtain ⟨hk, h1, _⟩ := h
  exact ⟨hk, by simpa using h1⟩

theorem idx_of_get {l : List Nd} (hn : l.Nodup) {i : Nat} (hi : i < l.length) : idx l l[i] = some i := by
  cases h : idx l l[i] with
  | none => exact absurd (List.getElem_mem hi) (idx_none.1 h)
  | some k =>
    obtain ⟨hk, e⟩ := idx_some h
    rw [(List.getElem_inj hn).1 e]

/-- What Make answers: the number, the error, the nodes behind it. -/
def mkT (l : List Nd) (n : Nd) : Int :=
  match idx l n with
  | some k => (k : Int) + 1
  | none => if rightB l n = true then (if 262144 ≤ l.length then 0 else (l.length : Int) + 1) else 0
def mkE (l : List Nd) (n : Nd) : Int :=
  match idx l n with
  | some _ => 0
  | none => if rightB l n = true then (if 262144 ≤ l.length then 11 else 0) else 10
def mkL (l : List Nd) (n : Nd) : List Nd :=
  match idx l n with
  | some _ => l
  | none => if rightB l n = true then (if 262144 ≤ l.length then l else l ++ [n]) else l

theorem nodup_snoc {l : List Nd} {n : Nd} (h : l.Nodup) (hk : idx l n = none) : (l ++ [n]).Nodup := by
  rw [List.nodup_append]
  refine ⟨h, by simp, fun a ha b hb => ?_⟩
  simp at hb; subst hb
  rintro rfl
  exact idx_none.1 hk ha

/-- Every node is right over those ahead of it. -/
def WF (l : List Nd) : Prop := ∀ i (h : i < l.length), rightB (l.take i) l[i] = true

theorem WF.nil : WF [] := fun i h => by simp at h
theorem WF.snoc {l : List Nd} {n : Nd} (h : WF l) (hr : rightB l n = true) : WF (l ++ [n]) := by
  intro i hi
  rcases Nat.lt_or_ge i l.length with h1 | h1
  · rw [List.getElem_append_left h1, List.take_append_of_le_length (by omega)]; exact h i h1
  · have e : i = l.length := by simp at hi; omega
    subst e
    simp [hr]

/-- One way or the other: what a making comes to. -/
theorem mk_cases (l : List Nd) (n : Nd) :
    (∃ k, ∃ hk : k < l.length, l[k] = n ∧ mkT l n = (k : Int) + 1 ∧ mkE l n = 0 ∧ mkL l n = l) ∨
    (n ∉ l ∧ rightB l n = false ∧ mkT l n = 0 ∧ mkE l n = 10 ∧ mkL l n = l) ∨
    (n ∉ l ∧ rightB l n = true ∧ 262144 ≤ l.length ∧ mkT l n = 0 ∧ mkE l n = 11 ∧ mkL l n = l) ∨
    (n ∉ l ∧ rightB l n = true ∧ l.length < 262144 ∧ mkT l n = (l.length : Int) + 1 ∧ mkE l n = 0 ∧ mkL l n = l ++ [n]) := by
  cases hk : idx l n with
  | some k => obtain ⟨h1, h2⟩ := idx_some hk; exact .inl ⟨k, h1, h2, by simp [mkT, hk], by simp [mkE, hk], by simp [mkL, hk]⟩
  | none =>
    have hn := idx_none.1 hk
    cases hr : rightB l n with
    | false => exact .inr (.inl ⟨hn, rfl, by simp [mkT, hk, hr], by simp [mkE, hk, hr], by simp [mkL, hk, hr]⟩)
    | true =>
      rcases Nat.lt_or_ge l.length 262144 with h | h
      · exact .inr (.inr (.inr ⟨hn, rfl, h, by simp [mkT, hk, hr, Nat.not_le.2 h], by simp [mkE, hk, hr, Nat.not_le.2 h], by simp [mkL, hk, hr, Nat.not_le.2 h]⟩))
      · exact .inr (.inr (.inl ⟨hn, rfl, h, by simp [mkT, hk, hr, h], by simp [mkE, hk, hr, h], by simp [mkL, hk, hr, h]⟩))

theorem mkL_prefix (l : List Nd) (n : Nd) : l <+: mkL l n := by
  rcases mk_cases l n with ⟨_, _, _, _, _, h⟩ | ⟨_, _, _, _, h⟩ | ⟨_, _, _, _, _, h⟩ | ⟨_, _, _, _, _, h⟩ <;> rw [h] <;> simp

theorem mkL_wf {l : List Nd} (n : Nd) (h : WF l) : WF (mkL l n) := by
  rcases mk_cases l n with ⟨_, _, _, _, _, e⟩ | ⟨_, _, _, _, e⟩ | ⟨_, _, _, _, _, e⟩ | ⟨_, hr, _, _, _, e⟩ <;> rw [e]
  · exact h
  · exact h
  · exact h
  · exact h.snoc hr

theorem mkL_len {l : List Nd} (n : Nd) (h : l.length ≤ 262144) : (mkL l n).length ≤ 262144 := by
  rcases mk_cases l n with ⟨_, _, _, _, _, e⟩ | ⟨_, _, _, _, e⟩ | ⟨_, _, _, _, _, e⟩ | ⟨_, _, _, _, _, e⟩ <;> rw [e] <;> first | exact h | (simp; omega)

theorem mkT_range (l : List Nd) (n : Nd) (h : l.length ≤ 262144) : 0 ≤ mkT l n ∧ mkT l n ≤ (mkL l n).length ∧ mkT l n ≤ 262144 := by
  rcases mk_cases l n with ⟨k, hk, _, h1, _, e⟩ | ⟨_, _, h1, _, e⟩ | ⟨_, _, _, h1, _, e⟩ | ⟨_, _, _, h1, _, e⟩ <;> rw [h1, e] <;> (try simp only [List.length_append, List.length_cons, List.length_nil]) <;> omega

/-- What Get tells. -/
def getN (l : List Nd) (t : Int) : Nd := if knownB l.length t = true then nodeAt l t else ⟨0, ByteArray.empty, 0, 0⟩
def openOf (k : Bool) (n : Nd) (key : Int) : Int × Bool := if k = true ∧ n.kind = 7 ∧ n.a = key then (n.b, true) else (0, false)
def unboxOf (k : Bool) (n p : Nd) (secret : Int) : Int × Bool := if k = true ∧ n.kind = 8 ∧ p.a = secret then (n.b, true) else (0, false)
def verifyOf (k kp : Bool) (n p : Nd) (text : Int) : Bool := k && kp && decide (n.kind = 9) && decide (p.kind = 6) && decide (n.b = text) && decide (n.a = p.a)

def freshN (d : Int) : Nd := ⟨1, ByteArray.empty, d + 1, 0⟩
def freshD (l : List Nd) (d : Int) : Int := if mkT l (freshN d) = 0 then d else d + 1

theorem wf_atom {l : List Nd} (h : WF l) {n : Nd} (hn : n ∈ l) (hk : n.kind = 1) : 1 ≤ n.a ∧ n.a ≤ 1099511627776 := by
  obtain ⟨i, hi, rfl⟩ := List.getElem_of_mem hn
  have := h i hi
  unfold rightB at this
  rw [if_pos hk] at this
  simp at this
  omega

theorem freshD_le {l : List Nd} {d : Int} (h : WF l) (hd : d ≤ 1099511627776) : freshD l d ≤ 1099511627776 := by
  unfold freshD
  split
  · exact hd
  · rename_i hne
    rcases mk_cases l (freshN d) with ⟨k, hk, e, _⟩ | ⟨_, _, h1, _⟩ | ⟨_, _, _, h1, _⟩ | ⟨_, hr, _⟩
    · have := wf_atom h (List.getElem_mem hk) (by rw [e]; rfl)
      rw [e] at this
      exact this.2
    · exact absurd h1 hne
    · exact absurd h1 hne
    · unfold rightB at hr
      rw [if_pos (show (freshN d).kind = 1 from rfl)] at hr
      simp only [Bool.and_eq_true, decide_eq_true_eq] at hr
      have h1 := hr.1.2
      simp only [freshN] at h1
      exact h1

end Go.Proofs.Ytlppagjnnlmnmaa
