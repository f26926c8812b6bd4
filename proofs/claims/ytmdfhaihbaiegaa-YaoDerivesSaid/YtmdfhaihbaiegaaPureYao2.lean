/- A way of steps from a secret: who knows its end doesn't know where it began. -/
import Derived.Test.YtmdfhaihbaiegaaPureYao
set_option linter.unusedVariables false
set_option linter.unusedSimpArgs false
namespace Go.Proofs.Ytmdfhaihbaiegaa

theorem mk_good {N : List Nd} {n : Nd} (hr : rightB N n = true) (hl : N.length < 262144) :
    knownB (mkL N n).length (mkT N n) = true ∧ getN (mkL N n) (mkT N n) = n ∧ (mkL N n).length ≤ N.length + 1 ∧ N <+: mkL N n ∧ ∀ x, knownB (mkL N n).length x = true → knownB N.length x = true ∨ x = mkT N n := by
  rcases mk_cases N n with ⟨k, hk, e, h1, _, h3⟩ | ⟨_, hr', _⟩ | ⟨_, _, h, _⟩ | ⟨_, _, _, h1, _, h3⟩
  · rw [h1, h3]
    have hb : knownB N.length ((k : Int) + 1) = true := by rw [knownB_iff]; omega
    exact ⟨hb, by unfold getN; rw [if_pos hb, nodeAt_get N hk, e], by omega, List.prefix_refl _, fun x hx => .inl hx⟩
  · rw [hr] at hr'; cases hr'
  · omega
  · rw [h1, h3]
    have hlt : N.length < (N ++ [n]).length := by simp
    have hb : knownB (N ++ [n]).length ((N.length : Int) + 1) = true := by rw [knownB_iff]; simp; omega
    refine ⟨hb, by unfold getN; rw [if_pos hb, nodeAt_get _ hlt]; simp, by simp, List.prefix_append _ _, fun x hx => ?_⟩
    rw [knownB_iff] at *
    simp at hx
    omega

/-- What is derived of a member of B. -/
def DerP (N : List Nd) (B : Int → Prop) (n : Nd) : Prop :=
  ((n.kind = 4 ∨ n.kind = 6) ∧ B n.a) ∨ ((n.kind = 5 ∨ n.kind = 9) ∧ B n.a ∧ knownB N.length n.b = true ∧ (getN N n.b).kind = 2)

theorem DerP.mono {N N' : List Nd} {B B' : Int → Prop} {n : Nd} (h : DerP N B n) (hp : N <+: N') (hB : ∀ x, B x → B' x) : DerP N' B' n := by
  rcases h with ⟨h, h1⟩ | ⟨h, h1, h2, h3⟩
  · exact .inl ⟨h, hB _ h1⟩
  · refine .inr ⟨h, hB _ h1, ?_, ?_⟩
    · rw [knownB_iff] at *; have := hp.length_le; omega
    · rw [getN_pre hp h2]; exact h3

structure Way (N : List Nd) (a t : Int) (B : Int → Prop) : Prop where
  ka : knownB N.length a = true
  kd : (getN N a).kind = 1
  kt : knownB N.length t = true
  lt : ∀ x, B x → x < t ∧ knownB N.length x = true
  head : a = t ∨ B a
  node : ∀ x, B x ∨ x = t → x = a ∨ DerP N B (getN N x)
  all : ∀ x, knownB N.length x = true → (getN N x).kind = 2 ∨ B x ∨ x = t

theorem Way.text {N N' : List Nd} {a t : Int} {B : Int → Prop} (h : Way N a t B) (hp : N <+: N') (hall : ∀ x, knownB N'.length x = true → knownB N.length x = true ∨ (getN N' x).kind = 2) : Way N' a t B := by
  have km : ∀ x, knownB N.length x = true → knownB N'.length x = true := fun x hx => by rw [knownB_iff] at *; have := hp.length_le; omega
  have hn : ∀ x, B x ∨ x = t → knownB N.length x = true := fun x hx => hx.elim (fun e => (h.lt x e).2) (fun e => e ▸ h.kt)
  refine ⟨km _ h.ka, by rw [getN_pre hp h.ka]; exact h.kd, km _ h.kt, fun x hx => ⟨(h.lt x hx).1, km _ (h.lt x hx).2⟩, h.head, fun x hx => ?_, fun x hx => ?_⟩
  · rw [getN_pre hp (hn x hx)]
    exact (h.node x hx).imp id fun e => e.mono hp fun _ h => h
  · rcases hall x hx with h1 | h1
    · rw [getN_pre hp h1]; exact h.all x h1
    · exact .inl h1

theorem Way.step {N N' : List Nd} {a t t' : Int} {B : Int → Prop} (h : Way N a t B) (hw : WF N') (hp : N <+: N') (hk : knownB N'.length t' = true) (hd : DerP N' (fun x => x = t) (getN N' t')) (hall : ∀ x, knownB N'.length x = true → knownB N.length x = true ∨ x = t') : Way N' a t' (fun x => B x ∨ x = t) := by
  have km : ∀ x, knownB N.length x = true → knownB N'.length x = true := fun x hx => by rw [knownB_iff] at *; have := hp.length_le; omega
  have hn : ∀ x, B x ∨ x = t → knownB N.length x = true := fun x hx => hx.elim (fun e => (h.lt x e).2) (fun e => e ▸ h.kt)
  have hlt : t < t' := by
    obtain ⟨w1, w2, _⟩ := wf_parts hw hk
    rcases hd with ⟨e, h1⟩ | ⟨e, h1, _⟩
    · have := w2 e; omega
    · have := w1 (by rcases e with e | e <;> simp [e]); omega
  refine ⟨km _ h.ka, by rw [getN_pre hp h.ka]; exact h.kd, hk, fun x hx => ?_, .inr (h.head.elim (fun e => .inr e) .inl), fun x hx => ?_, fun x hx => ?_⟩
  · refine ⟨?_, km _ (hn x hx)⟩
    rcases hx with hx | rfl
    · have := (h.lt x hx).1; omega
    · exact hlt
  · rcases hx with hx | rfl
    · rw [getN_pre hp (hn x hx)]
      exact (h.node x hx).imp id fun e => e.mono hp fun _ h => .inl h
    · exact .inr (hd.mono (List.prefix_refl _) fun _ h => .inr h)
  · rcases hall x hx with h1 | h1
    · rw [getN_pre hp h1]
      rcases h.all x h1 with h2 | h2 | h2
      · exact .inl h2
      · exact .inr (.inl (.inl h2))
      · exact .inr (.inl (.inr h2))
    · exact .inr (.inr h1)

/-- Who knows the end alone doesn't know the beginning. -/
theorem Way.hides {N : List Nd} {a t : Int} {B : Int → Prop} (h : Way N a t B) (hne : t ≠ a) : ¬ CanD N (fun x => x ∈ [t] ∧ knownB N.length x = true) a := by
  intro hc
  have hBa : B a := h.head.resolve_left (fun e => hne e.symm)
  have H : Closed N (fun x => x ∈ [t] ∧ knownB N.length x = true) (fun x => x = t) (fun x => ¬ B x) := by
    refine ⟨fun x hx _ => by simpa using hx.1, fun x hx hb => ?_, fun x hk hm hb => ?_, fun x y hx ha => ?_⟩
    · subst hx; have := (h.lt _ hb).1; omega
    · rcases h.node x (.inl hb) with e | e
      · subst e
        unfold MadeP at hm
        rw [h.kd] at hm
        simp at hm
      · unfold MadeP at hm
        rcases e with ⟨e, e1⟩ | ⟨e, e1, _⟩
        · rcases e with e | e <;> (rw [e] at hm; simp at hm; exact hm e1)
        · rcases e with e | e <;> (rw [e] at hm; simp at hm; exact hm.1 e1)
    · subst hx
      rcases h.node x (.inr rfl) with e | e
      · exact absurd e hne
      · unfold ApartP at ha
        rcases e with ⟨e, _⟩ | ⟨e, _⟩ <;> rcases e with e | e <;> (rw [e] at ha; simp at ha)
  exact hc _ _ H hBa

/-- Who knows the beginning can derive all. -/
theorem Way.tells {N : List Nd} {a t : Int} {B : Int → Prop} (h : Way N a t B) (hw : WF N) {S : Int → Prop} (hS : S a) : ∀ x, knownB N.length x = true → CanD N S x := by
  have main : ∀ n : Nat, ∀ x : Int, x.toNat = n → knownB N.length x = true → CanD N S x := by
    intro n
    induction n using Nat.strongRecOn with
    | _ n ih =>
      intro x hx hk
      have hk' := knownB_iff.1 hk
      obtain ⟨w1, w2, _⟩ := wf_parts hw hk
      rcases h.all x hk with h2 | h2
      · exact (closedD N S).made x hk (.inl h2)
      · rcases h.node x h2 with e | e
        · subst e
          exact (closedD N S).kc _ ((closedD N S).given _ hS hk)
        · refine (closedD N S).made x hk ?_
          rcases e with ⟨e, e1⟩ | ⟨e, e1, e2, e3⟩
          · have := w2 e
            exact .inr (.inl ⟨e, ih _ (by omega) _ rfl (by rw [knownB_iff]; omega)⟩)
          · have hh : (getN N x).kind = 3 ∨ (getN N x).kind = 5 ∨ (getN N x).kind = 7 ∨ (getN N x).kind = 8 ∨ (getN N x).kind = 9 := by rcases e with e | e <;> simp [e]
            have := w1 hh
            exact .inr (.inr ⟨hh, ih _ (by omega) _ rfl (by rw [knownB_iff]; omega), ih _ (by omega) _ rfl (by rw [knownB_iff]; omega)⟩)
  exact fun x hk => main x.toNat x rfl hk

theorem right_text {N : List Nd} {l : ByteArray} (h : l.size ≤ 1024) : rightB N ⟨2, l, 0, 0⟩ = true := by
  unfold rightB
  rw [if_neg (by simp)]
  unfold rightO
  simp [partsL, partsT]
  omega
theorem right_kdf {N : List Nd} {l : ByteArray} {a b : Int} (h : l.size ≤ 32) (ha : knownB N.length a = true) (hb : knownB N.length b = true) : rightB N ⟨5, l, a, b⟩ = true := by
  unfold rightB
  rw [if_neg (by simp)]
  unfold rightO
  simp [partsL, partsT, ha, hb]
  omega
theorem right_hash {N : List Nd} {l : ByteArray} {a : Int} (h : l.size ≤ 32) (ha : knownB N.length a = true) : rightB N ⟨4, l, a, 0⟩ = true := by
  unfold rightB
  rw [if_neg (by simp)]
  unfold rightO
  simp [partsL, partsT, ha]
  omega
theorem right_sign {N : List Nd} {a b : Int} (ha : knownB N.length a = true) (hb : knownB N.length b = true) : rightB N ⟨9, ByteArray.empty, a, b⟩ = true := by
  unfold rightB
  rw [if_neg (by simp)]
  unfold rightO
  simp [partsL, partsT, ha, hb]
theorem right_pub {N : List Nd} {a : Int} (ha : knownB N.length a = true) : rightB N ⟨6, ByteArray.empty, a, 0⟩ = true := by
  unfold rightB
  rw [if_neg (by simp)]
  unfold rightO
  simp [partsL, partsT, ha]
theorem right_box {N : List Nd} {a b : Int} (ha : knownB N.length a = true) (hb : knownB N.length b = true) (h6 : (getN N a).kind = 6) : rightB N ⟨8, ByteArray.empty, a, b⟩ = true := by
  unfold rightB
  rw [if_neg (by simp)]
  unfold getN at h6
  rw [if_pos ha] at h6
  unfold rightO
  simp [partsL, partsT, ha, hb, h6]

end Go.Proofs.Ytmdfhaihbaiegaa
