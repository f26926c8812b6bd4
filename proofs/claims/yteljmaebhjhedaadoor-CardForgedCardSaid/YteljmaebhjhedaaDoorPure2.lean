/- What this claim reaches of a longer text of this session. -/
import Derived.Test.YteljmaebhjhedaaDoorStore
set_option linter.unusedVariables false
set_option linter.unusedSimpArgs false
namespace Go.Proofs.YteljmaebhjhedaaDoor
theorem known_mono {a b : Nat} (h : a ≤ b) {t : Int} (hk : knownB a t = true) : knownB b t = true := by
  rw [knownB_iff] at *; omega
theorem getN_prefix {L L' : List Nd} (h : L <+: L') {t : Int} (hk : knownB L.length t = true) : getN L' t = getN L t := by
  obtain ⟨r, rfl⟩ := h
  have hk' := known_mono (b := (L ++ r).length) (by simp) hk
  unfold getN
  rw [if_pos hk, if_pos hk']
  rw [knownB_iff] at hk
  unfold nodeAt
  rw [List.getD_eq_getElem?_getD, List.getD_eq_getElem?_getD, List.getElem?_append_left (by omega)]
theorem getN_new {L : List Nd} (n : Nd) (h : mkT L n ≠ 0) : knownB (mkL L n).length (mkT L n) = true ∧ getN (mkL L n) (mkT L n) = n := by
  rcases mk_cases L n with ⟨k, hk, e, h1, _, h3⟩ | ⟨_, _, h1, _, h3⟩ | ⟨_, _, _, h1, _, h3⟩ | ⟨_, _, _, h1, _, h3⟩
  · rw [h1, h3]
    have hb : knownB L.length ((k : Int) + 1) = true := by rw [knownB_iff]; omega
    exact ⟨hb, by unfold getN; rw [if_pos hb, nodeAt_get L hk, e]⟩
  · exact absurd h1 h
  · exact absurd h1 h
  · rw [h1, h3]
    have hlt : L.length < (L ++ [n]).length := by simp
    have hb : knownB (L ++ [n]).length ((L.length : Int) + 1) = true := by rw [knownB_iff]; simp; omega
    exact ⟨hb, by unfold getN; rw [if_pos hb, nodeAt_get _ hlt]; simp⟩
theorem fresh_ok {L : List Nd} {k : Nat} (hL : L.length < 262144) (hk : k ≤ 1000000) : mkT L (freshN k) ≠ 0 ∧ freshD L k = (k : Int) + 1 ∧ (mkL L (freshN k)).length ≤ L.length + 1 := by
  have hT : mkT L (freshN k) ≠ 0 ∧ (mkL L (freshN k)).length ≤ L.length + 1 := by
    rcases mk_cases L (freshN k) with ⟨j, hj, e, h1, _, h3⟩ | ⟨_, hr, _⟩ | ⟨_, _, h, _⟩ | ⟨_, _, _, h1, _, h3⟩
    · rw [h1, h3]; omega
    · exfalso
      unfold rightB at hr
      rw [if_pos (show (freshN k).kind = 1 from rfl)] at hr
      have : (ByteArray.empty).toList = [] := by rw [ByteArray.toList_eq]; rfl
      have e : (decide (1 ≤ (freshN (k : Int)).a) && decide ((freshN (k : Int)).a ≤ 1099511627776) && (decide ((freshN (k : Int)).label.toList = []) && decide ((freshN (k : Int)).b = 0))) = true := by
        rw [show (freshN (k : Int)).a = (k : Int) + 1 from rfl, show (freshN (k : Int)).b = 0 from rfl, show (freshN (k : Int)).label = ByteArray.empty from rfl, this]
        simp; omega
      rw [e] at hr; cases hr
    · omega
    · rw [h1, h3]; simp; omega
  exact ⟨hT.1, by unfold freshD; rw [if_neg hT.1], hT.2⟩
theorem getN_right {L : List Nd} (h : WF L) {t : Int} (hk : knownB L.length t = true) : ∃ i, ∃ hi : i < L.length, t = (i : Int) + 1 ∧ getN L t = L[i] ∧ rightB (L.take i) L[i] = true := by
  have hr : 1 ≤ t ∧ t ≤ L.length := by simpa [knownB] using hk
  obtain ⟨i, rfl⟩ : ∃ i : Nat, t = (i : Int) + 1 := ⟨(t - 1).toNat, by omega⟩
  have hi : i < L.length := by omega
  exact ⟨i, hi, rfl, by unfold getN; rw [if_pos hk, nodeAt_get L hi], h i hi⟩
theorem right_plain {L : List Nd} {n : Nd} (h : rightB L n = true) (hk : n.kind = 6 ∨ n.kind = 9) : n.label = ByteArray.empty ∧ (n.kind = 6 → n.b = 0) := by
  unfold rightB at h
  rw [if_neg (by omega)] at h
  unfold rightO at h
  simp only [Bool.and_eq_true, Bool.not_eq_true', Bool.and_eq_false_iff, decide_eq_false_iff_not, Bool.or_eq_true, decide_eq_true_eq, Bool.not_eq_false', Classical.not_not, Int.not_lt, Int.not_le] at h
  obtain ⟨⟨⟨hlab, hA, hB⟩, _⟩, _⟩ := h
  have hl : partsL n.kind = 0 := by unfold partsL; rcases hk with h | h <;> simp [h]
  rw [hl] at hlab
  refine ⟨?_, fun h6 => ?_⟩
  · have : n.label.size = 0 := by omega
    have h2 : n.label.data = #[] := Array.eq_empty_of_size_eq_zero this
    rcases hx : n.label with ⟨d⟩
    rw [hx] at h2
    simp at h2
    rw [h2]; rfl
  · have : partsT n.kind = 1 := by unfold partsT; simp [h6]
    omega
theorem right_one {L : List Nd} {k : Int} (hk : knownB L.length k = true) : rightB L ⟨6, ByteArray.empty, k, 0⟩ = true := by
  simp [rightB, rightO, partsL, partsT, hk]
theorem right_two {L : List Nd} {q k p : Int} (hq : q = 3 ∨ q = 7 ∨ q = 9) (hk : knownB L.length k = true) (hp : knownB L.length p = true) : rightB L ⟨q, ByteArray.empty, k, p⟩ = true := by
  rcases hq with rfl | rfl | rfl <;> simp [rightB, rightO, partsL, partsT, hk, hp]
end Go.Proofs.YteljmaebhjhedaaDoor
