/- What this claim reaches of a longer text of this session. -/
import Derived.Test.YteljmaebhjhedaaDoorStore
set_option linter.unusedVariables false
set_option linter.unusedSimpArgs false
namespace Go.Proofs.YteljmaebhjhedaaDoor
theorem known_mono {a b : Nat} (h : a ≤ b) {t : Int} (hk : knownB a t = true) : knownB b t = true := by
  rw [knownB_iff] at *; omega
theorem getN_prefix {L L' : List Nd} (h : L <+: L') {t : Int} (hk : knownB L.length t = true) : getN L' t = getN L t := by
  obtain ⟨r, rfl⟩ := h
  have hk' := known_mono (b := (L ++ r).length) (by simp) hk
  unfold getN
  rw [if_pos hk, if_pos hk']
  rw [knownB_iff] at hk
  unfold nodeAt
  rw [List.getD_eq_getElem?_getD, List.getD_eq_getElem?_getD, List.getElem?_append_left (by omega)]
theorem getN_new {L : List Nd} (n : Nd) (h : mkT L n ≠ 0) : knownB (mkL L n).length (mkT L n) = true ∧ getN (mkL L n) (mkT L n) = n := by
  rcases mk_cases L n with ⟨k, hk, e, h1, _, h3⟩ | ⟨_, _, h1, _, h3⟩ | ⟨_, _, _, h1, _, h3⟩ | ⟨_, _, _, h1, _, h3⟩
  · rw [h1, h3]
    have hb : knownB L.length ((k : Int) + 1) = true := by rw [knownB_iff]; omega
    exact ⟨hb, by unfold getN; rw [if_pos hb, nodeAt_get L hk, e]⟩
  · exact absurd h1 h
  · exact absurd h1 h
  · rw [h1, h3]
    have hlt : L.length < (L ++ [n]).length := by simp
    have hb : knownB (L ++ [n]).length ((L.length : Int) + 1) = true := by rw [knownB_iff]; simp; omega
    exact ⟨hb, by unfold getN; rw [if_pos hb, nodeAt_get _ hlt]; simp⟩
theorem fresh_ok {L : List Nd} {k : Nat} (hL : L.length < 262144) (hk : k ≤ 1000000) : mkT L (freshN k) ≠ 0 ∧ freshD L k = (k : Int) + 1 ∧ (mkL L (freshN k)).length ≤ L.length + 1 := by
  have hT : mkT L (freshN k) ≠ 0 ∧ (mkL L (freshN k)).length ≤ L.length + 1 := by
    rcases mk_cases L (freshN k) with ⟨j, hj, e, h1, _, h3⟩ | ⟨_, hr, _⟩ | ⟨_, _, h, _⟩ | ⟨_, _, _, h1, _, h3⟩
    · rw [h1, h3]; omega
    · exfalso
      unfold rightB at hr
      rw [if_pos (show (freshN k).kind = 1 from rfl)] at hr
      have : (ByteArray.empty).toList = [] := by rw [ByteArray.toList_eq]; rfl
      have e : (decide (1 ≤ (freshN (k : Int)).a) && decide ((freshN (k : Int)).a ≤ 1099511627776) && (decide ((freshN (k : Int)).label.toList = []) && decide ((freshN (k : Int)).b = 0))) = true := by
        rw [show (freshN (k : Int)).a = (k : Int) + 1 from rfl, show (freshN (k : Int)).b = 0 from rfl, show (freshN (k : Int)).label = ByteArray.empty from rfl, this]
        simp; omega
      rw [e] at hr; cases hr
    · omega
    · rw [h1, h3]; simp; omega
  exact ⟨hT.1, by unfold freshD; rw [if_neg hT.1], hT.2⟩
theorem right_one {L : List Nd} {k : Int} (hk : knownB L.length k = true) : rightB L ⟨6, ByteArray.empty, k, 0⟩ = true := by
  simp [rightB, rightO, partsL, partsT, hk]
theorem right_two {L : List Nd} {q k p : Int} (hq : q = 3 ∨ q = 7 ∨ q = 9) (hk : knownB L.length k = true) (hp : knownB L.length p = true) : rightB L ⟨q, ByteArray.empty, k, p⟩ = true := by
  rcases hq with rfl | rfl | rfl <;> simp [rightB, rightO, partsL, partsT, hk, hp]
end Go.Proofs.YteljmaebhjhedaaDoor
