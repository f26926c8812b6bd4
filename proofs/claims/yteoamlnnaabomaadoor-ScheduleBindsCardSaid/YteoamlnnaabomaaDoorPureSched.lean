/- What this claim reaches of a longer text of this session. -/
import Derived.Test.YteoamlnnaabomaaDoorPureSt
import Derived.Test.YteoamlnnaabomaaDoorPSbx4
import Derived.Test.YteoamlnnaabomaaDoorPSbx3
import Derived.Test.YteoamlnnaabomaaDoorPSbx2
set_option linter.unusedVariables false
set_option linter.unusedSimpArgs false
namespace Go.Proofs.YteoamlnnaabomaaDoor.Pure
open Go.RowKit Go.Proofs.YteoamlnnaabomaaDoor Go.Proofs.YteoamlnnaabomaaDoor.PSb Go.Proofs.YteoamlnnaabomaaDoorW.PrintWords
theorem wrap_next (i : Nat) (h : i ≤ 1000000000000000000) : wrap64 ((i : Int) + 1) = ((i + 1 : Nat) : Int) := by unfold wrap64; omega
theorem rd_nat (l : List Int) {i : Nat} (h : i < l.length) : rd l (i : Int) = l[i] := by unfold rd; rw [Int.toNat_natCast, List.getD_eq_getElem?_getD, List.getElem?_eq_getElem h]; rfl
def rightL (l : List Int) (n : Int) : Bool := l.all fun x => decide (1 ≤ x) && decide (x ≤ n)
theorem right_l0 (n : Int) (l : List Int) (hl : l.length ≤ 100000000000000000) : ∀ (m k i : Nat), m + i = l.length → m < k → conclavelaw07_right.l0 k n l (l.length : Int) (i : Int) = some (rightL (l.drop i) n)
  | 0, k + 1, i, h, _ => by
    unfold conclavelaw07_right.l0
    rw [if_neg (by omega), List.drop_of_length_le (by omega)]
    rfl
  | m + 1, k + 1, i, h, hk => by
    have hi : i < l.length := by omega
    unfold conclavelaw07_right.l0
    rw [if_pos (by omega), if_pos (by omega), if_pos (by omega), rd_nat l hi, List.drop_eq_getElem_cons hi, wrap_next i (by omega), right_l0 n l hl m k (i + 1) (by omega) (by omega)]
    unfold rightL
    rw [List.all_cons]
    by_cases h1 : l[i] < 1
    · rw [if_pos h1, decide_eq_false (by omega : ¬ 1 ≤ l[i])]; rfl
    · rw [if_neg h1, decide_eq_true (by omega : 1 ≤ l[i])]
      by_cases h2 : l[i] > n
      · rw [if_pos h2, decide_eq_false (by omega : ¬ l[i] ≤ n)]; rfl
      · rw [if_neg h2, decide_eq_true (by omega : l[i] ≤ n)]; rfl
theorem right_eq (n : Int) (l : List Int) (k : Nat) (hl : l.length ≤ 100000000000000000) (hk : l.length < k) : conclavelaw07_right.f k l n = some (rightL l n) := by
  unfold conclavelaw07_right.f
  exact right_l0 n l hl l.length k 0 (by omega) hk
theorem rightL_known {l : List Int} {n : Nat} (h : rightL l n = true) : ∀ x ∈ l, knownB n x = true := by
  intro x hx
  unfold rightL at h
  rw [List.all_eq_true] at h
  simpa [knownB] using h x hx
abbrev psk : ByteArray := ⟨#[112, 115, 107]⟩
def Ch (s : TS) : Int → List Int → Prop
  | t, [] => Has s t ⟨2, ⟨#[]⟩, 0, 0⟩
  | t, x :: l => ∃ u, Ch s u l ∧ Has s t ⟨5, psk, u, x⟩
theorem Ch.known {s : TS} : ∀ {l : List Int} {t : Int}, Ch s t l → knownB s.nodes.length t = true
  | [], _, h => h.1
  | _ :: _, _, ⟨_, _, h⟩ => h.1
theorem Ch.grow {s s' : TS} {k : Nat} (hg : Grow s s' k) : ∀ {l : List Int} {t : Int}, Ch s t l → Ch s' t l
  | [], _, h => hg.has h
  | _ :: _, _, ⟨u, h1, h2⟩ => ⟨u, h1.grow hg, hg.has h2⟩
theorem Ch.iff {s : TS} (hg : Good s) : ∀ {l m : List Int} {t u : Int}, Ch s t l → Ch s u m → (t = u ↔ l = m)
  | [], [], _, _, h, k => by rw [Has.iff hg h k]; simp
  | [], _ :: _, _, _, h, ⟨_, _, k⟩ => by rw [Has.iff hg h k]; simp
  | _ :: _, [], _, _, ⟨_, _, h⟩, k => by rw [Has.iff hg h k]; simp
  | x :: l, y :: m, _, _, ⟨v, h1, h2⟩, ⟨w, k1, k2⟩ => by
    rw [Has.iff hg h2 k2]
    have := Ch.iff hg h1 k1
    simp only [Nd.mk.injEq, true_and, List.cons.injEq]
    rw [this]
    exact ⟨fun h => ⟨h.2, h.1⟩, fun h => ⟨h.2, h.1⟩⟩
theorem stores9 : conclavelaw07_stores.f 9 = some (freshes ⟨[], 0⟩ 9) := rfl
theorem good9 : Grow ⟨[], 0⟩ (freshes ⟨[], 0⟩ 9) 9 := (freshes_ok 9 (by decide)).1
theorem len9 : (freshes ⟨[], 0⟩ 9).nodes.length = 9 := freshes_len 9 (by decide)
end Go.Proofs.YteoamlnnaabomaaDoor.Pure
