/- What this claim reaches of a longer text of this session. -/
import Derived.Test.YteljmaebhjhedaaDoorPureSt
import Derived.Lib.ItoaNum
import Derived.Lib.ItoaLen
import Derived.Test.YteljmaebhjhedaaDoorPCnx3
set_option linter.unusedVariables false
set_option linter.unusedSimpArgs false
namespace Go.Proofs.YteljmaebhjhedaaDoor
open Go.Lib
theorem digit_eq {a b : Nat} (ha : a < 10) (hb : b < 10) (h : UInt8.ofNat (48 + a) = UInt8.ofNat (48 + b)) : a = b := by
  have := congrArg UInt8.toNat h
  simp at this
  omega
theorem decDigits_ne (u : Nat) : decDigits u ≠ [] := by
  intro h
  have h1 := decDigits_length u
  have h2 := nDigits_pos u
  rw [h] at h1
  simp at h1
  omega
theorem decDigits_inj : ∀ (u v : Nat), decDigits u = decDigits v → u = v := by
  intro u
  induction u using Nat.strongRecOn with
  | _ u ih =>
    intro v h
    rw [decDigits] at h
    rw [decDigits.eq_def v] at h
    by_cases hu : u < 10
    · by_cases hv : v < 10
      · rw [dif_pos hu, dif_pos hv] at h
        exact digit_eq hu hv (List.cons.inj h).1
      · rw [dif_pos hu, dif_neg hv] at h
        have := congrArg List.length h
        have h2 := List.length_pos_iff.2 (decDigits_ne (v / 10))
        simp only [List.length_append, List.length_cons, List.length_nil] at this
        omega
    · by_cases hv : v < 10
      · rw [dif_neg hu, dif_pos hv] at h
        have := congrArg List.length h
        have h2 := List.length_pos_iff.2 (decDigits_ne (u / 10))
        simp only [List.length_append, List.length_cons, List.length_nil] at this
        omega
      · rw [dif_neg hu, dif_neg hv] at h
        obtain ⟨h1, h2⟩ := List.append_inj' h rfl
        have h3 := ih (u / 10) (by omega) _ h1
        have h4 := digit_eq (Nat.mod_lt _ (by decide)) (Nat.mod_lt _ (by decide)) (List.cons.inj h2).1
        omega
theorem decDigits_ge (u : Nat) : ∀ x ∈ decDigits u, 48 ≤ x.toNat := by
  induction u using Nat.strongRecOn with
  | _ u ih =>
    intro x hx
    rw [decDigits] at hx
    by_cases hu : u < 10
    · rw [dif_pos hu] at hx
      simp at hx
      subst hx
      simp
      omega
    · rw [dif_neg hu, List.mem_append] at hx
      rcases hx with hx | hx
      · exact ih _ (by omega) x hx
      · have := Nat.mod_lt u (by decide : 0 < 10)
        simp at hx
        subst hx
        simp
        omega
theorem itoa_inj {a b : Int} (h : itoa a = itoa b) : a = b := by
  have head : ∀ (u v : Nat), 45 :: decDigits u ≠ decDigits v := by
    intro u v e
    have := decDigits_ge v 45 (by rw [← e]; exact List.mem_cons_self)
    revert this; decide
  unfold itoa at h
  by_cases ha : a < 0
  · by_cases hb : b < 0
    · rw [if_pos ha, if_pos hb] at h
      have := decDigits_inj _ _ (List.cons.inj h).2
      omega
    · rw [if_pos ha, if_neg hb] at h
      exact absurd h (head _ _)
  · by_cases hb : b < 0
    · rw [if_neg ha, if_pos hb] at h
      exact absurd h.symm (head _ _)
    · rw [if_neg ha, if_neg hb] at h
      have := decDigits_inj _ _ h
      omega
end Go.Proofs.YteljmaebhjhedaaDoor
namespace Go.Proofs.YteljmaebhjhedaaDoor.Pure
open Go.RowKit Go.Proofs.YteljmaebhjhedaaDoor Go.Proofs.YteljmaebhjhedaaDoor.PCn Go.Proofs.YteljmaebhjhedaaDoorW.PrintWords
theorem wrap_up (i : Nat) (h : i ≤ 1000000000000000000) : wrap64 ((i : Int) + 1) = ((i + 1 : Nat) : Int) := by unfold wrap64; omega
theorem wrap_down (i : Nat) (h : i ≤ 1000000000000000000) : wrap64 ((i : Int) - 1) = (i : Int) - 1 := by unfold wrap64; omega
theorem rd_at (l : List Int) {i : Nat} (h : i < l.length) : rd l (i : Int) = l[i] := by unfold rd; rw [Int.toNat_natCast, List.getD_eq_getElem?_getD, List.getElem?_eq_getElem h]; rfl
theorem Has.lt {s : TS} {t : Int} {n : Nd} (h : Has s t n) : 1 ≤ t ∧ t ≤ s.nodes.length := knownB_iff.1 h.1
def lsM (s : TS) : List Int → Int × TS
  | [] => put s ⟨2, ⟨#[]⟩, 0, 0⟩
  | x :: xs => put (lsM s xs).2 ⟨3, ByteArray.empty, x, (lsM s xs).1⟩
def IsL (s : TS) : Int → List Int → Prop
  | t, [] => Has s t ⟨2, ⟨#[]⟩, 0, 0⟩
  | t, x :: l => ∃ u, IsL s u l ∧ Has s t ⟨3, ByteArray.empty, x, u⟩
theorem IsL.known {s : TS} : ∀ {l : List Int} {t : Int}, IsL s t l → knownB s.nodes.length t = true
  | [], _, h => h.1
  | _ :: _, _, ⟨_, _, h⟩ => h.1
theorem IsL.grow {s s' : TS} {k : Nat} (hg : Grow s s' k) : ∀ {l : List Int} {t : Int}, IsL s t l → IsL s' t l
  | [], _, h => hg.has h
  | _ :: _, _, ⟨u, h1, h2⟩ => ⟨u, h1.grow hg, hg.has h2⟩
theorem IsL.iff {s : TS} (hg : Good s) : ∀ {l m : List Int} {t u : Int}, IsL s t l → IsL s u m → (t = u ↔ l = m)
  | [], [], _, _, h, k => by rw [Has.iff hg h k]; simp
  | [], _ :: _, _, _, h, ⟨_, _, k⟩ => by rw [Has.iff hg h k]; simp
  | _ :: _, [], _, _, ⟨_, _, h⟩, k => by rw [Has.iff hg h k]; simp
  | x :: l, y :: m, _, _, ⟨v, h1, h2⟩, ⟨w, k1, k2⟩ => by
    rw [Has.iff hg h2 k2]
    have := IsL.iff hg h1 k1
    simp only [Nd.mk.injEq, true_and, List.cons.injEq]
    rw [this]
theorem pair_ok {s : TS} (hg : Good s) {a b : Int} (ha : knownB s.nodes.length a = true) (hb : knownB s.nodes.length b = true) (hl : s.nodes.length < 262144) : Grow s (put s ⟨3, ByteArray.empty, a, b⟩).2 1 ∧ Has (put s ⟨3, ByteArray.empty, a, b⟩).2 (put s ⟨3, ByteArray.empty, a, b⟩).1 ⟨3, ByteArray.empty, a, b⟩ :=
  put_ok hg (right_two (.inl rfl) ha hb) hl
theorem hash_ok {s : TS} (hg : Good s) (l : ByteArray) (a : Int) (hs : l.size ≤ 32) (ha : knownB s.nodes.length a = true) (hl : s.nodes.length < 262144) : Grow s (put s ⟨4, l, a, 0⟩).2 1 ∧ Has (put s ⟨4, l, a, 0⟩).2 (put s ⟨4, l, a, 0⟩).1 ⟨4, l, a, 0⟩ :=
  put_ok hg (right_hash _ l a hs ha) hl
theorem pub_ok {s : TS} (hg : Good s) (a : Int) (ha : knownB s.nodes.length a = true) (hl : s.nodes.length < 262144) : Grow s (put s ⟨6, ByteArray.empty, a, 0⟩).2 1 ∧ Has (put s ⟨6, ByteArray.empty, a, 0⟩).2 (put s ⟨6, ByteArray.empty, a, 0⟩).1 ⟨6, ByteArray.empty, a, 0⟩ :=
  put_ok hg (right_one ha) hl
theorem sign_ok {s : TS} (hg : Good s) (a b : Int) (ha : knownB s.nodes.length a = true) (hb : knownB s.nodes.length b = true) (hl : s.nodes.length < 262144) : Grow s (put s ⟨9, ByteArray.empty, a, b⟩).2 1 ∧ Has (put s ⟨9, ByteArray.empty, a, b⟩).2 (put s ⟨9, ByteArray.empty, a, b⟩).1 ⟨9, ByteArray.empty, a, b⟩ :=
  put_ok hg (right_two (.inr (.inr rfl)) ha hb) hl
theorem lsM_ok {s : TS} (hg : Good s) : ∀ {l : List Int}, (∀ x ∈ l, knownB s.nodes.length x = true) → s.nodes.length + l.length + 1 ≤ 262144 → Grow s (lsM s l).2 (l.length + 1) ∧ IsL (lsM s l).2 (lsM s l).1 l
  | [], _, hl => by
    obtain ⟨g, h⟩ := text_ok hg ⟨#[]⟩ (by decide) (by simp at hl; omega)
    exact ⟨g, h⟩
  | x :: l, hk, hl => by
    simp only [List.length_cons] at hl
    obtain ⟨g, h⟩ := lsM_ok hg (l := l) (fun y hy => hk y (List.mem_cons_of_mem _ hy)) (by omega)
    obtain ⟨g1, h1⟩ := pair_ok g.good (g.known (hk x List.mem_cons_self)) h.known (by have := g.len; omega)
    exact ⟨g.trans g1, _, h.grow g1, h1⟩
theorem list_l1 (s : TS) (l : List Int) (hl : l.length ≤ 100000000000000000) : ∀ (m k : Nat), m ≤ l.length → m < k → term_Store_List.l1 k l (lsM s (l.drop m)).1 ((m : Int) - 1) (lsM s (l.drop m)).2 = some (lsM s l)
  | 0, k + 1, _, _ => by
    unfold term_Store_List.l1
    rw [if_neg (by omega)]
    rfl
  | m + 1, k + 1, h, hk => by
    have hm : m < l.length := by omega
    unfold term_Store_List.l1
    rw [show ((m + 1 : Nat) : Int) - 1 = (m : Int) by omega, if_pos (by omega), if_pos (by omega), if_pos (by omega), rd_at l hm, wrap_down m (by omega)]
    have ih := list_l1 s l hl m k (by omega) (by omega)
    rw [List.drop_eq_getElem_cons hm] at ih
    exact ih
theorem list_l0 (s : TS) (l : List Int) (hl : l.length ≤ 100000000000000000) (hk : ∀ x ∈ l, knownB s.nodes.length x = true) : ∀ (m k i : Nat), m + i = l.length → m + l.length + 1 < k → term_Store_List.l0 k l l (l.length : Int) (i : Int) s = some (lsM s l)
  | 0, k + 1, i, h, hq => by
    unfold term_Store_List.l0
    rw [if_neg (by omega)]
    have := list_l1 s l hl l.length k (Nat.le_refl _) (by omega)
    rw [List.drop_length] at this
    unfold term_Store_Text.f
    rw [Option.bind_some, wrap_down _ (by omega)]
    exact this
  | m + 1, k + 1, i, h, hq => by
    have hi : i < l.length := by omega
    unfold term_Store_List.l0 term_Store_known.f
    rw [if_pos (by omega), if_pos (by omega), if_pos (by omega), Option.bind_some, rd_at l hi]
    dsimp only
    rw [hk _ (List.getElem_mem hi), if_pos rfl, wrap_up i (by omega)]
    exact list_l0 s l hl hk m k (i + 1) (by omega) (by omega)
theorem list_eq (s : TS) (l : List Int) (k : Nat) (hl : l.length ≤ 100000000000000000) (hk : ∀ x ∈ l, knownB s.nodes.length x = true) (hq : 2 * l.length + 1 < k) : term_Store_List.f k s l = some (lsM s l) := by
  unfold term_Store_List.f
  exact list_l0 s l hl hk l.length k 0 (by omega) (by omega)
theorem num_size (a : Int) (h0 : -9223372036854775808 ≤ a) (h1 : a ≤ 9223372036854775807) : (num a).size ≤ 21 := by
  have := Go.Lib.itoa_length_le a h0 h1
  rw [← numL_eq a h0 h1] at this
  simpa [num, ByteArray.size] using this
theorem num_inj {a b : Int} (ha : -9223372036854775808 ≤ a ∧ a ≤ 9223372036854775807) (hb : -9223372036854775808 ≤ b ∧ b ≤ 9223372036854775807) (h : num a = num b) : a = b := by
  unfold num at h
  have h2 : (numL a).toArray = (numL b).toArray := by injection h
  rw [numL_eq a ha.1 ha.2, numL_eq b hb.1 hb.2] at h2
  exact itoa_inj (by simpa using h2)
theorem number_eq (s : TS) (a : Int) (h0 : -9223372036854775808 ≤ a) (h1 : a ≤ 9223372036854775807) : digest_Number.f s a = some (put s ⟨2, num a, 0, 0⟩) := by
  unfold digest_Number.f
  rw [if_pos ⟨h0, h1⟩]
theorem number_ok {s : TS} (hg : Good s) (a : Int) (h0 : -9223372036854775808 ≤ a) (h1 : a ≤ 9223372036854775807) (hl : s.nodes.length < 262144) : Grow s (put s ⟨2, num a, 0, 0⟩).2 1 ∧ Has (put s ⟨2, num a, 0, 0⟩).2 (put s ⟨2, num a, 0, 0⟩).1 ⟨2, num a, 0, 0⟩ :=
  text_ok hg _ (by have := num_size a h0 h1; omega) hl
end Go.Proofs.YteljmaebhjhedaaDoor.Pure
