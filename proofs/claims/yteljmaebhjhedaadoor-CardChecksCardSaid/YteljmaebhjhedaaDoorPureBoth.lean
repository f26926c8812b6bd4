/- What this claim reaches of a longer text of this session. -/
import Derived.Test.YteljmaebhjhedaaDoorPureSt
import Derived.Lib.ItoaNum
import Derived.Test.YteljmaebhjhedaaDoorPTwx2
import Derived.Test.YteljmaebhjhedaaDoorPTwx7
set_option linter.unusedVariables false
set_option linter.unusedSimpArgs false
namespace Go.Proofs.YteljmaebhjhedaaDoor.Pure
open Go.RowKit Go.Proofs.YteljmaebhjhedaaDoor Go.Proofs.YteljmaebhjhedaaDoor.PTw Go.Proofs.YteljmaebhjhedaaDoorW.PrintWords
theorem wrap_up (i : Nat) (h : i ≤ 1000000000000000000) : wrap64 ((i : Int) + 1) = ((i + 1 : Nat) : Int) := by unfold wrap64; omega
theorem wrap_down (i : Nat) (h : i ≤ 1000000000000000000) : wrap64 ((i : Int) - 1) = (i : Int) - 1 := by unfold wrap64; omega
theorem wrap_it {a : Int} (h : -9223372036854775808 ≤ a) (h1 : a ≤ 9223372036854775807) : wrap64 a = a := by unfold wrap64; omega
theorem rd_at (l : List Int) {i : Nat} (h : i < l.length) : rd l (i : Int) = l[i] := by unfold rd; rw [Int.toNat_natCast, List.getD_eq_getElem?_getD, List.getElem?_eq_getElem h]; rfl
def lsM (s : TS) : List Int → Int × TS
  | [] => put s ⟨2, ⟨#[]⟩, 0, 0⟩
  | x :: xs => put (lsM s xs).2 ⟨3, ByteArray.empty, x, (lsM s xs).1⟩
def knownL (s : TS) (l : List Int) : Bool := l.all fun x => knownB s.nodes.length x
def listG (s : TS) (l : List Int) : Int × TS := if knownL s l = true then lsM s l else (0, s)
theorem plist_l1 (P R : TS) (l : List Int) (hl : l.length ≤ 100000000000000000) : ∀ (m k : Nat), m ≤ l.length → m < k →
    term_Store_List.l1 k l (lsM P (l.drop m)).1 ((m : Int) - 1) ⟨(lsM P (l.drop m)).2, R⟩ = some ((lsM P l).1, ⟨(lsM P l).2, R⟩)
  | 0, k + 1, _, _ => by
    unfold term_Store_List.l1
    rw [if_neg (by omega)]
    rfl
  | m + 1, k + 1, h, hk => by
    have hm : m < l.length := by omega
    unfold term_Store_List.l1
    rw [show ((m + 1 : Nat) : Int) - 1 = (m : Int) by omega, if_pos (by omega), if_pos (by omega), if_pos (by omega), rd_at l hm, wrap_down m (by omega)]
    have ih := plist_l1 P R l hl m k (by omega) (by omega)
    rw [List.drop_eq_getElem_cons hm] at ih
    exact ih
theorem plist_l0 (P R : TS) (l : List Int) (hl : l.length ≤ 100000000000000000) : ∀ (m k i : Nat), m + i = l.length → m + l.length + 1 < k →
    term_Store_List.l0 k l l (l.length : Int) (i : Int) ⟨P, R⟩ = some ((if knownL P (l.drop i) = true then lsM P l else (0, P)).1, ⟨(if knownL P (l.drop i) = true then lsM P l else (0, P)).2, R⟩)
  | 0, k + 1, i, h, hq => by
    unfold term_Store_List.l0
    rw [if_neg (by omega)]
    have := plist_l1 P R l hl l.length k (Nat.le_refl _) (by omega)
    rw [List.drop_length] at this
    unfold term_Store_Text.f
    rw [Option.bind_some, wrap_down _ (by omega), List.drop_eq_nil_of_le (by omega)]
    exact this
  | m + 1, k + 1, i, h, hq => by
    have hi : i < l.length := by omega
    unfold term_Store_List.l0 term_Store_known.f
    rw [if_pos (by omega), if_pos (by omega), if_pos (by omega), Option.bind_some, rd_at l hi]
    dsimp only
    have e : knownL P (l.drop i) = (knownB P.nodes.length l[i] && knownL P (l.drop (i + 1))) := by rw [List.drop_eq_getElem_cons hi]; rfl
    rw [e]
    cases knownB P.nodes.length l[i] with
    | false => simp
    | true =>
      rw [if_pos rfl, wrap_up i (by omega), Bool.true_and]
      exact plist_l0 P R l hl m k (i + 1) (by omega) (by omega)
theorem plist_eq (P R : TS) (l : List Int) (k : Nat) (hl : l.length ≤ 100000000000000000) (hq : 2 * l.length + 1 < k) : term_Store_List.f k ⟨P, R⟩ l = some ((listG P l).1, ⟨(listG P l).2, R⟩) := by
  unfold term_Store_List.f
  exact plist_l0 P R l hl l.length k 0 (by omega) (by omega)
theorem rlist_l1 (P R : TS) (l : List Int) (hl : l.length ≤ 100000000000000000) : ∀ (m k : Nat), m ≤ l.length → m < k →
    conclaveref01_Store_List.l1 k l (lsM R (l.drop m)).1 ((m : Int) - 1) ⟨P, (lsM R (l.drop m)).2⟩ = some ((lsM R l).1, ⟨P, (lsM R l).2⟩)
  | 0, k + 1, _, _ => by
    unfold conclaveref01_Store_List.l1
    rw [if_neg (by omega)]
    rfl
  | m + 1, k + 1, h, hk => by
    have hm : m < l.length := by omega
    unfold conclaveref01_Store_List.l1
    rw [show ((m + 1 : Nat) : Int) - 1 = (m : Int) by omega, if_pos (by omega), if_pos (by omega), if_pos (by omega), rd_at l hm, wrap_down m (by omega)]
    have ih := rlist_l1 P R l hl m k (by omega) (by omega)
    rw [List.drop_eq_getElem_cons hm] at ih
    exact ih
theorem rlist_l0 (P R : TS) (l : List Int) (hl : l.length ≤ 100000000000000000) : ∀ (m k i : Nat), m + i = l.length → m + l.length + 1 < k →
    conclaveref01_Store_List.l0 k l (i : Int) ⟨P, R⟩ = some ((if knownL R (l.drop i) = true then lsM R l else (0, R)).1, ⟨P, (if knownL R (l.drop i) = true then lsM R l else (0, R)).2⟩)
  | 0, k + 1, i, h, hq => by
    unfold conclaveref01_Store_List.l0
    rw [if_neg (by omega)]
    have := rlist_l1 P R l hl l.length k (Nat.le_refl _) (by omega)
    rw [List.drop_length] at this
    unfold conclaveref01_Store_Text.f
    rw [Option.bind_some, wrap_down _ (by omega), List.drop_eq_nil_of_le (by omega)]
    exact this
  | m + 1, k + 1, i, h, hq => by
    have hi : i < l.length := by omega
    unfold conclaveref01_Store_List.l0 conclaveref01_Store_Known.f
    rw [if_pos (by omega), if_pos (by omega), Option.bind_some, rd_at l hi]
    dsimp only
    have e : knownL R (l.drop i) = (knownB R.nodes.length l[i] && knownL R (l.drop (i + 1))) := by rw [List.drop_eq_getElem_cons hi]; rfl
    rw [e]
    cases knownB R.nodes.length l[i] with
    | false => simp
    | true =>
      rw [if_pos rfl, wrap_up i (by omega), Bool.true_and]
      exact rlist_l0 P R l hl m k (i + 1) (by omega) (by omega)
theorem rlist_eq (P R : TS) (l : List Int) (k : Nat) (hl : l.length ≤ 100000000000000000) (hq : 2 * l.length + 1 < k) : conclaveref01_Store_List.f k ⟨P, R⟩ l = some ((listG R l).1, ⟨P, (listG R l).2⟩) := by
  unfold conclaveref01_Store_List.f
  exact rlist_l0 P R l hl l.length k 0 (by omega) (by omega)
theorem str_one (x : Int) : strOfNums [x] = ⟨#[UInt8.ofNat x.toNat]⟩ := by
  unfold strOfNums
  rfl
theorem str_app (l m : List UInt8) : (⟨l.toArray⟩ : ByteArray) ++ (⟨m.toArray⟩ : ByteArray) = ⟨(l ++ m).toArray⟩ := by
  apply ByteArray.ext
  simp
theorem str_size (l : List UInt8) : (⟨l.toArray⟩ : ByteArray).size = l.length := by simp [ByteArray.size]
theorem dec_big {u : Nat} (h : ¬ u < 10) : Lib.decDigits u = Lib.decDigits (u / 10) ++ [UInt8.ofNat (48 + u % 10)] := by rw [Lib.decDigits, dif_neg h]
theorem dec_len : ∀ (m u : Nat), u < 10 ^ (m + 1) → (Lib.decDigits u).length ≤ m + 1
  | 0, u, h => by rw [Lib.decDigits_one (by simpa using h)]; simp
  | m + 1, u, h => by
    by_cases h1 : u < 10
    · rw [Lib.decDigits_one h1]; simp
    · rw [dec_big h1, List.length_append]
      have := dec_len m (u / 10) (by rw [Nat.pow_succ] at h; omega)
      simp; omega
theorem tdiv10 (n : Int) : (n < 0 → Int.tdiv n 10 = -((n.natAbs / 10 : Nat) : Int) ∧ Int.tmod n 10 = -((n.natAbs % 10 : Nat) : Int)) ∧ (0 ≤ n → Int.tdiv n 10 = ((n.natAbs / 10 : Nat) : Int) ∧ Int.tmod n 10 = ((n.natAbs % 10 : Nat) : Int)) := by
  refine ⟨fun h => ?_, fun h => ?_⟩
  · obtain ⟨m, rfl⟩ : ∃ m : Nat, n = -(m : Int) := ⟨n.natAbs, by omega⟩
    rw [Int.neg_tdiv, Int.neg_tmod, Int.natAbs_neg, Int.natAbs_natCast]
    exact ⟨rfl, rfl⟩
  · obtain ⟨m, rfl⟩ : ∃ m : Nat, n = (m : Int) := ⟨n.natAbs, by omega⟩
    rw [Int.natAbs_natCast]
    exact ⟨rfl, rfl⟩
theorem itoa_big {n : Int} (h : ¬ n.natAbs < 10) : Lib.itoa n = Lib.itoa (Int.tdiv n 10) ++ [UInt8.ofNat (48 + n.natAbs % 10)] := by
  have hd : (Int.tdiv n 10).natAbs = n.natAbs / 10 := by rw [Int.natAbs_tdiv]; rfl
  have ht := tdiv10 n
  unfold Lib.itoa
  by_cases hn : n < 0
  · have h2 : Int.tdiv n 10 < 0 := by have := (ht.1 hn).1; omega
    rw [if_pos hn, if_pos h2, hd, dec_big h, List.cons_append]
  · have h2 : ¬ Int.tdiv n 10 < 0 := by have := (ht.2 (by omega)).1; omega
    rw [if_neg hn, if_neg h2, show n.toNat = n.natAbs by omega, show (Int.tdiv n 10).toNat = (Int.tdiv n 10).natAbs by omega, hd, dec_big h]
theorem digits_eq : ∀ (m k : Nat) (n : Int), n.natAbs < 10 ^ (m + 1) → 3 * (m + 1) < k → m ≤ 30 → -9223372036854775808 ≤ n → n ≤ 9223372036854775807 → conclaveref05_Digits.f k n = some ⟨(Lib.itoa n).toArray⟩
  | m, k, n, hm, hk, hm3, h0, h1 => by
    obtain ⟨k, rfl⟩ : ∃ q, k = q + 3 := ⟨k - 3, by omega⟩
    by_cases hs : n.natAbs < 10
    · have hu : Lib.decDigits n.natAbs = [UInt8.ofNat (48 + n.natAbs)] := Lib.decDigits_one hs
      rw [conclaveref05_Digits.f, if_pos (by omega)]
      by_cases hn : n < 0
      · rw [decide_eq_true hn, conclaveref05_Digits.j0, if_pos rfl, Option.bind_some, str_one, if_pos (by simp [ByteArray.size])]
        rw [show ((wrap64 (48 - n)) % 256).toNat = 48 + n.natAbs by unfold wrap64; omega]
        unfold Lib.itoa
        rw [if_pos hn, hu]
        rfl
      · rw [decide_eq_false hn, conclaveref05_Digits.j0, if_neg (by decide), if_pos (by omega), decide_eq_true (by omega), conclaveref05_Digits.j1, if_pos rfl, str_one]
        rw [show ((wrap64 (48 + n)) % 256).toNat = 48 + n.natAbs by unfold wrap64; omega]
        unfold Lib.itoa
        rw [if_neg hn, show n.toNat = n.natAbs by omega, hu]
    · match m, hm, hk, hm3 with
      | 0, hm, hk, hm3 => simp at hm; omega
      | m + 1, hm, hk, hm3 =>
        have hd : (Int.tdiv n 10).natAbs = n.natAbs / 10 := by rw [Int.natAbs_tdiv]; rfl
        have h10 := tdiv10 n
        have hmod : Int.tmod n 10 = -((n.natAbs % 10 : Nat) : Int) ∨ Int.tmod n 10 = ((n.natAbs % 10 : Nat) : Int) := by
          by_cases hn : n < 0
          · exact .inl (h10.1 hn).2
          · exact .inr (h10.2 (by omega)).2
        have ih := digits_eq m k (Int.tdiv n 10) (by rw [hd]; rw [Nat.pow_succ] at hm; omega) (by omega) (by omega) (by omega) (by omega)
        have hw : wrap64 (Int.tdiv n 10) = Int.tdiv n 10 := wrap_it (by omega) (by omega)
        have hl : (Lib.itoa (Int.tdiv n 10)).length ≤ 100 := by
          have e1 := dec_len m (n.natAbs / 10) (by rw [Nat.pow_succ] at hm; omega)
          unfold Lib.itoa
          split
          · rw [hd, List.length_cons]; omega
          · rw [show (Int.tdiv n 10).toNat = n.natAbs / 10 by omega]; omega
        have e0 : conclaveref05_Digits.f (k + 3) n = conclaveref05_Digits.j1 (k + 1) n false := by
          rw [conclaveref05_Digits.f]
          by_cases hn : n > -10
          · rw [if_pos hn, decide_eq_false (by omega), conclaveref05_Digits.j0, if_neg (by decide), if_pos (by omega), decide_eq_false (by omega)]
          · rw [if_neg hn, conclaveref05_Digits.j0, if_neg (by decide), if_neg (by omega)]
        rw [e0, conclaveref05_Digits.j1, if_neg (by decide), hw, ih, itoa_big hs, ← str_app]
        by_cases ht : Int.tmod n 10 < 0
        · rw [if_pos ht, Option.bind_some, Option.bind_some, str_one, if_pos (by rw [str_size]; simp [ByteArray.size]; omega)]
          rw [show ((wrap64 (48 + wrap64 (-(Int.tmod n 10)))) % 256).toNat = 48 + n.natAbs % 10 by unfold wrap64; omega]
        · rw [if_neg ht, Option.bind_some, Option.bind_some, str_one, if_pos (by rw [str_size]; simp [ByteArray.size]; omega)]
          rw [show ((wrap64 (48 + Int.tmod n 10)) % 256).toNat = 48 + n.natAbs % 10 by unfold wrap64; omega]
theorem pnumber_eq (P R : TS) (a : Int) (h0 : -9223372036854775808 ≤ a) (h1 : a ≤ 9223372036854775807) : digest_Number.f ⟨P, R⟩ a = some ((put P ⟨2, num a, 0, 0⟩).1, ⟨(put P ⟨2, num a, 0, 0⟩).2, R⟩) := by
  unfold digest_Number.f
  rw [if_pos ⟨h0, h1⟩]
theorem rnumber_eq (P R : TS) (a : Int) (k : Nat) (hk : 100 < k) (h0 : -9223372036854775808 ≤ a) (h1 : a ≤ 9223372036854775807) : conclaveref05_Number.f k ⟨P, R⟩ a = some ((put R ⟨2, num a, 0, 0⟩).1, ⟨P, (put R ⟨2, num a, 0, 0⟩).2⟩) := by
  unfold conclaveref05_Number.f
  rw [digits_eq 20 k a (by omega) (by omega) (by omega) h0 h1, Option.bind_some]
  unfold num
  rw [numL_eq a h0 h1]
  rfl
end Go.Proofs.YteljmaebhjhedaaDoor.Pure
