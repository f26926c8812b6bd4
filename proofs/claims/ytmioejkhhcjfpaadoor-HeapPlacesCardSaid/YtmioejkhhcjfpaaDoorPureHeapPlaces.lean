/- The plain statement behind HeapPlaces: levels are counted alike; the rest is looked at place by place. -/
import Derived.Test.YtmioejkhhcjfpaaDoorPureHeap0
import Derived.OpenShut
import Derived.Test.YtmioejkhhcjfpaaDoorPHex5
namespace Go.Proofs.YtmioejkhhcjfpaaDoor.Pure
open Go.RowKit Go.Proofs.YtmioejkhhcjfpaaDoor.PHe Go.WideShapes Go.ChangeShapes
set_option maxRecDepth 100000

/-- How many ones stand at a number's end. -/
def ones : Nat → Nat → Nat
  | 0, _ => 0
  | f + 1, x => if x % 2 = 1 then 1 + ones f (x / 2) else 0
theorem ones_le : ∀ (f x : Nat), ones f x ≤ f
  | 0, _ => Nat.le_refl _
  | f + 1, x => by
    unfold ones
    have := ones_le f (x / 2)
    split <;> omega
theorem ctz_ones : ∀ (f x : Nat), x < 2 ^ f → Lib.ctzFrom f (2 ^ f - 1 - x) = ones f x
  | 0, _, _ => rfl
  | f + 1, x, h => by
    have hp : 2 ^ (f + 1) = 2 * 2 ^ f := by rw [Nat.pow_succ]; omega
    have h1 : 1 ≤ 2 ^ f := Nat.one_le_two_pow
    unfold Lib.ctzFrom ones
    by_cases hx : x % 2 = 1
    · rw [if_neg (by omega), if_pos hx, show (2 ^ (f + 1) - 1 - x) / 2 = 2 ^ f - 1 - x / 2 by omega, ctz_ones f (x / 2) (by omega)]
    · rw [if_pos (by omega), if_neg hx]
theorem ones_fuel : ∀ (f g x : Nat), f ≤ g → x < 2 ^ f → ones g x = ones f x
  | 0, g, x, _, h => by
    have : x = 0 := by omega
    subst this
    cases g <;> simp [ones]
  | f + 1, 0, _, h, _ => absurd h (by omega)
  | f + 1, g + 1, x, h, hx => by
    have hp : 2 ^ (f + 1) = 2 * 2 ^ f := by rw [Nat.pow_succ]; omega
    unfold ones
    rw [ones_fuel f g (x / 2) (by omega) (by omega)]
theorem lev_ones (x : Nat) (h : x < 2 ^ 63) : lev (x : Int) = ones 63 x := by
  unfold lev
  rw [if_neg (by omega), show ((x : Int) % 18446744073709551616).toNat = x by omega]
  have h64 : x < 2 ^ 64 := by omega
  unfold Lib.ctz
  rw [if_neg (by omega), show 18446744073709551615 - x = 2 ^ 64 - 1 - x by omega, ctz_ones 64 x h64, ones_fuel 63 64 x (by omega) h]
theorem refLevel_l0 : ∀ (f x : Nat) (c : Int) (k : Nat), x < 2 ^ f → 0 ≤ c → c + f ≤ 1000 → f < k → x < 2 ^ 63 → conclaveref03_Level.l0 k x c = some (c + ones f x)
  | f, x, c, 0, _, _, _, hk, _ => absurd hk (by omega)
  | 0, x, c, k + 1, hx, _, _, _, _ => by
    have : x = 0 := by omega
    subst this
    simp [conclaveref03_Level.l0, ones]
  | f + 1, x, c, k + 1, hx, h0, h1, hk, h63 => by
    have hp : 2 ^ (f + 1) = 2 * 2 ^ f := by rw [Nat.pow_succ]; omega
    unfold conclaveref03_Level.l0 ones
    by_cases hz : x = 0
    · subst hz; simp
    · rw [if_pos (by omega)]
      have e1 : Int.tmod (x : Int) 2 = ((x % 2 : Nat) : Int) := (Int.ofNat_tmod x 2).symm
      have e2 : Int.tdiv (x : Int) 2 = ((x / 2 : Nat) : Int) := (Int.ofNat_tdiv x 2).symm
      rw [e1, e2]
      by_cases hm : x % 2 = 1
      · rw [if_pos (by omega), if_pos hm, wrap64_small (by omega) (by omega), wrap64_small (by omega) (by omega), refLevel_l0 f (x / 2) (c + 1) k (by omega) (by omega) (by omega) (by omega) (by omega)]
        congr 1; omega
      · rw [if_neg (by omega), if_neg hm]; simp
theorem refLevel_neg (x : Int) (k : Nat) (h : x ≤ 0) : conclaveref03_Level.f (k + 1) x = some 0 := by
  unfold conclaveref03_Level.f conclaveref03_Level.l0
  rw [if_neg (by omega)]
theorem level_eq (x : Int) (hx : x < 9223372036854775808) : conclaveref03_Level.f 100 x = heap_Level.f x := by
  unfold heap_Level.f
  by_cases h : x < 0
  · rw [refLevel_neg x 99 (by omega)]; unfold lev; rw [if_pos h]
  · obtain ⟨n, rfl⟩ : ∃ n : Nat, x = n := ⟨x.toNat, by omega⟩
    rw [lev_ones n (by omega)]
    unfold conclaveref03_Level.f
    rw [refLevel_l0 63 n 0 100 (by omega) (by omega) (by omega) (by omega) (by omega)]
    simp
theorem HeapPlaces : conclavelaw03_HeapPlaces.Pure := by
  intro x n hx _
  refine ⟨100, ?_⟩
  cases hi : inB x n with
  | true => exact of_places (P := fun x n => conclavelaw03_HeapPlaces.f 100 x n = some true) (by decide +kernel) hi
  | false =>
    have hx2 : x < 9223372036854775808 := by have := (bounds_i64 hx).2; omega
    have hin : heap_in.f x n = some false := by rw [in_eq, hi]
    have hrin : conclaveref03_In.f x n = some false := by rw [refIn_eq, hi]
    have hp : heap_Parent.f x n = some (0, 30) := by unfold heap_Parent.f; rw [hin]; rfl
    have hs : heap_Sibling.f x n = some (0, 30) := by unfold heap_Sibling.f; rw [hp]; rfl
    have hc : heap_Children.f x n = some (0, 0, 30) := by unfold heap_Children.f heap_Level.f; rw [Option.bind_some, hin]; rfl
    unfold conclavelaw03_HeapPlaces.f
    rw [anch, Option.bind_some, if_pos rfl, right_eq, Option.bind_some, refRight_eq, Option.bind_some, bne_self_eq_false, if_neg (by decide), level_eq x hx2]
    unfold heap_Level.f
    rw [Option.bind_some, Option.bind_some, bne_self_eq_false]
    show conclavelaw03_HeapPlaces.j0 (99 + 1) x n false = some true
    simp only [conclavelaw03_HeapPlaces.j0]
    rw [if_neg (by decide)]
    unfold heap_Root.f
    rw [right_eq, Option.bind_some, refRight_eq]
    have j1 : conclavelaw03_HeapPlaces.j1 99 x n false = some true := by
      show conclavelaw03_HeapPlaces.j1 (98 + 1) x n false = some true
      simp only [conclavelaw03_HeapPlaces.j1]
      rw [if_neg (by decide), hp, Option.bind_some, hs, Option.bind_some, hc, Option.bind_some, hrin]
      rfl
    by_cases h1 : n ∈ ([1,2,4,8,16,32] : List Int)
    · rw [decide_eq_true h1]
      simpa using j1
    · rw [decide_eq_false h1]
      simpa using j1
end Go.Proofs.YtmioejkhhcjfpaaDoor.Pure
