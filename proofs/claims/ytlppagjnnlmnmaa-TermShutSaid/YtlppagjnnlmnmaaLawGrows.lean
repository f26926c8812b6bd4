/- 'TermGrows' returns true. -/
import Derived.Test.YtlppagjnnlmnmaaAnchor1
import Derived.Test.YtlppagjnnlmnmaaOpen1
set_option linter.unusedVariables false
set_option linter.unusedSimpArgs false
namespace Go.Proofs.Ytlppagjnnlmnmaa
open Go.RowKit

/-- What a right node's parts are. -/
structure Low (n : Nd) (t : Int) : Prop where
  k1 : 1 ≤ n.kind
  k9 : n.kind ≤ 9
  parts : n.kind ≠ 1 → n.kind ≠ 2 → (1 ≤ n.a ∧ n.a < t ∧ 0 ≤ n.b ∧ n.b < t)

theorem right_low {l : List Nd} {n : Nd} (h : rightB l n = true) : Low n ((l.length : Int) + 1) := by
  unfold rightB at h
  by_cases h1 : n.kind = 1
  · exact ⟨by omega, by omega, fun h => absurd h1 h⟩
  rw [if_neg h1] at h
  unfold rightO at h
  simp only [Bool.and_eq_true, Bool.not_eq_true', Bool.and_eq_false_iff, decide_eq_false_iff_not, Bool.or_eq_true, decide_eq_true_eq, Bool.not_eq_false', knownB_iff, Classical.not_not, Int.not_lt, Int.not_le] at h
  obtain ⟨⟨⟨hlab, hA, hB⟩, hk, hk2⟩, _⟩ := h
  have hT : partsT n.kind = 0 ∨ partsT n.kind = 1 ∨ partsT n.kind = 2 := by have := partsT_range n.kind; omega
  have hL : 0 ≤ partsL n.kind := by have : (0 : Int) ≤ n.label.size := by omega
                                    omega
  have hkind : n.kind = 2 ∨ (n.kind = 3 ∨ n.kind = 7 ∨ n.kind = 8 ∨ n.kind = 9) ∨ (n.kind = 4 ∨ n.kind = 5) ∨ n.kind = 6 := by
    unfold partsL at hL
    by_cases a : n.kind = 2
    · exact .inl a
    rw [if_neg a] at hL
    by_cases b : n.kind = 3 ∨ n.kind = 7 ∨ n.kind = 8 ∨ n.kind = 9
    · exact .inr (.inl b)
    rw [if_neg b] at hL
    by_cases c : n.kind = 4 ∨ n.kind = 5
    · exact .inr (.inr (.inl c))
    rw [if_neg c] at hL
    by_cases d : n.kind = 6
    · exact .inr (.inr (.inr d))
    rw [if_neg d] at hL; omega
  refine ⟨by omega, by omega, fun _ h2 => ?_⟩
  have hT1 : 1 ≤ partsT n.kind := by unfold partsT; rcases hkind with h | (h | h | h | h) | (h | h) | h <;> simp [h] <;> omega
  have ha : 1 ≤ n.a ∧ n.a ≤ l.length := by rcases hk with h | h; omega; exact h
  rcases hB with h | h
  · have hT2 : partsT n.kind = 2 := by have := partsT_range n.kind; omega
    have hb : 1 ≤ n.b ∧ n.b ≤ l.length := by rcases hk2 with h | h; omega; exact h
    omega
  · omega

theorem wf_low {L : List Nd} (h : WF L) {i : Nat} (hi : i < L.length) : Low L[i] ((i : Int) + 1) := by
  have := right_low (h i hi)
  rwa [List.length_take, Nat.min_eq_left (by omega)] at this

structure Grow1 (W : World) (p : Nat) (wr : World) (L : List Nd) : Prop where
  own : Own (fun b => b < W.heap.size) wr p L 0
  kept : Kept (fun b => b < W.heap.size) W wr

def GrowRel1 (W : World) (l : List Nd) (p : Nat) (i : Value) (wr : World) : Prop := ∃ (k : Nat) (L : List Nd), k ≤ l.length ∧ i = .int .i64 k ∧ Grow1 W p wr L
def GrowRel2 (W : World) (p : Nat) (L : List Nd) (i : Value) (wr : World) : Prop := ∃ k : Nat, k ≤ L.length ∧ i = .int .i64 ((k : Int) + 1) ∧ Grow1 W p wr L

theorem Grow1.step {W : World} {p : Nat} {wr : World} {L L' : List Nd} (h : Grow1 W p wr L) {o : Obj} {w' : World} (OB : Own (fun k => k < W.heap.size ∨ k = wr.heap.size) w' p L' 0) (KB : Kept (fun k => k < W.heap.size ∨ k = wr.heap.size) (wr.alloc o) w') : Grow1 W p w' L' :=
  ⟨OB.mono fun _ h => .inl h, (h.kept.alloc (fun b hb => h.own.lt b hb) _).trans KB fun b hb => .inl hb⟩
theorem Grow1.alloc {W : World} {p : Nat} {wr : World} {L : List Nd} (h : Grow1 W p wr L) (o : Obj) : Grow1 W p (wr.alloc o) L :=
  ⟨(h.own.alloc o).mono fun _ h => .inl h, h.kept.alloc (fun b hb => h.own.lt b hb) _⟩
theorem Grow1.looks {W : World} {p : Nat} {wr w' : World} {L : List Nd} (h : Grow1 W p wr L) (OB : Own (fun k => k < W.heap.size) w' p L 0) (KB : Kept (fun k => k < W.heap.size) wr w') : Grow1 W p w' L :=
  ⟨OB, h.kept.trans KB fun b hb => hb⟩

set_option maxRecDepth 100000 in
set_option maxHeartbeats 4000000 in
theorem grows_walk (a : Option Addr) (cap : Nat) (l : List Nd) (w : World) (h : InNodes w a l) (hlen : l.length ≤ maxLen) :
    Calls Try.prog 5 #[.slice a l.length cap] w fun e w' => e = .returned (.bool true) ∧ Below w.heap.size w w' := by
  have hll : (l.length : Int) ≤ 9223372036854775807 := by unfold maxLen at hlen; omega
  clear hlen
  go_enter Try.func5, Try.ntmps5
  go_wp2_with (first
    | (go_at_call 10; refine (anchor_calls _).mono ?_; rintro e w1 ⟨rfl, c1⟩)
    | (go_at_call 11; refine (new_own _).mono ?_; rintro e w2 ⟨p, rfl, O0, K0⟩))
  have O1 : Own (fun b => b < w.heap.size) w2 p [] 0 := O0.mono fun k hk => Nat.lt_of_lt_of_le hk c1.size
  have K1 : Kept (fun b => b < w.heap.size) w w2 := (c1.kept (fun _ h => h)).trans (K0.kept (X := fun b => b < w1.heap.size) (fun _ h => h)) (fun k hk => Nat.lt_of_lt_of_le hk c1.size)
  clear O0 K0 c1
  go_loopw [16] (fun i wr => GrowRel1 w l p i wr) (fun i _ => l.length - (intOf i).toNat)
  case atStart => exact ⟨0, [], Nat.zero_le _, rfl, ⟨O1, K1⟩⟩
  case round =>
    clear O1 K1
    obtain ⟨k, L, hk, rfl, hr1⟩ := hrel
    have HR := Lib.hid hr1
    clear hr1
    by_cases hlt : k < l.length
    · have hne : l ≠ [] := by rintro rfl; simp at hlt
      rcases h with h | ⟨b, off, rfl, hb, hc⟩
      · exact absurd h hne
      obtain ⟨c0, c1, c2, c3⟩ := hc k hlt
      have g0 := (HR.out.kept.cells.1 b (off + k * 4) hb).trans c0
      have g1 := (HR.out.kept.cells.1 b (off + k * 4 + 1) hb).trans c1
      have g2 := (HR.out.kept.cells.1 b (off + k * 4 + 2) hb).trans c2
      have g3 := (HR.out.kept.cells.1 b (off + k * 4 + 3) hb).trans c3
      clear hc c0 c1 c2 c3 hne
      generalize hn : l[k] = n at *
      clear hn
      have OA := (HR.out.own).alloc (.cells #[.int .i64 n.kind, .string n.label, .int .i64 n.a, .int .i64 n.b] 27)
      have HM := Lib.hid (OA.make n)
      obtain ⟨n0, n1, n2, n3⟩ := n
      dsimp only at *
      by_cases h3 : k < 3000
      · have h3' : decide ((k : Int) < 3000) = true := by simp; omega
        go_wp2_with (go_at_call 13; refine (HM.out).mono ?_; rintro e w4 ⟨rfl, OB, KB⟩)
        exact ⟨⟨k + 1, _, by omega, by go_num, HR.out.step OB KB⟩, by simp [intOf]; omega⟩
      · have h3' : decide ((k : Int) < 3000) = false := by simp; omega
        go_wp2
        exact ⟨⟨k + 1, L, by omega, by go_num, HR.out.alloc _⟩, by simp [intOf]; omega⟩
    · have hLi : (L.length : Int) ≤ 262144 := by have := HR.out.own.len_le; omega
      have HW := Lib.hid (HR.out.own.wf)
      go_wp2
      clear hk h hlt
      go_loopw [6] (fun i wr' => GrowRel2 w p L i wr') (fun i _ => L.length + 1 - (intOf i).toNat)
      case atStart => exact ⟨0, Nat.zero_le _, rfl, HR.out⟩
      case round =>
        clear HR
        obtain ⟨j, hj, rfl, hr2⟩ := hrel
        have HR := Lib.hid hr2
        clear hr2
        by_cases hlt2 : j < L.length
        · have hget := (HR.out.own).get ((j : Int) + 1)
          have hlow := wf_low HW.out hlt2
          have e4 : getN L ((j : Int) + 1) = L[j] := by unfold getN; rw [if_pos (by simp [knownB]; omega)]; exact nodeAt_get L hlt2
          have e5 : knownB L.length ((j : Int) + 1) = true := by simp [knownB]; omega
          rw [e4, e5] at hget
          generalize L[j] = n at *
          have HG := Lib.hid hget
          have hk1 := hlow.k1
          have hk9 := hlow.k9
          have hb1 : decide (n.kind < 1) = false := by simp; omega
          have hb9 : decide (9 < n.kind) = false := by simp; omega
          clear hget e4 e5
          by_cases ht : n.kind = 1 ∨ n.kind = 2
          · obtain ⟨n0, n1, n2, n3⟩ := n
            dsimp only at *
            rcases ht with rfl | rfl
            all_goals
              clear hlow hk1 hk9 hb1 hb9
              go_wp2_with (first
                | (go_at_call 12; refine (HR.out.own.len).mono ?_; rintro e w3 ⟨rfl, rfl⟩)
                | (go_at_call 14; refine (HG.out).mono ?_; rintro e w3 ⟨rfl, OB, KB⟩))
              exact ⟨⟨j + 1, by omega, by go_num, (HR.out.looks OB KB).alloc _⟩, by simp [intOf]; omega⟩
          · have hp := hlow.parts (fun h => ht (.inl h)) (fun h => ht (.inr h))
            obtain ⟨hp1, hp2, hp3, hp4⟩ := hp
            have t1 : (n.kind == 1) = false := by simp; omega
            have t2 : (n.kind == 2) = false := by simp; omega
            obtain ⟨n0, n1, n2, n3⟩ := n
            dsimp only at *
            have s1 : decide (n2 < 1) = false := by simp; omega
            have s2 : decide ((j : Int) + 1 ≤ n2) = false := by simp; omega
            have s3 : decide (n3 < 0) = false := by simp; omega
            have s4 : decide ((j : Int) + 1 ≤ n3) = false := by simp; omega
            clear hlow hk1 hk9 ht hp1 hp2 hp3 hp4
            go_wp2_with (first
              | (go_at_call 12; refine (HR.out.own.len).mono ?_; rintro e w3 ⟨rfl, rfl⟩)
              | (go_at_call 14; refine (HG.out).mono ?_; rintro e w3 ⟨rfl, OB, KB⟩))
            exact ⟨⟨j + 1, by omega, by go_num, (HR.out.looks OB KB).alloc _⟩, by simp [intOf]; omega⟩
        · go_wp2_with (go_at_call 12; refine (HR.out.own.len).mono ?_; rintro e w3 ⟨rfl, rfl⟩)
          go_ret
          exact ⟨by simp, HR.out.kept.below (fun k hk => hk)⟩

end Go.Proofs.Ytlppagjnnlmnmaa
