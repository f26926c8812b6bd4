/- 'store': a store made of a script of nodes, and the list of what it holds. -/
import Derived.Test.YtmdfhaihbaiegaaYaoH
import Derived.Test.YtmdfhaihbaiegaaOpen1
import Derived.Deep.AppendLies
set_option linter.unusedVariables false
set_option linter.unusedSimpArgs false
namespace Go.Proofs.Ytmdfhaihbaiegaa
open Go.RowKit

def SRel1 (W : World) (l : List Nd) (p : Nat) (i : Value) (wr : World) : Prop :=
  ∃ (k : Nat) (N : List Nd), k ≤ l.length ∧ i = .int .i64 k ∧ Own (fun b => b < W.heap.size) wr p N 0 ∧ Kept (fun b => b < W.heap.size) W wr ∧ N.length ≤ k

structure SRow (W : World) (p : Nat) (N : List Nd) (v : Value) (k : Nat) (wr : World) : Prop where
  own : Own (fun b => b < W.heap.size ∨ v.ownBlock = some b) wr p N 0
  row : wr.ownsRow W.heap.size 38 4 v k (flat (N.take k))
  kept : Kept (fun b => b < W.heap.size) W wr

def SRel2 (W : World) (p : Nat) (N : List Nd) (i v : Value) (wr : World) : Prop := ∃ k : Nat, k ≤ N.length ∧ i = .int .i64 ((k : Int) + 1) ∧ SRow W p N v k wr

theorem SRow.step {W : World} {p : Nat} {N : List Nd} {v : Value} {j : Nat} {wr w5 w6 : World} {o1 o2 : Obj} {g c n : Nat} (h : SRow W p N v j wr) (hj : j < N.length)
    (OC : Own (fun b => b < W.heap.size ∨ v.ownBlock = some b) w5 p N 0) (KC : Kept (fun b => b < W.heap.size ∨ v.ownBlock = some b) wr w5)
    (hown : w6.ownsRow W.heap.size 38 4 (.slice (some ⟨g, 0, none⟩) n c) (j + 1) (flat (N.take j) ++ (getN N ((j : Int) + 1)).cells)) (hg : ((w5.alloc o1).alloc o2).grownBy w6 v.ownBlock) (hat : v.ownBlock = some g ∨ g = w5.heap.size + 1 + 1) (hlt : g < w6.heap.size) : SRow W p N (.slice (some ⟨g, 0, none⟩) n c) (j + 1) w6 := by
  have hc : Chg (fun k => v.ownBlock = some k) ((w5.alloc o1).alloc o2) w6 := ⟨hg.os, hg.tape, hg.output, hg.size, fun k hk hn => hg.block k hk (fun e => hn e.symm)⟩
  have hsz := hc.size
  simp only [World.size_alloc] at hsz
  have h1 := ((OC.alloc o1).alloc o2).chg hc (fun b hb => .inl (.inl (.inr hb)))
  refine ⟨?_, ?_, ?_⟩
  · refine h1.mono fun b hb => ?_
    rcases hb with hb | hb
    · exact .inl (.inl (.inl (.inl hb)))
    · simp [Value.ownBlock] at hb
      subst hb
      rcases hat with h | h
      · exact .inl (.inl (.inl (.inr h)))
      · exact .inr ⟨by simp; omega, hlt⟩
  · have e : flat (N.take (j + 1)) = flat (N.take j) ++ (getN N ((j : Int) + 1)).cells := by
      rw [List.take_succ_eq_append_getElem hj, flat_append, flat_one]
      congr 2
      unfold getN
      rw [if_pos (by rw [knownB_iff]; omega), nodeAt_get N hj]
    rw [e]; exact hown
  · have k1 : Kept (fun b => b < W.heap.size) W w5 := h.kept.trans KC fun b hb => .inl hb
    have k2 := (k1.alloc (fun b hb => OC.lt b (.inl hb)) o1).alloc (fun b hb => by have := OC.lt b (.inl hb); simp; omega) o2
    refine k2.trans (Y := fun b => b < W.heap.size) ⟨hc.os, hc.tape, hc.output, hc.size, fun b hb => hc.block b ?_ ?_⟩ (fun _ h => h)
    · have := OC.lt b (.inl hb); simp; omega
    · intro e; have := (h.row.lt b e).1; omega

set_option maxRecDepth 100000 in
set_option maxHeartbeats 4000000 in
theorem store_calls (a : Option Addr) (cap : Nat) (l : List Nd) (w : World) (h : InNodes w a l) (hl : l.length ≤ 1000) :
    Calls Try.prog 8 #[.slice a l.length cap] w fun e w' => ∃ p v N, e = .returned (.tuple #[.pointer (some ⟨p, 0, none⟩), v]) ∧ SRow w p N v N.length w' ∧ N.length ≤ l.length := by
  have HLL := Lib.hid hl
  have HI := Lib.hid h
  clear hl h
  go_enter Try.func8, Try.ntmps8
  go_wp2_with (go_at_call 18; refine (new_own _).mono ?_; rintro e w2 ⟨p, rfl, O0, K0⟩)
  have K1 : Kept (fun b => b < w.heap.size) w w2 := K0.kept (fun _ h => h)
  clear K0
  go_loopw [16] (fun i wr => SRel1 w l p i wr) (fun i _ => l.length - (intOf i).toNat)
  case atStart => exact ⟨0, [], Nat.zero_le _, rfl, O0, K1, Nat.zero_le _⟩
  case round =>
    clear O0 K1
    obtain ⟨k, N, hk, rfl, OR, KR, hN⟩ := hrel
    have hkb : (k : Int) ≤ 1000 := by have := HLL.out; omega
    have HO := Lib.hid OR
    have HK := Lib.hid KR
    have HN := Lib.hid hN
    clear OR KR hN
    by_cases hlt : k < l.length
    · rcases HI.out with hnil | ⟨b, off, rfl, hb', hc⟩
      · rw [hnil] at hlt; simp at hlt
      obtain ⟨h0, h1, h2, h3⟩ := hc k hlt
      have g0 := (HK.out.cells.1 b (off + k * 4) hb').trans h0
      have g1 := (HK.out.cells.1 b (off + k * 4 + 1) hb').trans h1
      have g2 := (HK.out.cells.1 b (off + k * 4 + 2) hb').trans h2
      have g3 := (HK.out.cells.1 b (off + k * 4 + 3) hb').trans h3
      have hbl : b < wr.heap.size := Nat.lt_of_lt_of_le hb' HK.out.size
      clear hc h0 h1 h2 h3
      generalize l[k] = n at *
      obtain ⟨k0, l0, a0, b0⟩ := n
      have hO1 : Own (fun b => b < w.heap.size) (wr.alloc (.cells #[.int .i64 k0, .string l0, .int .i64 a0, .int .i64 b0] 38)) p N 0 := (HO.out.alloc _).mono (fun _ h => .inl h)
      have OM := Lib.hid (hO1.make ⟨k0, l0, a0, b0⟩)
      clear hO1
      have KM := Lib.hid (HK.out.alloc (fun b hb => Nat.lt_of_lt_of_le hb HK.out.size) (.cells #[.int .i64 k0, .string l0, .int .i64 a0, .int .i64 b0] 38))
      go_wp2_with (go_at_call 15; refine (OM.out).mono ?_; rintro e w4 ⟨rfl, OB, KB⟩)
      refine ⟨⟨k + 1, _, by omega, by go_num, OB, KM.out.trans KB (fun _ h => h), ?_⟩, by simp [intOf]; omega⟩
      have := HN.out
      rcases mk_cases N ⟨k0, l0, a0, b0⟩ with ⟨_, _, _, _, _, e⟩ | ⟨_, _, _, _, e⟩ | ⟨_, _, _, _, _, e⟩ | ⟨_, _, _, _, _, e⟩ <;> rw [e] <;> simp <;> omega
    · have hke : k = l.length := by omega
      subst hke
      clear hlt hk HI
      go_wp2
      go_loopw [8, 7] (fun i v wr' => SRel2 w p N i v wr') (fun i _ _ => N.length + 1 - (intOf i).toNat)
      case atStart => exact ⟨0, Nat.zero_le _, rfl, ⟨HO.out.mono (fun b hb => by simpa [Value.ownBlock] using hb), World.ownsRow_nil _ _ _ _, HK.out⟩⟩
      case round =>
        clear HO HK
        obtain ⟨j, hj, rfl, hr2⟩ := hrel
        have HR := Lib.hid hr2
        clear hr2
        have hNl : (N.length : Int) ≤ 1000 := by have := HN.out; have := HLL.out; omega
        have hji : (j : Int) ≤ 1000 := by omega
        obtain ⟨av, cv, rfl⟩ : ∃ av cv, u7 = .slice av j cv := by
          rcases HR.out.row.2 with ⟨hv, hz⟩ | ⟨g, cap2, cur, hv, _⟩
          · exact ⟨none, 0, by rw [hv, hz]⟩
          · exact ⟨_, _, hv⟩
        by_cases hlt2 : j < N.length
        · have hb1 : decide ((j : Int) + 1 ≤ (N.length : Int)) = true := by simp; omega
          have hgt := HR.out.own.get ((j : Int) + 1)
          have hgn : ∃ n, getN N ((j : Int) + 1) = n := ⟨_, rfl⟩
          obtain ⟨n, hgn⟩ := hgn
          rw [hgn] at hgt
          obtain ⟨k0, l0, a0, b0⟩ := n
          have HG := Lib.hid hgt
          have HGN := Lib.hid hgn
          clear hgt hgn
          obtain ⟨i0, hi, hz0, hz1, hz2⟩ := info_parts infoNode
          have HI := Lib.hid (And.intro hi (And.intro hz0 (And.intro hz1 hz2)))
          clear hi hz0 hz1 hz2
          go_wp2_with (first
            | (go_at_call 13; refine (HR.out.own.len).mono ?_; rintro e w4 ⟨rfl, rfl⟩)
            | (go_at_call 17; refine (HG.out).mono ?_; rintro e w5 ⟨rfl, OC, KC⟩)
            | (at_builtin; refine wpList_append_lies _ rfl _ _ _ rfl w.heap.size 38 i0 _ 4 40 Try.underlying22 HI.out.1 HI.out.2.1 HI.out.2.2.1 HI.out.2.2.2 rfl (by decide) (.slice av j cv) j (flat (N.take j)) rfl ?c1 ⟨w5.heap.size + 1, 0, none⟩ 1 1 (Nd.cells ⟨k0, l0, a0, b0⟩) rfl rfl ?c2 (Nd.oneCells _) (by decide) ?c3 ?c4 ?c5 _ rfl ?_))
          case c1 => exact ((KC.row HR.out.row (fun b hb => .inr hb)).alloc _).alloc _
          case c2 =>
            rw [show w5.heap.size + 1 = (w5.alloc (.cells #[.int .i64 k0, .string l0, .int .i64 a0, .int .i64 b0] 38)).heap.size from by simp]
            exact World.news_of_block heap_alloc_at
          case c3 => unfold maxLen; omega
          case c4 => omega
          case c5 => have := HR.out.kept.size; have := KC.size; simp; omega
          intro g cap3 w6 hown6 hg6 hat6 hlt6
          go_wp2
          refine ⟨⟨j + 1, by omega, by go_num, HR.out.step hlt2 OC KC (by rw [HGN.out]; exact hown6) hg6 (by simpa using hat6) hlt6⟩, by simp [intOf]; omega⟩
        · have hje : j = N.length := by omega
          subst hje
          have hb1 : decide ((N.length : Int) + 1 ≤ (N.length : Int)) = false := by simp; omega
          go_wp2_with (go_at_call 13; refine (HR.out.own.len).mono ?_; rintro e w4 ⟨rfl, rfl⟩)
          go_ret2
          exact ⟨p, _, N, rfl, HR.out, HN.out⟩

end Go.Proofs.Ytmdfhaihbaiegaa
