/- 'TermLists' returns true. -/
import Derived.Test.YtlppagjnnlmnmaaTermF
import Derived.Test.YtlppagjnnlmnmaaAppI
import Derived.Test.YtlppagjnnlmnmaaOpen1
import Derived.Deep.DeepCutAuto
set_option linter.unusedVariables false
set_option linter.unusedSimpArgs false
namespace Go.Proofs.Ytlppagjnnlmnmaa
open Go.RowKit

/-- The store's state, and that all that was there stays. -/
structure Both (W : World) (wr : World) (p : Nat) (L : List Nd) (d : Int) : Prop where
  own : Own (fun b => b < W.heap.size) wr p L d
  kept : Kept (fun b => b < W.heap.size) W wr

/-- The store behind k atoms. -/
def frL : Nat → List Nd
  | 0 => []
  | k + 1 => mkL (frL k) (freshN k)
theorem frL_len : ∀ k, k ≤ 1000 → (frL k).length ≤ k
  | 0, _ => by simp [frL]
  | k + 1, h => by have h1 := frL_len k (by omega); have h2 := mkL_grow (frL k) (freshN k); show (mkL (frL k) (freshN k)).length ≤ k + 1; omega
theorem frL_d (k : Nat) (h : k ≤ 1000) : freshD (frL k) (k : Int) = ((k + 1 : Nat) : Int) := by
  have := (fresh_ok (L := frL k) (k := k) (by have := frL_len k h; omega) (by omega)).2.1
  rw [this]; simp
theorem frL20 : (frL 20).length = 20 := by decide +kernel

theorem Kept.reads {W wr : World} (h : Kept (fun b => b < W.heap.size) W wr) {a : Option Addr} {l : List Int} (hr : ReadsI W a l) : ReadsI wr a l := hr.chg (fun b hb _ => h.block b hb) h.size

/-- .. and a slice of integers of the call's own, apart from the store. -/
structure With (W : World) (wr : World) (p : Nat) (L : List Nd) (d : Int) (v : Value) (D : List Int) : Prop where
  own : Own (fun b => b < W.heap.size ∨ v.ownBlock = some b) wr p L d
  row : wr.ownsRow W.heap.size 3 1 v D.length (D.map (Value.int .i64))
  kept : Kept (fun b => b < W.heap.size) W wr
theorem With.both {W wr : World} {p : Nat} {L : List Nd} {d : Int} {v : Value} {D : List Int} (h : With W wr p L d v D) : Both W wr p L d := ⟨h.own.mono fun _ h => .inl h, h.kept⟩
theorem own_empty {w : World} {base : Nat} (hb : base ≤ w.heap.size) : (w.alloc (.cells #[] 3)).ownsRow base 3 1 (.slice (some ⟨w.heap.size, 0, none⟩) 0 0) 0 (([] : List Int).map (Value.int .i64)) :=
  ⟨rfl, .inr ⟨w.heap.size, 0, #[], rfl, hb, heap_alloc_at, Nat.le_refl _, by unfold maxLen; omega, rfl, rfl⟩⟩
theorem Both.empty {W wr : World} {p : Nat} {L : List Nd} {d : Int} (h : Both W wr p L d) : With W (wr.alloc (.cells #[] 3)) p L d (.slice (some ⟨wr.heap.size, 0, none⟩) 0 0) [] :=
  ⟨(h.own.alloc _).mono fun b hb => by rcases hb with hb | hb; exact .inl hb; (simp [Value.ownBlock] at hb; exact .inr hb.symm), own_empty h.kept.size, h.kept.alloc (fun b hb => h.own.lt b hb) _⟩
theorem With.grow {W w5 w6 : World} {p : Nat} {L : List Nd} {d : Int} {v v' : Value} {D D' : List Int} (h : With W w5 p L d v D) (hown : w6.ownsRow W.heap.size 3 1 v' D'.length (D'.map (Value.int .i64)))
    (hg : w5.grownBy w6 v.ownBlock) (hat : v'.ownBlock = v.ownBlock ∨ v'.ownBlock = some w5.heap.size) : With W w6 p L d v' D' := by
  have hc : Chg (fun k => v.ownBlock = some k) w5 w6 := ⟨hg.os, hg.tape, hg.output, hg.size, fun k hk hn => hg.block k hk (fun e => hn e.symm)⟩
  refine ⟨(h.own.chg hc (fun b hb => .inr hb)).mono fun b hb => ?_, hown, h.kept.trans (Y := fun b => b < W.heap.size) ⟨hc.os, hc.tape, hc.output, hc.size, fun b hb => hc.block b (h.own.lt b (.inl hb)) fun e => ?_⟩ fun _ h => h⟩
  · rcases hb with hb | hb
    · exact .inl (.inl hb)
    · rcases hat with h2 | h2
      · rw [h2] at hb; exact .inl (.inr hb)
      · have hb2 := own_block_lt hown hb
        rw [h2] at hb
        simp at hb
        exact .inr ⟨by omega, hb2⟩
  · have := (h.row.lt b e).1; omega

theorem With.list {W wr : World} {p : Nat} {L : List Nd} {d : Int} {ao : Option Addr} {n c : Nat} {D : List Int} (h : With W wr p L d (.slice ao n c) D) (hn : n = D.length) (hD : D.length ≤ 1000000) :
    Calls Try.prog 24 #[.pointer (some ⟨p, 0, none⟩), .slice ao n c] wr fun e w' => e = .returned (.int .i64 (listT L D)) ∧ Both W w' p (listL L D) d := by
  subst hn
  have hl : LieIn (fun b => b < W.heap.size ∨ (Value.slice ao D.length c).ownBlock = some b) wr ao D := by
    rcases (reads_row h.row).1 with h1 | ⟨b, off, rfl, hb, hc⟩
    · exact .inl h1
    · exact .inr ⟨b, off, rfl, .inr rfl, hb, hc⟩
  exact (h.own.list hl (by unfold maxLen; omega) c).mono fun e w' ⟨he, o, k⟩ => ⟨he, o.mono fun _ h => .inl h, h.kept.trans k fun _ h => .inl h⟩

theorem ownsRow_base {w : World} {base base' : Nat} {e : TypeId} {size : Nat} {v : Value} {n : Nat} {xs : List Value} (h : w.ownsRow base e size v n xs) (hb : base' ≤ base) : w.ownsRow base' e size v n xs := by
  refine ⟨h.1, ?_⟩
  rcases h.2 with h2 | ⟨g, cap, cur, h2, h3, h4⟩
  · exact .inl h2
  · exact .inr ⟨g, cap, cur, h2, by omega, h4⟩

theorem Both.items {W wr : World} {p : Nat} {L : List Nd} {d : Int} (h : Both W wr p L d) {t : Int} {D : List Int} (ht : itemsOf L t = some D) :
    Calls Try.prog 25 #[.pointer (some ⟨p, 0, none⟩), .int .i64 t] wr fun e w' => ∃ ao c, e = .returned (.tuple #[.slice ao D.length c, .bool true]) ∧ With W w' p L d (.slice ao D.length c) D ∧ Chg none_ wr w' := by
  refine (items_calls h.own t).mono fun e w' hr => ?_
  rcases hr.out with ⟨h1, _⟩ | ⟨v, D', h1, he, hrow⟩
  · rw [ht] at h1; cases h1
  · rw [ht] at h1
    obtain rfl : D = D' := by injection h1
    obtain ⟨ao, cap, rfl, _, _⟩ := own_shape hrow
    refine ⟨ao, cap, he, ⟨(h.own.chg hr.chg (fun _ h => h.elim)).mono fun b hb => ?_, ownsRow_base hrow h.kept.size, h.kept.trans (hr.chg.kept (X := fun b => b < W.heap.size) (fun b hb => h.own.lt b hb)) fun _ h => h⟩, hr.chg⟩
    rcases hb with hb | hb
    · exact .inl hb
    · exact .inr ⟨(hrow.lt b hb).1, own_block_lt hrow hb⟩

theorem lists_pure {F : List Nd} (hF : F.length = 20) (hn : F.Nodup) (hw : WF F) {l m : List Int} (hl : ∀ x ∈ l, knownB F.length x = true) (hm : ∀ x ∈ m, knownB F.length x = true) (h1 : l.length ≤ 1000) (h2 : m.length ≤ 1000) :
    itemsOf (listL (listL F l) m) (listT F l) = some l ∧ itemsOf (listL (listL F l) m) (listT (listL F l) m) = some m ∧ (listT F l == listT (listL F l) m) = decide (l = m) := by
  have a1 : allKnown F l = true := by unfold allKnown; rw [List.all_eq_true]; exact hl
  have e1 : listT F l = (listM F l).1 ∧ listL F l = (listM F l).2 := ⟨if_pos a1, if_pos a1⟩
  rw [e1.1, e1.2]
  have p1 := listM_prefix F l
  have g1 := listM_grow F l
  have hm' : ∀ x ∈ m, knownB (listM F l).2.length x = true := fun x hx => known_mono p1.length_le (hm x hx)
  have a2 : allKnown (listM F l).2 m = true := by unfold allKnown; rw [List.all_eq_true]; exact hm'
  have e2 : listT (listM F l).2 m = (listM (listM F l).2 m).1 ∧ listL (listM F l).2 m = (listM (listM F l).2 m).2 := ⟨if_pos a2, if_pos a2⟩
  rw [e2.1, e2.2]
  have p2 := listM_prefix (listM F l).2 m
  have w2 := listM_wf (listM_wf hw l) m
  have i1 := list_items w2 hl (by omega) p2
  have i2 := list_items w2 hm' (by omega) (List.prefix_refl _)
  refine ⟨i1, i2, ?_⟩
  by_cases h : l = m
  · subst h
    rw [decide_eq_true rfl]
    have := listM_again (listM_nodup hn l) hl (by omega) (List.prefix_refl (listM F l).2)
    rw [this]; simp
  · rw [decide_eq_false h, beq_eq_false_iff_ne]
    intro e
    rw [e, i2] at i1
    exact h (by injection i1 with e; exact e.symm)

def ListsRel1 (W : World) (p : Nat) (i : Value) (wr : World) : Prop := ∃ k : Nat, k ≤ 20 ∧ i = .int .i64 k ∧ Both W wr p (frL k) (k : Int)

theorem InInts.reads {w : World} {a : Option Addr} {l : List Int} (h : InInts w a l) : ReadsI w a l := by
  rcases h with h | ⟨b, off, h1, h2, h3, _⟩
  · exact .inl h
  · exact .inr ⟨b, off, h1, h2, h3⟩

def inR (x : Int) : Bool := decide (1 ≤ x) && decide (x ≤ 20)

set_option maxRecDepth 100000 in
set_option maxHeartbeats 8000000 in
theorem lists_walk (a : Option Addr) (ca : Nat) (l : List Int) (b : Option Addr) (cb : Nat) (m : List Int) (w : World) (ha : InInts w a l) (hla : l.length ≤ maxLen) (hb : InInts w b m) (hlb : m.length ≤ maxLen) :
    Calls Try.prog 8 #[.slice a l.length ca, .slice b m.length cb] w fun e w' => e = .returned (.bool true) ∧ Below w.heap.size w w' := by
  by_cases hl : 1000 < l.length
  · have q1 : decide ((1000 : Int) < (l.length : Int)) = true := by simp; omega
    clear hl
    go_enter Try.func8, Try.ntmps8
    go_wp2_with (go_at_call 10; refine (anchor_calls _).mono ?_; rintro e w1 ⟨rfl, c1⟩)
    go_ret
    exact ⟨rfl, c1.below (Nat.le_refl _) (fun _ _ h => h)⟩
  by_cases hm : 1000 < m.length
  · have q1 : decide ((1000 : Int) < (l.length : Int)) = false := by simp; omega
    have q2 : decide ((1000 : Int) < (m.length : Int)) = true := by simp; omega
    clear hl hm
    go_enter Try.func8, Try.ntmps8
    go_wp2_with (go_at_call 10; refine (anchor_calls _).mono ?_; rintro e w1 ⟨rfl, c1⟩)
    go_ret
    exact ⟨rfl, c1.below (Nat.le_refl _) (fun _ _ h => h)⟩
  have q1 : decide ((1000 : Int) < (l.length : Int)) = false := by simp; omega
  have q2 : decide ((1000 : Int) < (m.length : Int)) = false := by simp; omega
  have LA := Lib.hid (And.intro ha.reads (And.intro hb.reads (And.intro (Nat.not_lt.1 hl) (Nat.not_lt.1 hm))))
  clear hl hm ha hb hla hlb
  go_enter Try.func8, Try.ntmps8
  go_wp2_with (first
    | (go_at_call 10; refine (anchor_calls _).mono ?_; rintro e w1 ⟨rfl, c1⟩)
    | (go_at_call 11; refine (new_own _).mono ?_; rintro e w2 ⟨p, rfl, O0, K0⟩))
  have O1 : Own (fun b => b < w.heap.size) w2 p [] 0 := O0.mono fun k hk => Nat.lt_of_lt_of_le hk c1.size
  have K1 : Kept (fun b => b < w.heap.size) w w2 := (c1.kept (fun _ h => h)).trans (K0.kept (X := fun b => b < w1.heap.size) (fun _ h => h)) (fun k hk => Nat.lt_of_lt_of_le hk c1.size)
  clear O0 K0 c1
  go_loopw [6] (fun i wr => ListsRel1 w p i wr) (fun i _ => 20 - (intOf i).toNat)
  case atStart => exact ⟨0, Nat.zero_le _, rfl, ⟨O1, K1⟩⟩
  case round =>
    clear O1 K1
    obtain ⟨k, hk, rfl, hr1⟩ := hrel
    have HR := Lib.hid hr1
    clear hr1
    by_cases hlt : k < 20
    · have hfr := HR.out.own.fresh
      rw [frL_d k (by omega)] at hfr
      have hL : mkL (frL k) (freshN k) = frL (k + 1) := rfl
      rw [hL] at hfr
      generalize mkT (frL k) (freshN k) = T at *
      have HF := Lib.hid hfr
      clear hfr hL
      have hltI : decide ((k : Int) < 20) = true := by simp; omega
      go_wp2_with (go_at_call 15; refine (HF.out).mono ?_; rintro e w4 ⟨rfl, OB, KB⟩)
      exact ⟨⟨k + 1, by omega, by go_num, OB, HR.out.kept.trans KB (fun _ h => h)⟩, by simp [intOf]; omega⟩
    · have hk20 : k = 20 := by omega
      subst hk20
      clear hlt hk
      generalize hF : frL 20 = F at *
      have HF := Lib.hid (hF ▸ frL20 : F.length = 20)
      clear hF
      go_upto_region 13 with fail
      have W0 := Lib.hid HR.out.empty
      have hbs := HR.out.kept.size
      go_wp2_with (at_builtin; refine wpList_append_ints _ rfl _ _ rfl w.heap.size (.slice (some ⟨wr.heap.size, 0, none⟩) 0 0) 0 [] rfl W0.out.row _ _ l rfl (W0.out.kept.reads LA.out.1) ?c1 ?c2 ?_)
      case c1 => have := LA.out; omega
      case c2 => have := W0.out.kept.size; omega
      intro ao cap w3 hown3 hg3 hat3 hlt3
      have W1 := Lib.hid (W0.out.grow (D' := l) (by simpa using hown3) hg3 (by simpa using hat3))
      clear hown3 hg3 hat3
      go_wp2_with (at_builtin; refine wpList_append_ints _ rfl _ _ rfl w.heap.size _ l.length l rfl W1.out.row _ _ m rfl (W1.out.kept.reads LA.out.2.1) ?c1 ?c2 ?_)
      case c1 => have := LA.out; omega
      case c2 => have := W1.out.kept.size; omega
      intro ao2 cap2 w4 hown4 hg4 hat4 hlt4
      have W2' := W1.out.grow (D' := l ++ m) (by simpa using hown4) hg4 (by simpa using hat4)
      have hxs : ∃ xs, xs = l ++ m ∧ xs.length = l.length + m.length := ⟨_, rfl, by simp⟩
      obtain ⟨xs, hxs, hxl⟩ := hxs
      rw [← hxs] at W2'
      rw [← hxl] at W2' ⊢
      have W2 := Lib.hid W2'
      have HXS := Lib.hid (And.intro hxs hxl)
      have hxL : (xs.length : Int) ≤ 2000 := by have := LA.out; omega
      have hread : ReadsI w4 ao2 xs := (reads_row W2'.row).1
      have HRD := Lib.hid hread
      clear W2' hxs hxl hown4 hg4 hat4 hlt4 hread W0 W1 HR hlt3
      go_wp2
      go_loop [41, 7] (fun i r => ∃ k : Nat, k ≤ xs.length ∧ i = .int .i64 k ∧ r = .bool ((xs.take k).all inR)) (fun i _ => xs.length - (intOf i).toNat)
      case atStart => exact ⟨0, Nat.zero_le _, rfl, rfl⟩
      case round =>
        obtain ⟨k, hk, rfl, rfl⟩ := hrel
        by_cases hlt : k < xs.length
        · rcases HRD.out with h0 | ⟨b0, off, rfl, hb0, hc0⟩
          · rw [h0] at hlt; simp at hlt
          have g0 := hc0 k hlt
          have hall : (xs.take (k + 1)).all inR = ((xs.take k).all inR && inR xs[k]) := by rw [List.take_succ_eq_append_getElem hlt, List.all_append]; simp
          have HALL := Lib.hid hall
          clear hall hc0
          generalize xs[k] = x at *
          generalize hB : (xs.take k).all inR = B at *
          generalize h1 : decide ((1 : Int) ≤ x) = b1 at *
          generalize h2 : decide (x ≤ (20 : Int)) = b2 at *
          have HI := Lib.hid (show inR x = (b1 && b2) by unfold inR; rw [h1, h2])
          cases B <;> cases b1 <;> cases b2
          all_goals
            go_wp2
            go_round
            case rel => exact ⟨k + 1, by omega, by go_num, by rw [HALL.out, HI.out]; rfl⟩
            case measure => simp [intOf]; omega
        · have hk2 : k = xs.length := by omega
          subst hk2
          rw [List.take_length]
          generalize hB : xs.all inR = B at *
          have HB := Lib.hid hB
          clear hB hlt hk
          cases B with
          | false =>
            go_wp2
            go_ret
            exact ⟨rfl, W2.out.kept.below fun k hk => hk⟩
          | true =>
            have hin : (∀ x ∈ l, knownB F.length x = true) ∧ ∀ x ∈ m, knownB F.length x = true := by
              have h1 := HB.out
              rw [HXS.out.1, List.all_append, Bool.and_eq_true, List.all_eq_true, List.all_eq_true] at h1
              have h2 : ∀ x, inR x = true → knownB F.length x = true := fun x hx => by rw [HF.out]; exact hx
              exact ⟨fun x hx => h2 x (h1.1 x hx), fun x hx => h2 x (h1.2 x hx)⟩
            have HIN := Lib.hid hin
            clear hin HXS HRD HB
            have B0 := Lib.hid W2.out.both
            have hpure := lists_pure HF.out B0.out.own.nodup B0.out.own.wf HIN.out.1 HIN.out.2 LA.out.2.2.1 LA.out.2.2.2
            obtain ⟨E, hE⟩ : ∃ E : Bool, E = decide (l = m) := ⟨_, rfl⟩
            rw [← hE] at hpure
            have HE := Lib.hid hE
            clear hE W2 HIN HF
            generalize hT1 : listT F l = T1 at *
            generalize hF1 : listL F l = F1 at *
            generalize hT2 : listT F1 m = T2 at *
            generalize hF2 : listL F1 m = F2 at *
            have HT := Lib.hid (And.intro hT1 (And.intro hF1 (And.intro hT2 hF2)))
            have HP := Lib.hid hpure
            clear hT1 hF1 hT2 hF2 hpure
            have W3 := Lib.hid B0.out.empty
            go_wp2_with (at_builtin; refine wpList_append_ints _ rfl _ _ rfl w.heap.size (.slice (some ⟨w4.heap.size, 0, none⟩) 0 0) 0 [] rfl W3.out.row _ _ l rfl (W3.out.kept.reads LA.out.1) ?c1 ?c2 ?_)
            case c1 => have := LA.out; omega
            case c2 => have := B0.out.kept.size; first | omega | (simp; omega)
            intro ao3 cap3 w5 hown5 hg5 hat5 hlt5
            have W4 := Lib.hid (W3.out.grow (D' := l) (by simpa using hown5) hg5 (by simpa using hat5))
            clear hown5 hg5 hat5 hlt5 W3 B0
            have hls := W4.out.list rfl (by have := LA.out; omega)
            rw [HT.out.1, HT.out.2.1] at hls
            have HLS := Lib.hid hls
            clear hls
            go_wp2_with (first
              | (go_at_call 24; refine (HLS.out).mono ?_; rintro e w6 ⟨rfl, B1⟩; have W5 := Lib.hid B1.empty)
              | (at_builtin; refine wpList_append_ints _ rfl _ _ rfl w.heap.size (.slice (some ⟨w6.heap.size, 0, none⟩) 0 0) 0 [] rfl W5.out.row _ _ m rfl (W5.out.kept.reads LA.out.2.1) ?c1 ?c2 ?_))
            case c1 => have := LA.out; omega
            case c2 => have := B1.kept.size; first | omega | (simp; omega)
            intro ao4 cap4 w7 hown7 hg7 hat7 hlt7
            have W6 := Lib.hid (W5.out.grow (D' := m) (by simpa using hown7) hg7 (by simpa using hat7))
            clear hown7 hg7 hat7 hlt7 W5 B1 W4 HLS
            have hls := W6.out.list rfl (by have := LA.out; omega)
            rw [HT.out.2.2.1, HT.out.2.2.2] at hls
            have HLS := Lib.hid hls
            clear hls
            have hq := HP.out.2.2
            go_upto_region 21 with (go_at_call 24; refine (HLS.out).mono ?_; rintro e w8 ⟨rfl, B2⟩)
            have HI1 := Lib.hid (B2.items HP.out.1)
            go_upto_region 22 with (go_at_call 25; refine (HI1.out).mono ?_; rintro e w9 ⟨ax, cx, rfl, WX, chx⟩)
            have HI2 := Lib.hid (WX.both.items HP.out.2.1)
            go_upto_region 23 with (go_at_call 25; refine (HI2.out).mono ?_; rintro e w10 ⟨ay, cy, rfl, WY, chy⟩)
            have rx : ReadsI w10 ax l := (reads_row WX.row).1.chg (fun b hb _ => chy.block b hb (fun h => h)) chy.size
            have ry : ReadsI w10 ay m := (reads_row WY.row).1
            have rl : ReadsI w10 a l := WY.kept.reads LA.out.1
            have rm : ReadsI w10 b m := WY.kept.reads LA.out.2.1
            have keep : ∀ {w' : World} {a : Option Addr} {xs : List Int}, Chg none_ w10 w' → ReadsI w10 a xs → ReadsI w' a xs := fun c r => r.chg (fun b hb _ => c.block b hb (fun h => h)) c.size
            have bl : l.length ≤ maxLen := by have := LA.out; unfold maxLen; omega
            have bm : m.length ≤ maxLen := by have := LA.out; unfold maxLen; omega
            have HJ1 := Lib.hid (fun c1 c2 => ints_calls rx rl bl bl c1 c2)
            have HJ2 := Lib.hid (fun w' (c : Chg none_ w10 w') c1 c2 => ints_calls (keep c ry) (keep c rm) bm bm c1 c2)
            have HJ3 := Lib.hid (fun w' (c : Chg none_ w10 w') c1 c2 => ints_calls (keep c rl) (keep c rm) bl bm c1 c2)
            have WYK := Lib.hid WY.kept
            have tl : decide (l = l) = true := by simp
            have tm : decide (m = m) = true := by simp
            have TL := Lib.hid tl
            have TM := Lib.hid tm
            clear rx ry rl rm keep bl bm WX WY chx HI1 HI2 HLS W6 tl tm
            go_wp2_with (go_at_call 26; first
              | (with_reducible refine (HJ1.out _ _).mono ?_; rintro e w11 ⟨rfl, d1⟩; rw [TL.out])
              | (with_reducible refine (HJ2.out _ d1 _ _).mono ?_; rintro e w12 ⟨rfl, d2⟩; rw [TM.out])
              | (with_reducible refine (HJ3.out _ (d1.trans d2 (fun _ _ h => h)) _ _).mono ?_; rintro e w13 ⟨rfl, d3⟩; rw [← HE.out]))
            go_ret
            exact ⟨rfl, (WYK.out.trans (((d1.trans d2 (fun _ _ h => h)).trans d3 (fun _ _ h => h)).kept (X := fun b => b < w.heap.size) (fun b hb => Nat.lt_of_lt_of_le hb WYK.out.size)) fun _ h => h).below fun k hk => hk⟩

end Go.Proofs.Ytlppagjnnlmnmaa
