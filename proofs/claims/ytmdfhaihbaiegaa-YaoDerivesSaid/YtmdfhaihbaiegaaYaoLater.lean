/- 'YaoLater' returns true. -/
import Derived.Test.YtmdfhaihbaiegaaYaoStore
import Derived.Deep.DeepCutAuto
set_option linter.unusedVariables false
set_option linter.unusedSimpArgs false
namespace Go.Proofs.Ytmdfhaihbaiegaa
open Go.RowKit

theorem InInts.toI {w : World} {a : Option Addr} {l : List Int} (h : InInts w a l) : InI w a l := by
  rcases h with h | ⟨b, off, h1, h2, h3, _⟩
  · exact .inl h
  · exact .inr ⟨b, off, h1, h2, h3⟩

/-- A row of ints that grows; all that was before W's end stays. -/
structure IRow (W : World) (v : Value) (D : List Int) (wr : World) : Prop where
  row : wr.ownsRow W.heap.size 3 1 v D.length (D.map (Value.int .i64))
  kept : Kept (fun b => b < W.heap.size) W wr

theorem infoInt : (Try.prog.info? 3).map (fun i => (i.zero, i.size, i.bytes)) = some (some (.int .i64 0), 1, 8) := by kernel_rfl

theorem IRow.step {W wr w6 : World} {v : Value} {D : List Int} {T : Int} {o : Obj} {g c n : Nat} (h : IRow W v D wr) (hown : w6.ownsRow W.heap.size 3 1 (.slice (some ⟨g, 0, none⟩) n c) (D.length + 1) (D.map (Value.int .i64) ++ [.int .i64 T])) (hg : (wr.alloc o).grownBy w6 v.ownBlock) : IRow W (.slice (some ⟨g, 0, none⟩) n c) (D ++ [T]) w6 := by
  have hc : Chg (fun k => v.ownBlock = some k) (wr.alloc o) w6 := ⟨hg.os, hg.tape, hg.output, hg.size, fun k hk hn => hg.block k hk (fun e => hn e.symm)⟩
  refine ⟨by simpa using hown, ?_⟩
  have hs := h.kept.size
  have k1 := h.kept.alloc (fun b hb => Nat.lt_of_lt_of_le hb hs) o
  exact k1.trans (Y := fun b => b < W.heap.size) ⟨hc.os, hc.tape, hc.output, hc.size, fun b hb => hc.block b (by simp; omega) (fun e => by have := (h.row.lt b e).1; omega)⟩ (fun _ h => h)

theorem row_cellI {w : World} {base : Nat} {v : Value} {D : List Int} (h : w.ownsRow base 3 1 v D.length (D.map (Value.int .i64))) {k : Nat} (hk : k < D.length) : ∃ g c, v = .slice (some ⟨g, 0, none⟩) D.length c ∧ g < w.heap.size ∧ w.cell? ⟨g, k, none⟩ = some (.int .i64 D[k]) := by
  rcases h.2 with ⟨_, hn⟩ | ⟨g, cap, cur, hv, h0, h1, h2, h3, h4, h5⟩
  · omega
  · refine ⟨g, cap, hv, lt_of_heap h1, ?_⟩
    rw [cell_of h1, ← Array.getElem?_toList]
    have := congrArg (fun l => l[k]?) h5
    simp only [List.getElem?_take, List.getElem?_map, List.getElem?_eq_getElem hk, Option.map_some] at this
    rw [if_pos (by omega)] at this
    exact this

theorem IRow.form {W wr : World} {v : Value} {D : List Int} (h : IRow W v D wr) : ∃ a c, v = .slice a D.length c := by
  rcases h.row.2 with ⟨hv, hz⟩ | ⟨g, cap2, cur, hv, _⟩
  · exact ⟨none, 0, by rw [hv, hz]⟩
  · exact ⟨_, _, hv⟩

/-- What can be derived, gathered. -/
def LRel1 (W : World) (q : Mind) (n : Nat) (i v : Value) (wr : World) : Prop :=
  ∃ (j : Nat) (D : List Int), j ≤ n ∧ i = .int .i64 ((j : Int) + 1) ∧ IRow W v D wr ∧ D.length = cnt (q.can.take (j + 1)) ∧ ∀ x ∈ D, canT q.can x = true

def LRel2 (W : World) (X : Nat → Prop) (p : Nat) (N : List Nd) (n : Nat) (i : Value) (wr : World) : Prop :=
  ∃ (k : Nat) (N' : List Nd), k ≤ n ∧ i = .int .i64 k ∧ Own X wr p N' 0 ∧ Kept X W wr ∧ N <+: N' ∧ N'.length ≤ N.length + k

theorem own_of {w : World} {s : St} {X : Nat → Prop} (h : StoreAt w s) (hX : ∀ k, s.own k → ¬ X k) (hlt : ∀ k, X k → k < w.heap.size) : Own X w s.p s.nodes s.drawn := ⟨⟨s.m, s.sl, h, hX⟩, hlt⟩

def LRel3 (W : World) (n m : Nat) (i : Value) (wr : World) : Prop := ∃ k : Nat, k ≤ m ∧ i = .int .i64 ((n : Int) + 1 + k) ∧ Chg none_ W wr

set_option maxRecDepth 100000 in
set_option maxHeartbeats 8000000 in
theorem later_walk (a1 : Option Addr) (c1 : Nat) (sc : List Nd) (a2 : Option Addr) (c2 : Nat) (kn : List Int) (a3 : Option Addr) (c3 : Nat) (la : List Nd) (w : World) (h1 : InNodes w a1 sc) (h2 : InI w a2 kn) (h3 : InNodes w a3 la) (hl1 : sc.length ≤ maxLen) (hl2 : kn.length ≤ maxLen) (hl3 : la.length ≤ maxLen) :
    Calls Try.prog 4 #[.slice a1 sc.length c1, .slice a2 kn.length c2, .slice a3 la.length c3] w fun e w' => e = .returned (.bool true) ∧ Below w.heap.size w w' := by
  have hb1 : (sc.length : Int) ≤ 9223372036854775807 := by unfold maxLen at hl1; omega
  have hb2 : (kn.length : Int) ≤ 9223372036854775807 := by unfold maxLen at hl2; omega
  have hb3 : (la.length : Int) ≤ 9223372036854775807 := by unfold maxLen at hl3; omega
  clear hl1 hl2 hl3
  by_cases hn : ¬ (sc.length ≤ 120 ∧ la.length ≤ 120 ∧ kn.length ≤ 60)
  · have HN := Lib.hid hn
    have H1 := Lib.hid h1
    clear hn h1 h2 h3
    by_cases t1 : 120 < sc.length
    · have b1 : decide ((120 : Int) < (sc.length : Int)) = true := by simp; omega
      clear t1
      go_enter Try.func4, Try.ntmps4
      go_wp2_with (go_at_call 7; refine (anchor_calls _).mono ?_; rintro e w1 ⟨rfl, c1⟩)
      go_ret
      exact ⟨rfl, c1.below (Nat.le_refl _) (fun _ _ h => h)⟩
    · have b1 : decide ((120 : Int) < (sc.length : Int)) = false := by simp; omega
      by_cases t2 : 120 < la.length
      · have b2 : decide ((120 : Int) < (la.length : Int)) = true := by simp; omega
        clear t1 t2
        go_enter Try.func4, Try.ntmps4
        go_wp2_with (go_at_call 7; refine (anchor_calls _).mono ?_; rintro e w1 ⟨rfl, c1⟩)
        go_ret
        exact ⟨rfl, c1.below (Nat.le_refl _) (fun _ _ h => h)⟩
      · have b2 : decide ((120 : Int) < (la.length : Int)) = false := by simp; omega
        have b4 : decide ((60 : Int) < (kn.length : Int)) = true := by have := HN.out; simp; omega
        clear t1 t2
        go_enter Try.func4, Try.ntmps4
        go_wp2_with (go_at_call 7; refine (anchor_calls _).mono ?_; rintro e w1 ⟨rfl, c1⟩)
        go_ret
        exact ⟨rfl, c1.below (Nat.le_refl _) (fun _ _ h => h)⟩
  have hn' : sc.length ≤ 120 ∧ la.length ≤ 120 ∧ kn.length ≤ 60 := Classical.not_not.1 hn
  have b1 : decide ((120 : Int) < (sc.length : Int)) = false := by simp; omega
  have b2 : decide ((120 : Int) < (la.length : Int)) = false := by simp; omega
  have b3 : decide ((60 : Int) < (kn.length : Int)) = false := by simp; omega
  have HN := Lib.hid hn'
  have H1 := Lib.hid h1
  have H2 := Lib.hid h2
  have H3 := Lib.hid h3
  clear hn hn' h1 h2 h3
  go_enter Try.func4, Try.ntmps4
  go_wp2_with (go_at_call 7; refine (anchor_calls _).mono ?_; rintro e w1 ⟨rfl, k1⟩)
  have hin1 : InNodes w1 a1 sc := by
    rcases H1.out with h | ⟨b, off, e1, e2, e3⟩
    · exact .inl h
    · refine .inr ⟨b, off, e1, Nat.lt_of_lt_of_le e2 k1.size, fun i hi => ?_⟩
      have := k1.block b e2 (fun h => h)
      simp only [cell_eq this]
      exact e3 i hi
  refine (store_calls a1 c1 sc w1 hin1 (by have := HN.out; omega)).mono ?_
  rintro e w4 ⟨p, v, N, rfl, hr, hNl⟩
  obtain ⟨s, rfl, hsn, hsd, hst, hdis⟩ := hr.own.at_
  have HSD := Lib.hid hsd
  have hK4 : Kept (fun b => b < w.heap.size) w w4 := (k1.kept (fun _ h => h)).trans hr.kept (fun k hk => Nat.lt_of_lt_of_le hk k1.size)
  have hsge : ∀ k, s.own k → w.heap.size ≤ k := fun k hk => Nat.le_of_not_lt fun h => hdis k hk (.inl (Nat.lt_of_lt_of_le h k1.size))
  have hNb : N.length ≤ 120 := by have := HN.out; omega
  have HLT := Lib.hid (fun k (hk : s.own k) => hst.own_lt hk)
  have HST := Lib.hid hst
  have HSN := Lib.hid hsn
  have HK4 := Lib.hid (And.intro hK4 (And.intro hsge hNb))
  clear hin1 hr hNl hst hsn hsd hdis hK4 hsge hNb k1 H1
  have hin2 : InI w4 a2 kn := by
    rcases H2.out with h | ⟨b, off, e1, e2, e3⟩
    · exact .inl h
    · exact .inr ⟨b, off, e1, Nat.lt_of_lt_of_le e2 HK4.out.1.size, fun i hi => (cell_eq (HK4.out.1.block b e2)).trans (e3 i hi)⟩
  have HNM := Lib.hid (newmind_calls (cap := c2) HST.out hin2 (by have := HN.out; omega))
  clear hin2 H2
  go_wp2_with fail
  refine HNM.out.mono ?_
  rintro e w5 ⟨q, rfl, hq, hqs, hqo, hc5, hk⟩
  rw [HSN.out] at hk
  have hst5 := HST.out.chg hc5 (fun _ _ h => h)
  have hwf := hst5.wf
  rw [HSN.out] at hwf
  have HQ := Lib.hid hq
  have HK := Lib.hid hk
  have HS5 := Lib.hid hst5
  have HX := Lib.hid (And.intro hqs (And.intro hqo (And.intro hc5 hwf)))
  have hql : q.can.length ≤ 262145 := by rw [hk.len]; have := HK4.out.2.2; omega
  clear hq hqs hqo hc5 hk hst5 hwf HNM HST
  have hlen := len_calls HS5.out
  rw [HSN.out] at hlen
  have HLEN := Lib.hid hlen
  clear hlen
  have hNb : (N.length : Int) ≤ 120 := by have := HK4.out.2.2; omega
  go_wp2_with (go_at_call 13; refine HLEN.out.mono ?_; rintro e w6 ⟨rfl, rfl⟩)
  clear HLEN
  go_loopw [12, 11] (fun i v wr => LRel1 w6 q N.length i v wr) (fun i _ _ => N.length + 1 - (intOf i).toNat)
  case atStart =>
    refine ⟨0, [], Nat.zero_le _, rfl, ⟨World.ownsRow_nil _ _ _ _, Kept.refl _ _⟩, ?_, fun x h => by simp at h⟩
    have h0 := HK.out.none
    have := cnt_take q.can (i := 0) (by rw [HK.out.len]; omega)
    rw [this, h0]
    simp [cnt]
  case round =>
    obtain ⟨j, D, hj, rfl, hR, hD, hDc⟩ := hrel
    have hql' : j + 1 ≤ q.can.length := by rw [HK.out.len]; omega
    have hDl : D.length ≤ 200 := by have h1 := cnt_le (q.can.take (j + 1)); have h2 : (q.can.take (j + 1)).length ≤ j + 1 := List.length_take_le _ _; omega
    obtain ⟨av, cv, rfl⟩ := hR.form
    have hji : (j : Int) ≤ 120 := by omega
    have hQ := HQ.out.keep (w' := wr) (fun k hk => hR.kept.block k (HQ.out.own_lt hk))
    have HR := Lib.hid hR
    have HD := Lib.hid (And.intro hD hDc)
    have HQr := Lib.hid hQ
    clear hR hD hDc hQ
    by_cases hlt : j < N.length
    · have hb5 : decide ((j : Int) + 1 ≤ (N.length : Int)) = true := by simp; omega
      have hct : canT q.can ((j : Int) + 1) = q.can.getD (j + 1) false := by
        unfold canT
        have e1 : decide ((1 : Int) ≤ (j : Int) + 1) = true := by simp; omega
        have e2 : decide ((j : Int) + 1 < (q.can.length : Int)) = true := by simp; rw [HK.out.len]; omega
        rw [e1, e2, show ((j : Int) + 1).toNat = j + 1 by omega]
        rfl
      have hcn := cnt_take q.can (i := j + 1) (by rw [HK.out.len]; omega)
      have hcc := can_calls HQr.out hql ((j : Int) + 1)
      have hx : ∃ x, canT q.can ((j : Int) + 1) = x := ⟨_, rfl⟩
      obtain ⟨x, hx⟩ := hx
      rw [hx] at hcc hct
      rw [← hct] at hcn
      have HCC := Lib.hid hcc
      have HCN := Lib.hid (And.intro hcn hx)
      clear hcc hct hcn hx
      cases x
      · go_wp2_with (go_at_call 14; refine HCC.out.mono ?_; rintro e w7 ⟨rfl, rfl⟩)
        refine ⟨⟨j + 1, D, by omega, by go_num, HR.out, ?_, HD.out.2⟩, by simp [intOf]; omega⟩
        have h1 := HCN.out.1
        have h2 := HD.out.1
        simp at h1
        omega
      · obtain ⟨i0, hi, hz0, hz1, hz2⟩ := info_parts infoInt
        have HI := Lib.hid (And.intro hi (And.intro hz0 (And.intro hz1 hz2)))
        clear hi hz0 hz1 hz2
        go_wp2_with (first
          | (go_at_call 14; refine HCC.out.mono ?_; rintro e w7 ⟨rfl, rfl⟩)
          | (at_builtin; refine wpList_append_lies _ rfl _ _ _ rfl w6.heap.size 3 i0 _ 1 8 Try.underlying23 HI.out.1 HI.out.2.1 HI.out.2.2.1 HI.out.2.2.2 rfl (by decide) (.slice av D.length cv) D.length (D.map (Value.int .i64)) rfl ?c1 ⟨w7.heap.size, 0, none⟩ 1 1 [.int .i64 ((j : Int) + 1)] rfl rfl ?c2 (by simp [Value.oneCell']) (by decide) ?c3 ?c4 ?c5 _ rfl ?_))
        case c1 => exact HR.out.row.alloc _
        case c2 => exact World.news_of_block heap_alloc_at
        case c3 => unfold maxLen; omega
        case c4 => omega
        case c5 => have := HR.out.kept.size; simp; omega
        intro g cap3 w8 hown8 hg8 hat8 hlt8
        go_wp2
        refine ⟨⟨j + 1, D ++ [(j : Int) + 1], by omega, by go_num, HR.out.step hown8 hg8, ?_, fun x hx => ?_⟩, by simp [intOf]; omega⟩
        · have h1 := HCN.out.1
          have h2 := HD.out.1
          simp at h1 ⊢
          omega
        · rcases List.mem_append.1 hx with h | h
          · exact HD.out.2 x h
          · have : x = (j : Int) + 1 := by simpa using h
            rw [this]; exact HCN.out.2
    · have hje : j = N.length := by omega
      subst hje
      have hb5 : decide ((N.length : Int) + 1 ≤ (N.length : Int)) = false := by simp; omega
      obtain ⟨wB, rfl⟩ : ∃ x, x = wr := ⟨_, rfl⟩
      have hDn : D.length = cnt q.can := by
        have h1 := HD.out.1
        rw [← HK.out.len, List.take_length] at h1
        exact h1
      have hK6 : Kept (fun b => b < w.heap.size) w wB := (HK4.out.1.trans (HX.out.2.2.1.kept (fun k hk => hk)) (fun k hk => Nat.lt_of_lt_of_le hk HK4.out.1.size)).trans HR.out.kept (fun k hk => Nat.lt_of_lt_of_le hk (Nat.le_trans HK4.out.1.size HX.out.2.2.1.size))
      have hstr : StoreAt wB s := HS5.out.keep (fun k hk => HR.out.kept.block k (HS5.out.own_lt hk))
      have hX0 : ∃ X : Nat → Prop, (∀ k, k < wB.heap.size → ¬ s.own k → X k) ∧ (∀ k, X k → k < wB.heap.size) ∧ ∀ k, s.own k → ¬ X k := ⟨fun k => k < wB.heap.size ∧ ¬ s.own k, fun k h1 h2 => ⟨h1, h2⟩, fun k h => h.1, fun k h1 h2 => h2.2 h1⟩
      obtain ⟨X, hX1, hX2, hX3⟩ := hX0
      have hO := own_of hstr hX3 hX2
      rw [HSN.out, HSD.out] at hO
      have hqX : ∀ k, q.own k → X k := fun k hk => hX1 k (HQr.out.own_lt hk) fun hs => by
        have h1 := HX.out.2.1 k hk
        have h2 := HLT.out k hs
        omega
      have hwX : ∀ k, k < w.heap.size → X k := fun k hk => hX1 k (Nat.lt_of_lt_of_le hk hK6.size) fun hs => by have := HK4.out.2.1 k hs; omega
      have hvX : ∀ k, (Value.slice av D.length cv).ownBlock = some k → X k ∧ ¬ q.own k := fun k hk => by
        have h1 := HR.out.row.lt k hk
        exact ⟨hX1 k h1.2 fun hs => by have := HS5.out.own_lt hs; omega, fun hq => by have := HQ.out.own_lt hq; omega⟩
      have HB := Lib.hid (And.intro hDn (And.intro hK6 (And.intro hqX (And.intro hwX hvX))))
      have HO := Lib.hid hO
      clear hDn hK6 hstr hX1 hX2 hX3 hO hqX hwX hvX hlt hj
      go_wp2
      go_loopw [64] (fun i wr' => LRel2 wB X s.p N la.length i wr') (fun i _ => la.length - (intOf i).toNat)
      case atStart => exact ⟨0, N, Nat.zero_le _, rfl, HO.out, Kept.refl _ _, List.prefix_refl _, Nat.le_refl _⟩
      case round =>
        clear HO
        obtain ⟨k, N', hk, rfl, hO, hKX, hpre, hN'⟩ := hrel
        have hkb : (k : Int) ≤ 120 := by have := HN.out; omega
        have HO := Lib.hid hO
        have HKX := Lib.hid hKX
        have HP := Lib.hid (And.intro hpre hN')
        clear hO hKX hpre hN'
        by_cases hlt : k < la.length
        · rcases H3.out with hnil | ⟨b, off, rfl, hb', hc⟩
          · rw [hnil] at hlt; simp at hlt
          obtain ⟨f0, f1, f2, f3⟩ := hc k hlt
          have hblk := (HKX.out.block b (HB.out.2.2.2.1 b hb')).trans (HB.out.2.1.block b hb')
          have g0 := (cell_eq hblk).trans f0
          have g1 := (cell_eq hblk).trans f1
          have g2 := (cell_eq hblk).trans f2
          have g3 := (cell_eq hblk).trans f3
          have hbl : b < wr.heap.size := Nat.lt_of_lt_of_le (Nat.lt_of_lt_of_le hb' HB.out.2.1.size) HKX.out.size
          clear hc f0 f1 f2 f3 hblk
          generalize la[k] = n at *
          obtain ⟨k0, l0, a0, b0⟩ := n
          have hO1 : Own X (wr.alloc (.cells #[.int .i64 k0, .string l0, .int .i64 a0, .int .i64 b0] 38)) s.p N' 0 := (HO.out.alloc _).mono (fun _ h => .inl h)
          have OM := Lib.hid (hO1.make ⟨k0, l0, a0, b0⟩)
          have KM := Lib.hid (HKX.out.alloc HO.out.lt (.cells #[.int .i64 k0, .string l0, .int .i64 a0, .int .i64 b0] 38))
          clear hO1
          go_wp2_with (go_at_call 15; refine (OM.out).mono ?_; rintro e w7 ⟨rfl, OB, KB⟩)
          refine ⟨⟨k + 1, _, by omega, by go_num, OB, KM.out.trans KB (fun _ h => h), HP.out.1.trans (mkL_prefix _ _), ?_⟩, by simp [intOf]; omega⟩
          have := HP.out.2
          rcases mk_cases N' ⟨k0, l0, a0, b0⟩ with ⟨_, _, _, _, _, e⟩ | ⟨_, _, _, _, e⟩ | ⟨_, _, _, _, _, e⟩ | ⟨_, _, _, _, _, e⟩ <;> rw [e] <;> simp <;> omega
        · have hke : k = la.length := by omega
          subst hke
          obtain ⟨wC, rfl⟩ : ∃ x, x = wr := ⟨_, rfl⟩
          have hqC : MindAt wC q := HQr.out.keep (fun k hk => HKX.out.block k (HB.out.2.2.1 k hk))
          have hvC := HKX.out.row HR.out.row (fun k hk => (HB.out.2.2.2.2 k hk).1)
          obtain ⟨M, hM⟩ : ∃ M : Nat, N'.length = N.length + M := ⟨N'.length - N.length, by have := HP.out.1.length_le; omega⟩
          have hMb : M ≤ 120 := by have := HP.out.2; omega
          have hOl := HO.out.len
          rw [hM] at hOl
          have HOL := Lib.hid hOl
          have HQC := Lib.hid hqC
          have HVC := Lib.hid hvC
          have HM := Lib.hid hM
          clear hqC hvC hM hOl hlt hk H3
          have hMi : (M : Int) ≤ 120 := by omega
          go_wp2
          go_loopw [15] (fun i wr' => (∃ k : Nat, k ≤ M ∧ i = .int .i64 ((N.length : Int) + 1 + k)) ∧ wr' = wC) (fun i _ => N.length + 1 + M - (intOf i).toNat)
          case atStart => exact ⟨⟨0, Nat.zero_le _, by simp⟩, rfl⟩
          case round =>
            obtain ⟨⟨k, hk, rfl⟩, hwe⟩ := hrel
            subst hwe
            by_cases hlt : k < M
            · have hb6 : decide ((N.length : Int) + 1 + (k : Int) ≤ (N.length + M : Nat)) = true := by simp; omega
              have hct : canT q.can ((N.length : Int) + 1 + k) = false := by
                unfold canT
                have e2 : decide ((N.length : Int) + 1 + (k : Int) < (q.can.length : Int)) = false := by simp; rw [HK.out.len]; omega
                rw [e2]
                simp
              have hcc := can_calls HQC.out hql ((N.length : Int) + 1 + k)
              rw [hct] at hcc
              have HCC := Lib.hid hcc
              clear hct hcc
              go_wp2_with (first
                | (go_at_call 13; refine (HOL.out).mono ?_; rintro e w7 ⟨rfl, rfl⟩)
                | (go_at_call 14; refine HCC.out.mono ?_; rintro e w8 ⟨rfl, rfl⟩))
              refine ⟨⟨⟨k + 1, by omega, by go_num⟩, trivial⟩, by simp [intOf]; omega⟩
            · have hke : M = k := by omega
              subst hke
              have hb6 : decide ((N.length : Int) + 1 + (M : Int) ≤ (N.length + M : Nat)) = false := by simp; omega
              have hcc := count_calls HQC.out hql
              rw [← HB.out.1] at hcc
              have HCC := Lib.hid hcc
              clear hcc hlt hk
              obtain ⟨s2, hsp2, hsn2, _, hst2, hdis2⟩ := HO.out.at_
              have hsep : Sep q s2 := fun k hk hs => hdis2 k hs (HB.out.2.2.1 k hk)
              have hln := learn_knows (cap := 0) (a := none) (l := []) HQC.out hst2 (HX.out.1.trans hsp2.symm) hsep (.inl rfl) (fun h => absurd rfl h) (Nat.zero_le _) HK.out HX.out.2.2.2 (by rw [hsn2]; exact HP.out.1) (fun t h => h.2)
              rw [hsn2] at hln
              have HLN := Lib.hid hln
              have HS2 := Lib.hid (And.intro hsp2 (And.intro hsn2 (And.intro hst2 hsep)))
              clear hln hsp2 hsn2 hst2 hdis2 hsep
              go_wp2_with fail
              refine HOL.out.mono ?_; rintro e w7 ⟨rfl, rfl⟩
              go_wp2_with fail
              refine HCC.out.mono ?_; rintro e w8 ⟨rfl, rfl⟩
              go_wp2_with fail
              refine HLN.out.mono ?_
              rintro e wD ⟨rfl, q2, hq2, hp2, _, _, hcD, hk2⟩
              have hwf' := HO.out.wf
              have hgrow : ∀ t, canT q.can t = true → canT q2.can t = true := fun t ht => (hk2.canT hwf' t).2 (((HK.out.canT HX.out.2.2.2 t).1 ht).grow HX.out.2.2.2 HP.out.1 (fun x hx hkx => (closedD _ _).given x (.inl hx) (by rw [knownB_iff] at *; have := HP.out.1.length_le; omega)))
              have htext : ∀ t, knownB N'.length t = true → (getN N' t).kind = 2 → canT q2.can t = true := fun t ht hk => (hk2.canT hwf' t).2 ((closedD _ _).made t ht (.inl hk))
              have hvD := row_keep HVC.out (fun b hb => hcD.block b (own_block_lt HVC.out hb) (HB.out.2.2.2.2 b hb).2)
              have hql2 : q2.can.length ≤ 262145 := by rw [hk2.len, HM.out]; omega
              have hcc2 := fun (w' : World) (hm : MindAt w' q2) t => can_calls hm hql2 t
              have hptr : q2.ptr = q.ptr := by rw [Mind.ptr, Mind.ptr, hp2]
              simp only [hptr] at hcc2
              have hstD := HS2.out.2.2.1.chg hcD (fun k hk hq => HS2.out.2.2.2 k hq hk)
              have hKD : Kept (fun b => b < w.heap.size) w wD := by
                have k1 := HB.out.2.1.trans HKX.out HB.out.2.2.2.1
                refine ⟨hcD.os.trans k1.os, hcD.tape.trans k1.tape, hcD.output.trans k1.output, Nat.le_trans k1.size hcD.size, fun k hk => (hcD.block k (Nat.lt_of_lt_of_le hk k1.size) fun hq => ?_).trans (k1.block k hk)⟩
                have := HX.out.2.1 k hq
                have := HK4.out.1.size
                omega
              have HF := Lib.hid (And.intro hgrow (And.intro htext hKD))
              have HQ2 := Lib.hid hq2
              have HCC2 := Lib.hid hcc2
              have HVD := Lib.hid hvD
              have HSD2 := Lib.hid hstD
              clear hwf' hgrow htext hvD hql2 hcc2 hptr hstD hKD hq2 hk2 hcD hp2 HLN HCC HVC HQC
              dsimp only
              go_wp2
              go_loopw [92] (fun i wr' => (∃ k : Nat, k ≤ D.length ∧ i = .int .i64 k) ∧ wr' = wD) (fun i _ => D.length - (intOf i).toNat)
              case atStart => exact ⟨⟨0, Nat.zero_le _, rfl⟩, rfl⟩
              case round =>
                obtain ⟨⟨k, hk, rfl⟩, hwe⟩ := hrel
                subst hwe
                by_cases hlt : k < D.length
                · obtain ⟨g, cc, hv, hgl, hcell⟩ := row_cellI HVD.out hlt
                  injection hv with hv1 _ hv3
                  subst hv1
                  subst hv3
                  have hx1 := HF.out.1 D[k] (HD.out.2 _ (List.getElem_mem hlt))
                  generalize D[k] = x at *
                  have hcx := HCC2.out wr HQ2.out x
                  rw [hx1] at hcx
                  have HCX := Lib.hid hcx
                  clear hcx hx1
                  go_wp2_with (go_at_call 14; refine HCX.out.mono ?_; rintro e w8 ⟨rfl, rfl⟩)
                  refine ⟨⟨⟨k + 1, by omega, by go_num⟩, trivial⟩, by simp [intOf]; omega⟩
                · have hke : k = D.length := by omega
                  subst hke
                  clear hlt hk
                  go_wp2
                  go_loopw [18] (fun i wr' => LRel3 wr N.length M i wr') (fun i _ => N.length + 1 + M - (intOf i).toNat)
                  case atStart => exact ⟨0, Nat.zero_le _, by simp, Chg.refl _ _⟩
                  case round =>
                    obtain ⟨k, hk, rfl, hcE⟩ := hrel
                    have hst3 := HSD2.out.chg hcE (fun _ _ h => h)
                    have hq3 := HQ2.out.chg hcE (fun _ _ h => h)
                    have hl3 := len_calls hst3
                    have hg3 := get_calls hst3 ((N.length : Int) + 1 + k)
                    rw [HS2.out.2.1] at hl3 hg3
                    rw [HM.out] at hl3
                    have hsp : s2.ptr = .pointer (some ⟨s.p, 0, none⟩) := by rw [St.ptr, HS2.out.1]
                    rw [hsp] at hl3 hg3
                    have HL3 := Lib.hid hl3
                    have HCE := Lib.hid hcE
                    have HQ3 := Lib.hid hq3
                    clear hst3 hq3 hl3 hcE hsp
                    by_cases hlt : k < M
                    · have hkn : knownB N'.length ((N.length : Int) + 1 + k) = true := by rw [knownB_iff, HM.out]; omega
                      have htx := HF.out.2.1 _ hkn
                      have hgn : ∃ n, getN N' ((N.length : Int) + 1 + k) = n := ⟨_, rfl⟩
                      obtain ⟨n, hgn⟩ := hgn
                      rw [hgn] at hg3 htx
                      obtain ⟨k0, l0, a0, b0⟩ := n
                      have HG3 := Lib.hid hg3
                      have HTX := Lib.hid htx
                      clear hg3 hgn htx hkn
                      have hb6 : decide ((N.length : Int) + 1 + (k : Int) ≤ (N.length + M : Nat)) = true := by simp; omega
                      by_cases h2 : k0 = 2
                      · subst h2
                        have hx1 := HTX.out rfl
                        go_wp2_with fail
                        refine HL3.out.mono ?_; rintro e w9 ⟨rfl, rfl⟩
                        go_wp2_with fail
                        refine HG3.out.mono ?_; rintro e w10 ⟨rfl, hc10⟩
                        have hcx := HCC2.out _ ((HQ3.out.chg hc10 (fun _ _ h => h)).alloc (.cells #[.int .i64 2, .string l0, .int .i64 a0, .int .i64 b0] 38)) ((N.length : Int) + 1 + k)
                        rw [hx1] at hcx
                        have HCX := Lib.hid hcx
                        have HCF := Lib.hid ((HCE.out.trans hc10 (fun _ _ h => h)).alloc (.cells #[.int .i64 2, .string l0, .int .i64 a0, .int .i64 b0] 38))
                        clear hcx hx1 hc10
                        go_wp2_with (go_at_call 14; refine HCX.out.mono ?_; rintro e w11 ⟨rfl, rfl⟩)
                        refine ⟨⟨k + 1, by omega, by go_num, HCF.out⟩, by simp [intOf]; omega⟩
                      · have hb7 : (k0 == 2) = false := by simpa using h2
                        clear h2
                        go_wp2_with fail
                        refine HL3.out.mono ?_; rintro e w9 ⟨rfl, rfl⟩
                        go_wp2_with fail
                        refine HG3.out.mono ?_; rintro e w10 ⟨rfl, hc10⟩
                        have HCF := Lib.hid ((HCE.out.trans hc10 (fun _ _ h => h)).alloc (.cells #[.int .i64 k0, .string l0, .int .i64 a0, .int .i64 b0] 38))
                        clear hc10
                        go_wp2
                        refine ⟨⟨k + 1, by omega, by go_num, HCF.out⟩, by simp [intOf]; omega⟩
                    · have hke : M = k := by omega
                      subst hke
                      have hb6 : decide ((N.length : Int) + 1 + (M : Int) ≤ (N.length + M : Nat)) = false := by simp; omega
                      have hB := (HF.out.2.2.trans (HCE.out.kept (fun k hk => hk)) (fun b hb => Nat.lt_of_lt_of_le hb HF.out.2.2.size)).below (B := w.heap.size) (fun k hk => hk)
                      have HBE := Lib.hid hB
                      clear hB hg3 hlt hk
                      go_wp2_with fail
                      refine HL3.out.mono ?_; rintro e w9 ⟨rfl, rfl⟩
                      go_wp2
                      go_ret
                      exact ⟨rfl, HBE.out⟩

theorem later_row (a1 : Option Addr) (c1 : Nat) (sc : List Nd) (a2 : Option Addr) (c2 : Nat) (kn : List Int) (a3 : Option Addr) (c3 : Nat) (la : List Nd) (w : World) (h1 : InNodes w a1 sc) (hl1 : sc.length ≤ maxLen) (h2 : InInts w a2 kn) (hl2 : kn.length ≤ maxLen) (h3 : InNodes w a3 la) (hl3 : la.length ≤ maxLen) :
    Calls Try.prog 4 #[.slice a1 sc.length c1, .slice a2 kn.length c2, .slice a3 la.length c3] w fun e w' => e = .returned (.bool true) ∧ Below w.heap.size w w' :=
  later_walk a1 c1 sc a2 c2 kn a3 c3 la w h1 h2.toI h3 hl1 hl2 hl3

end Go.Proofs.Ytmdfhaihbaiegaa
