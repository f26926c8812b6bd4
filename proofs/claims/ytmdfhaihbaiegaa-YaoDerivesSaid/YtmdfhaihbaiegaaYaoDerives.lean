/- 'YaoDerives' returns true. -/
import Derived.Test.YtmdfhaihbaiegaaYaoLike
import Derived.Test.YtmdfhaihbaiegaaYaoChains
set_option linter.unusedVariables false
set_option linter.unusedSimpArgs false
namespace Go.Proofs.Ytmdfhaihbaiegaa
open Go.RowKit

theorem InI.chg {W w : World} {a : Option Addr} {l : List Int} (h : InI W a l) (hc : Chg none_ W w) : InI w a l := by
  rcases h with h | ⟨b, off, e1, e2, e3⟩
  · exact .inl h
  · exact .inr ⟨b, off, e1, Nat.lt_of_lt_of_le e2 hc.size, fun i hi => (cell_eq (hc.block b e2 (fun h => h))).trans (e3 i hi)⟩

theorem InNodes.chg {W w : World} {a : Option Addr} {l : List Nd} (h : InNodes W a l) (hc : Chg none_ W w) : InNodes w a l := by
  rcases h with h | ⟨b, off, e1, e2, e3⟩
  · exact .inl h
  · refine .inr ⟨b, off, e1, Nat.lt_of_lt_of_le e2 hc.size, fun i hi => ?_⟩
    have := hc.block b e2 (fun h => h)
    simp only [cell_eq this]
    exact e3 i hi

theorem row_nodes {w : World} {base : Nat} {v : Value} {N : List Nd} (h : w.ownsRow base 38 4 v N.length (flat N)) : ∃ a c, v = .slice a N.length c ∧ InNodes w a N := by
  rcases h.2 with ⟨hv, hz⟩ | ⟨g, cap, cur, hv, h0, h1, h2, h3, h4, h5⟩
  · exact ⟨none, 0, by rw [hv, hz], .inl (List.length_eq_zero_iff.1 hz)⟩
  · have key : ∀ i (hi : i < N.length) j, j < 4 → w.cell? ⟨g, 0 + i * 4 + j, none⟩ = (N[i]).cells[j]? := fun i hi j hj => by
      rw [cell_of h1, ← flat_get _ i hi j hj, ← h5, List.getElem?_take, if_pos (by omega), Array.getElem?_toList, Nat.mul_comm, Nat.zero_add]
    refine ⟨_, _, hv, .inr ⟨g, 0, rfl, lt_of_heap h1, fun i hi => ⟨key i hi 0 (by omega), key i hi 1 (by omega), key i hi 2 (by omega), key i hi 3 (by omega)⟩⟩⟩

theorem row_inI' {w : World} {base c : Nat} {ao : Option Addr} {D : List Int} (h : w.ownsRow base 3 1 (.slice ao D.length c) D.length (D.map (Value.int .i64))) : InI w ao D ∧ ∀ b off, ao = some ⟨b, off, none⟩ → base ≤ b := by
  rcases h.2 with ⟨hv, hz⟩ | ⟨g, cap, cur, hv, h0, h1, h2, h3, h4, h5⟩
  · simp only [Value.slice.injEq] at hv
    obtain ⟨rfl, _⟩ := hv
    exact ⟨.inl (List.length_eq_zero_iff.1 hz), fun b off h => by cases h⟩
  · simp only [Value.slice.injEq] at hv
    obtain ⟨rfl, _⟩ := hv
    refine ⟨row_inI h rfl, fun b off h => ?_⟩
    injection h with h
    injection h with h
    omega

section
variable (w : World) {ops : Array Oper} {rest : List Oper} {o : Oper} {a : Act} {Q : Exit → Act → World → Prop}
theorem wpList_app_ints (hgd : o.guard = none) (s x : Operand) (ho : o.op = .call { callee := .builtin .append, args := #[s, x], argTypes := #[23, 23] }) (w0 : World) (hc : Chg none_ w0 w) (xs l L : List Int) (hL : xs ++ l = L) (hLn : L.length ≤ 1000)
    (v : Value) (hs : a.eval s = v) (hown : w.ownsRow w0.heap.size 3 1 v xs.length (xs.map (Value.int .i64))) (sa : Option Addr) (c : Nat) (hx : a.eval x = .slice sa l.length c) (hin : InI w sa l)
    (h : ∀ ao cap w', w'.ownsRow w0.heap.size 3 1 (.slice ao L.length cap) L.length (L.map (Value.int .i64)) → Chg none_ w0 w' → wpList Try.prog ops Q rest (a.put o.dst (.slice ao L.length cap)) w') :
    wpList Try.prog ops Q (o :: rest) a w := by
  obtain ⟨i0, hi, hz0, hz1, hz2⟩ := info_parts infoInt
  subst hL
  rw [List.length_append] at hLn
  refine wpList_append_any w hgd s x _ ho w0.heap.size 3 i0 _ 1 8 Try.underlying23 hi hz0 hz1 hz2 rfl (by decide) v xs.length (xs.map (Value.int .i64)) hs hown sa l.length c (l.map (Value.int .i64)) hx (by simp) ?_ (one_ints l) (by unfold maxLen; omega) (by omega) hc.size ?_
  · rcases hin with hnil | ⟨b, off, rfl, hb, hcell⟩
    · right; rw [hnil]; rfl
    · exact .inl ⟨_, rfl, news_ints (w5 := w) (Chg.refl _ _) hb hcell⟩
  · intro ao cap w' hown' hg _ _
    have := h ao cap w' (by rw [List.length_append, List.map_append]; exact hown') (chg_grown hc hg fun k hk => (hown.lt k hk).1)
    rw [List.length_append] at this
    exact this
end

set_option maxRecDepth 100000 in
set_option maxHeartbeats 8000000 in
theorem derives_walk (a1 : Option Addr) (c1 : Nat) (sc : List Nd) (a2 : Option Addr) (c2 : Nat) (kn : List Int) (a3 : Option Addr) (c3 : Nat) (mo : List Int) (w : World) (h1 : InNodes w a1 sc) (h2 : InI w a2 kn) (h3 : InI w a3 mo) (hl1 : sc.length ≤ maxLen) (hl2 : kn.length ≤ maxLen) (hl3 : mo.length ≤ maxLen) :
    Calls Try.prog 3 #[.slice a1 sc.length c1, .slice a2 kn.length c2, .slice a3 mo.length c3] w fun e w' => e = .returned (.bool true) ∧ Below w.heap.size w w' := by
  have hb1 : (sc.length : Int) ≤ 9223372036854775807 := by unfold maxLen at hl1; omega
  have hb2 : (kn.length : Int) ≤ 9223372036854775807 := by unfold maxLen at hl2; omega
  have hb3 : (mo.length : Int) ≤ 9223372036854775807 := by unfold maxLen at hl3; omega
  clear hl1 hl2 hl3
  by_cases hn : ¬ (sc.length ≤ 150 ∧ kn.length ≤ 100 ∧ mo.length ≤ 100)
  · have HN := Lib.hid hn
    have H1 := Lib.hid h1
    clear hn h1 h2 h3
    by_cases t1 : 150 < sc.length
    · have b1 : decide ((150 : Int) < (sc.length : Int)) = true := by simp; omega
      clear t1
      go_enter Try.func3, Try.ntmps3
      go_wp2_with (go_at_call 7; refine (anchor_calls _).mono ?_; rintro e w1 ⟨rfl, c1⟩)
      go_ret
      exact ⟨rfl, c1.below (Nat.le_refl _) (fun _ _ h => h)⟩
    · have b1 : decide ((150 : Int) < (sc.length : Int)) = false := by simp; omega
      by_cases t2 : 100 < kn.length
      · have b2 : decide ((100 : Int) < (kn.length : Int)) = true := by simp; omega
        clear t1 t2
        go_enter Try.func3, Try.ntmps3
        go_wp2_with (go_at_call 7; refine (anchor_calls _).mono ?_; rintro e w1 ⟨rfl, c1⟩)
        go_ret
        exact ⟨rfl, c1.below (Nat.le_refl _) (fun _ _ h => h)⟩
      · have b2 : decide ((100 : Int) < (kn.length : Int)) = false := by simp; omega
        have b4 : decide ((100 : Int) < (mo.length : Int)) = true := by have := HN.out; simp; omega
        clear t1 t2
        go_enter Try.func3, Try.ntmps3
        go_wp2_with (go_at_call 7; refine (anchor_calls _).mono ?_; rintro e w1 ⟨rfl, c1⟩)
        go_ret
        exact ⟨rfl, c1.below (Nat.le_refl _) (fun _ _ h => h)⟩
  have hn' : sc.length ≤ 150 ∧ kn.length ≤ 100 ∧ mo.length ≤ 100 := Classical.not_not.1 hn
  have b1 : decide ((150 : Int) < (sc.length : Int)) = false := by simp; omega
  have b2 : decide ((100 : Int) < (kn.length : Int)) = false := by simp; omega
  have b3 : decide ((100 : Int) < (mo.length : Int)) = false := by simp; omega
  have HN := Lib.hid hn'
  have H1 := Lib.hid h1
  have H2 := Lib.hid h2
  have H3 := Lib.hid h3
  clear hn hn' h1 h2 h3
  go_enter Try.func3, Try.ntmps3
  go_wp2_with (go_at_call 7; refine (anchor_calls _).mono ?_; rintro e w1 ⟨rfl, k1⟩)
  refine (store_calls a1 c1 sc w1 (H1.out.chg k1) (by have := HN.out; omega)).mono ?_
  rintro e w4 ⟨p, v, N, rfl, hr, hNl⟩
  obtain ⟨s, rfl, hsn, hsd, hst, hdis⟩ := hr.own.at_
  have hrow := hr.row
  rw [List.take_length] at hrow
  obtain ⟨av, cv, rfl, hnd⟩ := row_nodes hrow
  have hK4 : Kept (fun b => b < w.heap.size) w w4 := (k1.kept (fun _ h => h)).trans hr.kept (fun k hk => Nat.lt_of_lt_of_le hk k1.size)
  have hNb : N.length ≤ 150 := by have := HN.out; omega
  have hI2 : InI w4 a2 kn := by
    rcases H2.out with h | ⟨b, off, e1, e2, e3⟩
    · exact .inl h
    · exact .inr ⟨b, off, e1, Nat.lt_of_lt_of_le e2 hK4.size, fun i hi => (cell_eq (hK4.block b e2)).trans (e3 i hi)⟩
  have hI3 : InI w4 a3 mo := by
    rcases H3.out with h | ⟨b, off, e1, e2, e3⟩
    · exact .inl h
    · exact .inr ⟨b, off, e1, Nat.lt_of_lt_of_le e2 hK4.size, fun i hi => (cell_eq (hK4.block b e2)).trans (e3 i hi)⟩
  have hwf := hst.wf
  have hslt := fun k (hk : s.own k) => hst.own_lt hk
  have HE := Lib.hid (And.intro hst (And.intro hnd (And.intro hI2 (And.intro hI3 (And.intro hwf (And.intro hK4 hslt))))))
  have HSN := Lib.hid hsn
  have HNB := Lib.hid hNb
  clear hr hNl hst hsn hsd hdis hK4 hNb k1 H1 H2 H3 hrow hnd hI2 hI3 hwf hslt
  go_wp2_with (first
    | (at_builtin; refine wpList_app_ints _ rfl _ _ rfl w4 ((Chg.refl _ _).alloc _) [] kn kn rfl (by have := HN.out; omega) (.slice (some ⟨w4.heap.size, 0, none⟩) 0 0) rfl (empty_row heap_alloc_at (Nat.le_refl _)) a2 c2 rfl (HE.out.2.2.1.chg ((Chg.refl _ _).alloc _)) ?_; intro ao ca wA hownA hcA)
    | (go_at_call 9; refine (newmind_calls (HE.out.1.chg hcA (fun _ _ h => h)) (row_inI' hownA).1 (by have := HN.out; omega)).mono ?_; rintro e w5 ⟨q, rfl, hq, hqs, hqo, hc5, hk5⟩))
  rw [HSN.out] at hk5
  have hc45 := hcA.trans hc5 (fun _ _ h => h)
  have hqo' : ∀ b, q.own b → w4.heap.size ≤ b := fun b hb => Nat.le_trans hcA.size (hqo b hb)
  have HQ := Lib.hid (And.intro hq (And.intro hqs (And.intro hqo' (And.intro hc45 hk5))))
  clear hq hqs hqo hc5 hk5 hcA hownA hc45 hqo'
  have hk1 : Knows N (fun t => t ∈ kn) q := HQ.out.2.2.2.2.congr fun x hx => ⟨fun h => h.1, fun h => ⟨h, hx⟩⟩
  have HK1 := Lib.hid hk1
  have HWF := Lib.hid (show WF N by rw [← HSN.out]; exact HE.out.2.2.2.2.1)
  clear hk1
  refine (rcan_calls (HE.out.2.1.chg HQ.out.2.2.2.1) (HE.out.2.2.1.chg HQ.out.2.2.2.1) HWF.out (by have := HNB.out; omega) (by have := HN.out; omega)).mono ?_
  rintro e w6 ⟨g1, C1, rfl, hB1, _, hc6, hl6, he6⟩
  have hlike := like_calls (HQ.out.1.chg hc6 (fun _ _ h => h)) HK1.out HWF.out (by have := HNB.out; omega) hB1 hl6 he6
  have HL1 := Lib.hid hlike
  have HC6 := Lib.hid hc6
  clear hlike hB1 hc6 hl6 he6 HK1
  go_wp2_with fail
  refine HL1.out.mono ?_
  rintro e w7 ⟨rfl, hc7⟩
  have hc47 := (HQ.out.2.2.2.1.trans HC6.out (fun _ _ h => h)).trans hc7 (fun _ _ h => h)
  have hq7 := HQ.out.1.chg (HC6.out.trans hc7 (fun _ _ h => h)) (fun _ _ h => h)
  have HQ7 := Lib.hid (And.intro hq7 hc47)
  clear hq7 hc47 hc7 HL1 HC6
  go_upto_region 13 with (first
    | (at_builtin; refine wpList_app_ints _ rfl _ _ rfl w7 ((Chg.refl _ _).alloc _) [] mo mo rfl (by have := HN.out; omega) (.slice (some ⟨w7.heap.size, 0, none⟩) 0 0) rfl (empty_row heap_alloc_at (Nat.le_refl _)) a3 c3 rfl ((HE.out.2.2.2.1.chg HQ7.out.2).chg ((Chg.refl _ _).alloc _)) ?_; intro ao2 ca2 wB hownB hcB)
    | (go_at_call 12; refine (learn_knows (HQ7.out.1.chg hcB (fun _ _ h => h)) ((HE.out.1.chg HQ7.out.2 (fun _ _ h => h)).chg hcB (fun _ _ h => h)) HQ.out.2.1 (fun k hk hs => by have := HQ.out.2.2.1 k hk; have := HE.out.2.2.2.2.2.2 k hs; omega) (row_inI' hownB).1 (fun _ b off e hq => by have := (row_inI' hownB).2 b off e; have := HQ7.out.1.own_lt hq; omega) (by have := HN.out; omega) HQ.out.2.2.2.2 HWF.out (by rw [HSN.out]; exact List.prefix_refl _) (fun t h => h.2)).mono ?_; rintro e w8 ⟨rfl, q2, hq2, hp2, hs2, ho2, hc8, hk8⟩))
  rw [HSN.out] at hk8
  have hc48 : Chg none_ w4 w8 := (HQ7.out.2.trans hcB (fun _ _ h => h)).trans hc8 (fun k hk h => by have := HQ.out.2.2.1 k h; omega)
  have hk2 : Knows N (fun t => t ∈ kn ++ mo) q2 := hk8.congr fun x hx => ⟨fun h => h.elim (fun h => List.mem_append_left _ h.1) (fun h => List.mem_append_right _ h), fun h => (List.mem_append.1 h).elim (fun h => .inl ⟨h, hx⟩) .inr⟩
  have hptr : q.ptr = q2.ptr := by rw [Mind.ptr, Mind.ptr, hp2]
  have HQ8 := Lib.hid (And.intro hq2 (And.intro hc48 hk2))
  rw [hptr]
  obtain ⟨L, hL⟩ : ∃ L, kn ++ mo = L := ⟨_, rfl⟩
  have hLn : L.length ≤ 200 := by rw [← hL, List.length_append]; have := HN.out; omega
  have HLN := Lib.hid (And.intro hL hLn)
  clear hk8 hc48 hk2 hptr hc8 hcB hownB hq2 hs2 ho2 hp2 hL hLn
  go_upto_region 14 with (first
    | (at_builtin; refine wpList_app_ints _ rfl (.tmp 51) _ rfl w8 ((Chg.refl _ _).alloc _) [] kn kn rfl (by have := HN.out; omega) (.slice (some ⟨w8.heap.size, 0, none⟩) 0 0) rfl (empty_row heap_alloc_at (Nat.le_refl _)) a2 c2 rfl ((HE.out.2.2.1.chg HQ8.out.2.1).chg ((Chg.refl _ _).alloc _)) ?_; intro ao3 ca3 wC hownC hcC)
    | (at_builtin; refine wpList_app_ints _ rfl (.tmp 53) _ rfl w8 hcC kn mo L HLN.out.1 (by have := HLN.out; omega) _ rfl hownC a3 c3 rfl ((HE.out.2.2.2.1.chg HQ8.out.2.1).chg hcC) ?_; intro ao4 ca4 wD hownD hcD))
  have hc4D := HQ8.out.2.1.trans hcD (fun _ _ h => h)
  have hID := (row_inI' hownD).1
  have hqD := HQ8.out.1.chg hcD (fun _ _ h => h)
  have hkL := HQ8.out.2.2
  rw [HLN.out.1] at hkL
  have HD := Lib.hid (And.intro hc4D (And.intro hID (And.intro hqD hkL)))
  clear hc4D hID hqD hkL hownC hcC hownD hcD
  go_wp2_with fail
  refine (rcan_calls (HE.out.2.1.chg HD.out.1) HD.out.2.1 HWF.out (by have := HNB.out; omega) (by have := HLN.out; omega)).mono ?_
  rintro e x1 ⟨g2, C2, rfl, hB2, _, hc1', hl2, he2⟩
  have hlike := like_calls (HD.out.2.2.1.chg hc1' (fun _ _ h => h)) HD.out.2.2.2 HWF.out (by have := HNB.out; omega) hB2 hl2 he2
  have HL2 := Lib.hid hlike
  have HX1 := Lib.hid (HD.out.1.trans hc1' (fun _ _ h => h))
  have HI1 := Lib.hid (HD.out.2.1.chg hc1')
  clear hlike hB2 hc1' hl2 he2
  go_wp2_with fail
  refine HL2.out.mono ?_
  rintro e x2 ⟨rfl, hc2'⟩
  have HX2 := Lib.hid (HX1.out.trans hc2' (fun _ _ h => h))
  have HI2 := Lib.hid (HI1.out.chg hc2')
  clear hc2' HX1 HI1 HL2
  go_wp2_with fail
  refine (newmind_calls (HE.out.1.chg HX2.out (fun _ _ h => h)) HI2.out (by have := HLN.out; omega)).mono ?_
  rintro e x3 ⟨q3, rfl, hq3, _, _, hc3', hk3⟩
  rw [HSN.out] at hk3
  have HQ3 := Lib.hid (And.intro hq3 (show Knows N (fun t => t ∈ L) q3 from hk3.congr fun x hx => ⟨fun h => h.1, fun h => ⟨h, hx⟩⟩))
  have HX3 := Lib.hid (HX2.out.trans hc3' (fun _ _ h => h))
  have HI3 := Lib.hid (HI2.out.chg hc3')
  clear hq3 hc3' hk3 HX2 HI2
  go_wp2_with fail
  refine (rcan_calls (HE.out.2.1.chg HX3.out) HI3.out HWF.out (by have := HNB.out; omega) (by have := HLN.out; omega)).mono ?_
  rintro e x4 ⟨g3, C3, rfl, hB3, _, hc4', hl3, he3⟩
  have hlike := like_calls (HQ3.out.1.chg hc4' (fun _ _ h => h)) HQ3.out.2 HWF.out (by have := HNB.out; omega) hB3 hl3 he3
  have HL3 := Lib.hid hlike
  have HX4 := Lib.hid (HX3.out.trans hc4' (fun _ _ h => h))
  clear hlike hB3 hc4' hl3 he3 HX3 HI3
  go_wp2_with fail
  refine HL3.out.mono ?_
  rintro e x5 ⟨rfl, hc5'⟩
  have hfin : Below w.heap.size w x5 := (HE.out.2.2.2.2.2.1.trans ((HX4.out.trans hc5' (fun _ _ h => h)).kept (X := fun b => b < w.heap.size) (fun b hb => Nat.lt_of_lt_of_le hb HE.out.2.2.2.2.2.1.size)) (fun _ h => h)).below (fun b hb => hb)
  have HF := Lib.hid hfin
  clear hfin hc5'
  go_wp2
  go_ret
  exact ⟨rfl, HF.out⟩

theorem derives_row (a1 : Option Addr) (c1 : Nat) (sc : List Nd) (a2 : Option Addr) (c2 : Nat) (kn : List Int) (a3 : Option Addr) (c3 : Nat) (mo : List Int) (w : World) (h1 : InNodes w a1 sc) (hl1 : sc.length ≤ maxLen) (h2 : InInts w a2 kn) (hl2 : kn.length ≤ maxLen) (h3 : InInts w a3 mo) (hl3 : mo.length ≤ maxLen) :
    Calls Try.prog 3 #[.slice a1 sc.length c1, .slice a2 kn.length c2, .slice a3 mo.length c3] w fun e w' => e = .returned (.bool true) ∧ Below w.heap.size w w' :=
  derives_walk a1 c1 sc a2 c2 kn a3 c3 mo w h1 h2.toI h3.toI hl1 hl2 hl3

end Go.Proofs.Ytmdfhaihbaiegaa
