/- 'YaoChains' returns true. -/
import Derived.Test.YtmdfhaihbaiegaaYaoLater
import Derived.Test.YtmdfhaihbaiegaaPureYao3
import Derived.Deep.RegionLaw
set_option linter.unusedVariables false
set_option linter.unusedSimpArgs false
namespace Go.Proofs.Ytmdfhaihbaiegaa
open Go.RowKit

/-- A row of ints that grows beside a store that grows. -/
structure GRow (X : Nat → Prop) (W : World) (p : Nat) (N : List Nd) (d : Int) (v : Value) (D : List Int) (wr : World) : Prop where
  own : Own (fun b => X b ∨ v.ownBlock = some b) wr p N d
  row : wr.ownsRow W.heap.size 3 1 v D.length (D.map (Value.int .i64))
  kept : Kept X W wr
  lt : ∀ b, X b → b < W.heap.size

theorem GRow.step {X : Nat → Prop} {W : World} {p : Nat} {v : Value} {D : List Int} {wr w5 w6 : World} {N N' : List Nd} {d d' : Int} {T : Int} {o1 : Obj} {g c n : Nat} (h : GRow X W p N d v D wr)
    (OC : Own (fun b => X b ∨ v.ownBlock = some b) w5 p N' d') (KC : Kept (fun b => X b ∨ v.ownBlock = some b) wr w5)
    (hown : w6.ownsRow W.heap.size 3 1 (.slice (some ⟨g, 0, none⟩) n c) (D.length + 1) (D.map (Value.int .i64) ++ [.int .i64 T])) (hg : (w5.alloc o1).grownBy w6 v.ownBlock) (hat : v.ownBlock = some g ∨ g = w5.heap.size + 1) (hlt : g < w6.heap.size) : GRow X W p N' d' (.slice (some ⟨g, 0, none⟩) n c) (D ++ [T]) w6 := by
  have hc : Chg (fun k => v.ownBlock = some k) (w5.alloc o1) w6 := ⟨hg.os, hg.tape, hg.output, hg.size, fun k hk hn => hg.block k hk (fun e => hn e.symm)⟩
  have hsz := hc.size
  simp only [World.size_alloc] at hsz
  have h1 := (OC.alloc o1).chg hc (fun b hb => .inl (.inr hb))
  refine ⟨?_, by simpa using hown, ?_, h.lt⟩
  · refine h1.mono fun b hb => ?_
    rcases hb with hb | hb
    · exact .inl (.inl (.inl hb))
    · simp [Value.ownBlock] at hb
      subst hb
      rcases hat with h | h
      · exact .inl (.inl (.inr h))
      · exact .inr ⟨by simp; omega, hlt⟩
  · have k1 : Kept X W w5 := h.kept.trans KC fun b hb => .inl hb
    have k2 := k1.alloc (fun b hb => OC.lt b (.inl hb)) o1
    refine k2.trans (Y := X) ⟨hc.os, hc.tape, hc.output, hc.size, fun b hb => hc.block b ?_ ?_⟩ (fun _ h => h)
    · have := OC.lt b (.inl hb); simp; omega
    · intro e; have h2 := (h.row.lt b e).1; have := h.lt b hb; omega

theorem GRow.form {X : Nat → Prop} {W wr : World} {p : Nat} {N : List Nd} {d : Int} {v : Value} {D : List Int} (h : GRow X W p N d v D wr) : ∃ a c, v = .slice a D.length c := by
  rcases h.row.2 with ⟨hv, hz⟩ | ⟨g, cap2, cur, hv, _⟩
  · exact ⟨none, 0, by rw [hv, hz]⟩
  · exact ⟨_, _, hv⟩

def CRel1 (X : Nat → Prop) (W : World) (p n : Nat) (i v : Value) (wr : World) : Prop :=
  ∃ (k : Nat) (N : List Nd) (D : List Int), k ≤ n + 1 ∧ i = .int .i64 k ∧ GRow X W p N k v D wr ∧ Chn N D [] ∧ D.length = k ∧ N.length ≤ k

def CRel2 (X : Nat → Prop) (W : World) (p n : Nat) (D : List Int) (d : Int) (i v : Value) (wr : World) : Prop :=
  ∃ (k : Nat) (N : List Nd) (E : List Int), k ≤ n ∧ i = .int .i64 k ∧ GRow X W p N d v E wr ∧ Chn N D E ∧ E.length = k ∧ N.length ≤ n + 1 + 2 * k

theorem fresh_right {N : List Nd} {k : Nat} (hk : k ≤ 1000) : rightB N (freshN k) = true := by
  unfold rightB
  rw [if_pos (show (freshN k).kind = 1 from rfl)]
  have e : (ByteArray.empty).toList = [] := by rw [ByteArray.toList_eq]; rfl
  rw [show (freshN (k : Int)).a = (k : Int) + 1 from rfl, show (freshN (k : Int)).b = 0 from rfl, show (freshN (k : Int)).label = ByteArray.empty from rfl, e]
  simp
  omega

theorem freshD_of {N : List Nd} {d : Int} (h : mkT N (freshN d) ≠ 0) : freshD N d = d + 1 := by unfold freshD; rw [if_neg h]

theorem chg_grown {w5 A wa : World} {b : Option Nat} (h : Chg none_ w5 A) (hg : A.grownBy wa b) (hb : ∀ k, b = some k → w5.heap.size ≤ k) : Chg none_ w5 wa :=
  ⟨hg.os.trans h.os, hg.tape.trans h.tape, hg.output.trans h.output, Nat.le_trans h.size hg.size, fun k hk hn => (hg.block k (Nat.lt_of_lt_of_le hk h.size) (fun e => by have := hb k e.symm; omega)).trans (h.block k hk hn)⟩

theorem empty_row {A : World} {base b0 : Nat} (h : A.heap[b0]? = some (.cells #[] 3 (0, 0))) (hb : base ≤ b0) : A.ownsRow base 3 1 (.slice (some ⟨b0, 0, none⟩) 0 0) 0 [] :=
  ⟨rfl, .inr ⟨b0, 0, #[], rfl, hb, h, Nat.le_refl _, Nat.zero_le _, rfl, rfl⟩⟩

theorem news_ints {w5 A : World} {be oe : Nat} {E : List Int} (hc : Chg none_ w5 A) (hb : be < w5.heap.size) (h : ∀ i (h : i < E.length), w5.cell? ⟨be, oe + i, none⟩ = some (.int .i64 E[i])) : ∀ j u, (E.map (Value.int .i64))[j]? = some u → A.cell? ((⟨be, oe, none⟩ : Addr).add j) = some u := by
  intro j u hj
  rw [List.getElem?_map] at hj
  rcases Nat.lt_or_ge j E.length with h1 | h1
  · rw [List.getElem?_eq_getElem h1] at hj
    simp at hj
    subst hj
    rw [show (⟨be, oe, none⟩ : Addr).add j = ⟨be, oe + j, none⟩ by unfold Addr.add; split <;> simp_all]
    exact (cell_eq (hc.block be hb (fun h => h))).trans (h j h1)
  · rw [List.getElem?_eq_none h1] at hj; simp at hj

theorem one_ints (E : List Int) : ∀ u ∈ E.map (Value.int .i64), u.oneCell' = true := by
  intro u hu
  obtain ⟨z, _, rfl⟩ := List.mem_map.1 hu
  rfl

theorem row_inI {w : World} {base g n c : Nat} {D : List Int} (h : w.ownsRow base 3 1 (.slice (some ⟨g, 0, none⟩) n c) n (D.map (Value.int .i64))) (hn : n = D.length) : InI w (some ⟨g, 0, none⟩) D := by
  subst hn
  by_cases hD : D = []
  · exact .inl hD
  · refine .inr ⟨g, 0, rfl, own_block_lt h rfl, fun i hi => ?_⟩
    obtain ⟨g', c', hv, _, hc⟩ := row_cellI h hi
    simp only [Value.slice.injEq, Option.some.injEq, Addr.mk.injEq] at hv
    obtain ⟨⟨rfl, _⟩, _⟩ := hv
    rw [Nat.zero_add]
    exact hc

set_option maxRecDepth 100000 in
set_option maxHeartbeats 8000000 in
theorem chains_walk (n f : Int) (w : World) (hwn : (Lit.int .i64 n).wf = true) (hwf : (Lit.int .i64 f).wf = true) :
    Calls Try.prog 5 #[.int .i64 n, .int .i64 f] w fun e w' => e = .returned (.bool true) ∧ Below w.heap.size w w' := by
  clear hwn hwf
  by_cases hn : ¬ (1 ≤ n ∧ n ≤ 60 ∧ 0 ≤ f ∧ f ≤ n)
  · have HN := Lib.hid hn
    clear hn
    by_cases t1 : n < 1
    · have b1 : decide (n < 1) = true := by simpa using t1
      clear t1
      go_enter Try.func5, Try.ntmps5
      go_wp2_with (go_at_call 7; refine (anchor_calls _).mono ?_; rintro e w1 ⟨rfl, c1⟩)
      go_ret
      exact ⟨rfl, c1.below (Nat.le_refl _) (fun _ _ h => h)⟩
    have b1 : decide (n < 1) = false := by simpa using t1
    by_cases t2 : 60 < n
    · have b2 : decide (60 < n) = true := by simpa using t2
      clear t1 t2
      go_enter Try.func5, Try.ntmps5
      go_wp2_with (go_at_call 7; refine (anchor_calls _).mono ?_; rintro e w1 ⟨rfl, c1⟩)
      go_ret
      exact ⟨rfl, c1.below (Nat.le_refl _) (fun _ _ h => h)⟩
    have b2 : decide (60 < n) = false := by simpa using t2
    by_cases t3 : f < 0
    · have b3 : decide (f < 0) = true := by simpa using t3
      clear t1 t2 t3
      go_enter Try.func5, Try.ntmps5
      go_wp2_with (go_at_call 7; refine (anchor_calls _).mono ?_; rintro e w1 ⟨rfl, c1⟩)
      go_ret
      exact ⟨rfl, c1.below (Nat.le_refl _) (fun _ _ h => h)⟩
    have b3 : decide (f < 0) = false := by simpa using t3
    have b4 : decide (n < f) = true := by have := HN.out; simp; omega
    clear t1 t2 t3
    go_enter Try.func5, Try.ntmps5
    go_wp2_with (go_at_call 7; refine (anchor_calls _).mono ?_; rintro e w1 ⟨rfl, c1⟩)
    go_ret
    exact ⟨rfl, c1.below (Nat.le_refl _) (fun _ _ h => h)⟩
  have hn' : 1 ≤ n ∧ n ≤ 60 ∧ 0 ≤ f ∧ f ≤ n := Classical.not_not.1 hn
  clear hn
  obtain ⟨m, rfl⟩ : ∃ m : Nat, n = m := ⟨n.toNat, by omega⟩
  obtain ⟨fr, rfl⟩ : ∃ fr : Nat, f = fr := ⟨f.toNat, by omega⟩
  have b1 : decide ((m : Int) < 1) = false := by simp; omega
  have b2 : decide (60 < (m : Int)) = false := by simp; omega
  have b3 : decide ((fr : Int) < 0) = false := by simp
  have b4 : decide (m < fr) = false := by simp; omega
  have HM := Lib.hid (show 1 ≤ m ∧ m ≤ 60 ∧ fr ≤ m by omega)
  have hmb : (m : Int) ≤ 60 := by omega
  clear hn'
  go_enter Try.func5, Try.ntmps5
  go_wp2_with (first
    | (go_at_call 7; refine (anchor_calls _).mono ?_; rintro e w1 ⟨rfl, k1⟩)
    | (go_at_call 18; refine (new_own _).mono ?_; rintro e w2 ⟨p, rfl, O0, K0⟩))
  have hO : Own (fun b => b < w.heap.size) w2 p [] 0 := O0.mono fun k hk => Nat.lt_of_lt_of_le hk k1.size
  have hK : Kept (fun b => b < w.heap.size) w w2 := (k1.kept (fun _ h => h)).trans (K0.kept (X := fun b => b < w1.heap.size) (fun _ h => h)) (fun k hk => Nat.lt_of_lt_of_le hk k1.size)
  have HO := Lib.hid hO
  have HK := Lib.hid hK
  clear O0 K0 k1 hO hK
  go_loopw [8, 6] (fun i v wr => CRel1 (fun b => b < w.heap.size) w2 p m i v wr) (fun i _ _ => m + 2 - (intOf i).toNat)
  case atStart => exact ⟨0, [], [], Nat.zero_le _, rfl, ⟨HO.out.mono (fun b hb => by simpa [Value.ownBlock] using hb), World.ownsRow_nil _ _ _ _, Kept.refl _ _, HO.out.lt⟩, Chn.start, rfl, Nat.le_refl _⟩
  case round =>
    obtain ⟨k, N, D, hk, rfl, hG, hC, hD, hN⟩ := hrel
    obtain ⟨av, cv, rfl⟩ := hG.form
    have hkb : (k : Int) ≤ 61 := by omega
    have HG := Lib.hid hG
    have HC := Lib.hid (And.intro hC (And.intro hD hN))
    clear hG hC hD hN
    by_cases hlt : k ≤ m
    · have b5 : decide (k ≤ m) = true := by simp; omega
      obtain ⟨a1, a2, a3, a4, a5⟩ := mk_good (N := N) (fresh_right (k := k) (by omega)) (by have := HC.out.2.2; omega)
      have hT0 : mkT N (freshN k) ≠ 0 := by have := (knownB_iff.1 a1).1; omega
      have hfr := HG.out.own.fresh
      rw [freshD_of hT0] at hfr
      have HCN := Lib.hid (HC.out.1.secret (N' := mkL N (freshN k)) (t := mkT N (freshN k)) a4 a1 (by rw [a2, HC.out.2.1]) a5)
      have HL := Lib.hid a3
      generalize mkT N (freshN k) = T at *
      generalize mkL N (freshN k) = N' at *
      have HF := Lib.hid hfr
      clear hfr a1 a2 a3 a4 a5 hT0
      obtain ⟨i0, hi, hz0, hz1, hz2⟩ := info_parts infoInt
      have HI := Lib.hid (And.intro hi (And.intro hz0 (And.intro hz1 hz2)))
      clear hi hz0 hz1 hz2
      go_wp2_with (first
        | (go_at_call 19; refine HF.out.mono ?_; rintro e w5 ⟨rfl, OC, KC⟩)
        | (at_builtin; refine wpList_append_lies _ rfl _ _ _ rfl w2.heap.size 3 i0 _ 1 8 Try.underlying23 HI.out.1 HI.out.2.1 HI.out.2.2.1 HI.out.2.2.2 rfl (by decide) (.slice av D.length cv) D.length (D.map (Value.int .i64)) rfl ?c1 ⟨w5.heap.size, 0, none⟩ 1 1 [.int .i64 T] rfl rfl ?c2 (by simp [Value.oneCell']) (by decide) ?c3 ?c4 ?c5 _ rfl ?_))
      case c1 => exact (KC.row HG.out.row (fun b hb => .inr hb)).alloc _
      case c2 => exact World.news_of_block heap_alloc_at
      case c3 => have := HC.out.2.1; unfold maxLen; omega
      case c4 => have := HC.out.2.1; omega
      case c5 => have := HG.out.kept.size; have := KC.size; simp; omega
      intro g cap3 w6 hown6 hg6 hat6 hlt6
      go_wp2
      refine ⟨⟨k + 1, N', D ++ [T], by omega, by go_num, ?_, HCN.out, by simp [HC.out.2.1], by have := HL.out; have := HC.out.2.2; omega⟩, by simp [intOf]; omega⟩
      exact HG.out.step OC KC hown6 hg6 (by simpa using hat6) hlt6
    · have hke : k = m + 1 := by omega
      subst hke
      have b5 : decide (m + 1 ≤ m) = false := by simp
      clear hlt hk hkb
      obtain ⟨wB, rfl⟩ : ∃ x, x = wr := ⟨_, rfl⟩
      have hX : ∃ X : Nat → Prop, (∀ b, (b < w.heap.size ∨ (Value.slice av D.length cv).ownBlock = some b) → X b) ∧ (∀ b, X b → b < w.heap.size ∨ (Value.slice av D.length cv).ownBlock = some b) := ⟨_, fun b h => h, fun b h => h⟩
      obtain ⟨X, hX1, hX2⟩ := hX
      have hO2 : Own X wB p N ((m + 1 : Nat) : Int) := HG.out.own.mono hX2
      have HO2 := Lib.hid hO2
      have HX := Lib.hid (And.intro hX1 hX2)
      clear hX1 hX2 hO2
      go_wp2
      go_loopw [9, 7] (fun i v wr => CRel2 X wB p m D ((m + 1 : Nat) : Int) i v wr) (fun i _ _ => m + 1 - (intOf i).toNat)
      case atStart => exact ⟨0, N, [], Nat.zero_le _, rfl, ⟨HO2.out.mono (fun b hb => by simpa [Value.ownBlock] using hb), World.ownsRow_nil _ _ _ _, Kept.refl _ _, HO2.out.lt⟩, HC.out.1, rfl, by have := HC.out.2.2; omega⟩
      case round =>
        obtain ⟨k, N2, E, hk, rfl, hG2, hC2, hE, hN2⟩ := hrel
        obtain ⟨ae, ce, rfl⟩ := hG2.form
        have hkb : (k : Int) ≤ 60 := by omega
        have hrow := hG2.kept.row HG.out.row (fun b hb => HX.out.1 b (.inr hb))
        have HG2 := Lib.hid hG2
        have HC2 := Lib.hid (And.intro hC2 (And.intro hE hN2))
        have HROW := Lib.hid hrow
        clear hG2 hC2 hE hN2 hrow
        by_cases hlt : k < m
        · have b6 : decide (k < m) = true := by simpa using hlt
          have hDl : D.length = m + 1 := HC.out.2.1
          obtain ⟨gs, cs, hv, hgl, e0⟩ := row_cellI HROW.out (k := k) (by omega)
          obtain ⟨gs', cs', hv', _, e1⟩ := row_cellI HROW.out (k := k + 1) (by omega)
          injection hv with hv1 _ hv3
          subst hv1
          subst hv3
          injection hv' with hv1 _ hv3
          injection hv1 with hv1
          injection hv1 with hv1
          subst hv1
          clear hv3
          have s0 := HC2.out.1.sec k (by omega)
          have s1 := HC2.out.1.sec (k + 1) (by omega)
          have d0 : D[k]? = some D[k] := List.getElem?_eq_getElem (by omega)
          have d1 : D[k + 1]? = some D[k + 1] := List.getElem?_eq_getElem (by omega)
          have dm : D[k] ∈ D := List.getElem_mem (by omega)
          generalize D[k] = x0 at *
          generalize D[k + 1] = x1 at *
          obtain ⟨a1, a2, a3, a4, a5⟩ := mk_good (N := N2) (right_pub s0.1) (by have := HC2.out.2.2; omega)
          have g1 := HC2.out.1.grow a4 (fun y hy => (a5 y hy).imp id fun e => ⟨x0, dm, by rw [e, a2]⟩)
          have hpu := HG2.out.own.drew.pub x0
          have hN1 : (mkL N2 ⟨6, ByteArray.empty, x0, 0⟩).length < 262144 := by have := HC2.out.2.2; omega
          generalize mkT N2 ⟨6, ByteArray.empty, x0, 0⟩ = P at *
          generalize mkL N2 ⟨6, ByteArray.empty, x0, 0⟩ = N3 at *
          obtain ⟨q1, q2, q3, q4, q5⟩ := mk_good (N := N3) (right_box a1 (known_up a4 s1.1) (by rw [a2])) hN1
          have g2 := g1.next q4 q1 q2 (by rw [HC2.out.2.1]; exact d0) (by rw [HC2.out.2.1]; exact d1) a1 a2 q5
          have HCN := Lib.hid (And.intro g2 (Nat.le_trans q3 (Nat.succ_le_succ a3)))
          have hbx := fun (w' : World) (h : Own (fun b => X b ∨ (Value.slice ae E.length ce).ownBlock = some b) w' p N3 ((m + 1 : Nat) : Int)) => h.box P x1
          generalize mkT N3 ⟨8, ByteArray.empty, P, x1⟩ = T at *
          generalize mkL N3 ⟨8, ByteArray.empty, P, x1⟩ = N4 at *
          have HPU := Lib.hid hpu
          have HBX := Lib.hid hbx
          clear a1 a2 a3 a4 a5 g1 g2 hpu hN1 q1 q2 q3 q4 q5 hbx s0 s1 d0 d1 dm
          have hgX : X gs := HX.out.1 gs (.inr rfl)
          obtain ⟨i0, hi, hz0, hz1, hz2⟩ := info_parts infoInt
          have HI := Lib.hid (And.intro hi (And.intro hz0 (And.intro hz1 hz2)))
          clear hi hz0 hz1 hz2
          have hx1 : (0 : Int) ≤ (k : Int) + 1 := by omega
          have hx2 : (k : Int) + 1 < (D.length : Int) := by omega
          have hx3 : ((k : Int) + 1).toNat = k + 1 := by omega
          have hx4 : k < D.length := by omega
          have hx5 : k + 1 < D.length := by omega
          have hx6 : IntKind.i64.wrap ((k : Int) + 1) = (k : Int) + 1 := by rw [IntKind.wrap_i64]; omega
          clear hDl
          go_wp2
          refine Mix.wp_region_mix (fun w' => w'.cell? ⟨gs, k + 1, none⟩ = some (.int .i64 x1)) (fun i => [0, 0, 0, 0, 0, 24, 56, 124, 0, 0, 512, 1792, 3840, 8190, 16382, 32767, 65535].getD i 0) (fun i => [1, 1, 2, 2, 2, 2, 2, 0, 1, 1, 1, 1, 1, 0, 0, 3, 2].getD i 0) (by kernel_rfl) ⟨by kernel_rfl, by kernel_rfl, by kernel_rfl, by kernel_rfl, by kernel_rfl⟩ e1 ?_; simp only [Mix.whole, List.getD_cons_zero, List.getD_cons_succ, Nat.reduceAdd]
          repeat (first | (refine Mix.pin_no rfl rfl (fun K hK => ?_); go_step; refine hK _ ?_; clear hK K) | (refine Mix.soft_no rfl rfl ?_; apply Exists.intro; refine ⟨fun w' hS => ?_, fun K hK => ?_⟩; (first | (go_simp; done) | (go_simp; exact rfl)); simp only [List.setIfInBounds_toArray, List.set_cons_zero, List.set_cons_succ]; refine hK _ ?_; clear hK K) | (refine Mix.pin_not rfl rfl rfl rfl (fun K hK => ?_); simp only [List.setIfInBounds_toArray, List.set_cons_zero, List.set_cons_succ]; refine hK _ ?_; clear hK K) | (refine Mix.soft_not rfl rfl rfl rfl (fun K hK => ?_); simp only [List.setIfInBounds_toArray, List.set_cons_zero, List.set_cons_succ]; refine hK _ ?_; clear hK K) | (refine Mix.pin_yes rfl rfl rfl rfl (fun K hK => ?_); go_step; refine hK _ ?_; clear hK K) | (refine Mix.soft_yes rfl rfl rfl rfl ?_; apply Exists.intro; refine ⟨fun w' hS => ?_, fun K hK => ?_⟩; (first | (go_simp; done) | (go_simp; exact rfl)); simp only [List.setIfInBounds_toArray, List.set_cons_zero, List.set_cons_succ]; refine hK _ ?_; clear hK K))
          refine Mix.hard_no rfl (fun K hK => ?_)
          go_step
          refine HPU.out.mono ?_
          rintro e w4 ⟨rfl, O1, K1⟩
          dsimp only
          have f1 := (cell_eq (i := k + 1) (K1.block gs (.inl hgX))).trans e1
          refine hK _ _ ⟨f1, ?_⟩
          clear hK K
          (try simp only [Act.put, List.setIfInBounds_toArray, List.set_cons_zero, List.set_cons_succ])
          repeat (first | (refine Mix.pin_no rfl rfl (fun K hK => ?_); go_step; refine hK _ ?_; clear hK K) | (refine Mix.soft_no rfl rfl ?_; apply Exists.intro; refine ⟨fun w' hS => ?_, fun K hK => ?_⟩; (first | (go_simp; done) | (go_simp; exact rfl)); simp only [List.setIfInBounds_toArray, List.set_cons_zero, List.set_cons_succ]; refine hK _ ?_; clear hK K) | (refine Mix.pin_not rfl rfl rfl rfl (fun K hK => ?_); simp only [List.setIfInBounds_toArray, List.set_cons_zero, List.set_cons_succ]; refine hK _ ?_; clear hK K) | (refine Mix.soft_not rfl rfl rfl rfl (fun K hK => ?_); simp only [List.setIfInBounds_toArray, List.set_cons_zero, List.set_cons_succ]; refine hK _ ?_; clear hK K) | (refine Mix.pin_yes rfl rfl rfl rfl (fun K hK => ?_); go_step; refine hK _ ?_; clear hK K) | (refine Mix.soft_yes rfl rfl rfl rfl ?_; apply Exists.intro; refine ⟨fun w' hS => ?_, fun K hK => ?_⟩; (first | (go_simp; done) | (go_simp; exact rfl)); simp only [List.setIfInBounds_toArray, List.set_cons_zero, List.set_cons_succ]; refine hK _ ?_; clear hK K))
          refine Mix.hard_no rfl (fun K hK => ?_)
          go_step
          refine (HBX.out _ O1).mono ?_
          rintro e w5 ⟨rfl, O2, K2⟩
          dsimp only
          have f2 := (cell_eq (i := k + 1) (K2.block gs (.inl hgX))).trans f1
          refine hK _ _ ⟨f2, ?_⟩
          clear hK K hx6
          (try simp only [Act.put, List.setIfInBounds_toArray, List.set_cons_zero, List.set_cons_succ])
          refine Mix.hard_no rfl (fun K hK => ?_)
          go_step
          refine hK _ _ ⟨(cell_eq (heap_alloc_lt (by have := K1.size; have := K2.size; simp only [World.size_drew] at *; omega))).trans f2, ?_⟩
          clear hK K
          (try simp only [Act.put, List.setIfInBounds_toArray, List.set_cons_zero, List.set_cons_succ])
          refine Mix.last_no rfl (fun K hK => ?_)
          refine wp_append_lies _ (.tmp 49) (.tmp 63) 23 (by rfl) wB.heap.size 3 i0 _ 1 8 Try.underlying23 HI.out.1 HI.out.2.1 HI.out.2.2.1 HI.out.2.2.2 rfl (by decide) (.slice ae E.length ce) E.length (E.map (Value.int .i64)) (by rfl) ?c1 ⟨w5.heap.size, 0, none⟩ 1 1 [.int .i64 T] (by rfl) rfl (World.news_of_block heap_alloc_at) (by simp [Value.oneCell']) (by decide) ?c3 ?c4 ?c5 _ (by rfl) ?_
          case c1 => exact (K2.row (K1.row HG2.out.row (fun b hb => .inr hb)) (fun b hb => .inr hb)).alloc _
          case c3 => have := HC2.out.2.1; unfold maxLen; omega
          case c4 => have := HC2.out.2.1; omega
          case c5 => have := HG2.out.kept.size; have := K1.size; have := K2.size; simp at *; omega
          intro g cap3 w6 hown6 hg6 hat6 hlt6
          refine hK _ _ ?_
          clear hK K
          (try simp only [Act.put, List.setIfInBounds_toArray, List.set_cons_zero, List.set_cons_succ])
          repeat (first | (refine Mix.pin_no rfl rfl (fun K hK => ?_); go_step; refine hK _ ?_; clear hK K) | (refine Mix.pin_not rfl rfl rfl rfl (fun K hK => ?_); simp only [List.setIfInBounds_toArray, List.set_cons_zero, List.set_cons_succ]; refine hK _ ?_; clear hK K) | (refine Mix.pin_yes rfl rfl rfl rfl (fun K hK => ?_); go_step; refine hK _ ?_; clear hK K))
          refine Mix.walk_nil ?_
          (try simp only [Act.put, List.setIfInBounds_toArray, List.set_cons_zero, List.set_cons_succ])
          clear e0 e1 f1 f2 hx1 hx2 hx3 hx4 hx5
          go_wp2
          refine ⟨?_, by simp [intOf]; omega⟩
          repeat apply Exists.intro
          refine ⟨?_, rfl⟩
          refine ⟨k + 1, N4, E ++ [T], by omega, by go_num, ?_, HCN.out.1, by simp [HC2.out.2.1], by have := HCN.out.2; have := HC2.out.2.2; omega⟩
          exact HG2.out.step O2 ⟨K2.os.trans K1.os, K2.tape.trans K1.tape, K2.output.trans K1.output, Nat.le_trans K1.size K2.size, fun b hb => (K2.block b hb).trans (K1.block b hb)⟩ hown6 hg6 (by simpa using hat6) hlt6
        · have hke : m = k := by omega
          subst hke
          have b6 : decide (m < m) = false := by simp
          have hD1 : D.length = m + 1 := HC.out.2.1
          have hfl : fr < D.length := by have := HM.out; omega
          obtain ⟨gs, cs, hv, hgl, e0⟩ := row_cellI HROW.out (k := fr) hfl
          injection hv with hv1 _ hv3
          subst hv1
          subst hv3
          obtain ⟨wD, rfl⟩ : ∃ x, x = wr := ⟨_, rfl⟩
          obtain ⟨s, rfl, hsn, _, hst, hdis⟩ := HG2.out.own.at_
          have hinE : InI wD ae E := by
            rcases HG2.out.row.2 with ⟨hv, hz⟩ | ⟨g, cap, cur, hv, _, hg, _⟩
            · exact .inl (List.eq_nil_of_length_eq_zero hz)
            · simp only [Value.slice.injEq] at hv
              obtain ⟨rfl, _, rfl⟩ := hv
              refine .inr ⟨g, 0, rfl, lt_of_heap hg, fun i hi => ?_⟩
              obtain ⟨g', c', hv', _, hc⟩ := row_cellI HG2.out.row hi
              simp only [Value.slice.injEq, Option.some.injEq, Addr.mk.injEq] at hv'
              obtain ⟨⟨rfl, _⟩, _⟩ := hv'
              rw [Nat.zero_add]
              exact hc
          have hEl : E.length ≤ 100 := by have := HC2.out.2.1; omega
          have HNM := Lib.hid (newmind_calls (cap := ce) hst hinE (by omega))
          have HSN := Lib.hid hsn
          have HST := Lib.hid hst
          have HEI := Lib.hid (And.intro hinE hEl)
          clear hsn hst hdis hinE hEl hlt hk hD1
          go_wp2_with (go_at_call 9; refine HNM.out.mono ?_; rintro e w5 ⟨q, rfl, hq, hqs, hqo, hc5, hk5⟩)
          rw [HSN.out] at hk5
          have f0 := (cell_eq (i := fr) (hc5.block gs hgl (fun h => h))).trans e0
          have hgl5 : gs < w5.heap.size := Nat.lt_of_lt_of_le hgl hc5.size
          have hst5 := HST.out.chg hc5 (fun _ _ h => h)
          have hE5 : ∃ be oe, ae = some ⟨be, oe, none⟩ ∧ be < w5.heap.size ∧ ∀ i (h : i < E.length), w5.cell? ⟨be, oe + i, none⟩ = some (.int .i64 E[i]) := by
            rcases HEI.out.1 with h | ⟨b, off, e1, e2, e3⟩
            · have := HC2.out.2.1; rw [h] at this; have := HM.out; simp at *; omega
            · exact ⟨b, off, e1, Nat.lt_of_lt_of_le e2 hc5.size, fun i hi => (cell_eq (hc5.block b e2 (fun h => h))).trans (e3 i hi)⟩
          obtain ⟨be, oe, rfl, hbe, hcE⟩ := hE5
          have HQ := Lib.hid (And.intro hq (And.intro hc5 hk5))
          have HS5 := Lib.hid hst5
          have HCE := Lib.hid hcE
          have hem : 0 < E.length := by have := HC2.out.2.1; have := HM.out; omega
          have HEM := Lib.hid hem
          have hfi : fr < D.length := hfl
          have hDf : D[fr]? = some D[fr] := List.getElem?_eq_getElem hfl
          generalize D[fr] = xf at *
          have HDF := Lib.hid hDf
          clear hDf
          obtain ⟨i0, hi, hz0, hz1, hz2⟩ := info_parts infoInt
          have HI := Lib.hid (And.intro hi (And.intro hz0 (And.intro hz1 hz2)))
          clear hq hqs hqo hc5 hk5 HNM e0 hst5 hcE hem hi hz0 hz1 hz2
          go_upto_region 18 with fail
          go_cut [11] (fun u11 wx => ∃ q2, u11 = q2.ptr ∧ MindAt wx q2 ∧ Knows N2 (fun t => t ∈ E ++ [xf] ∧ knownB N2.length t = true) q2 ∧ Chg none_ w5 wx)
          case first =>
           go_region_law (first
             | (refine step_append_lies _ (by rfl) (.tmp 69) (.tmp 70) 23 (by rfl) w5.heap.size 3 i0 _ 1 8 Try.underlying23 HI.out.1 HI.out.2.1 HI.out.2.2.1 HI.out.2.2.2 rfl (by decide) (.slice (some ⟨w5.heap.size, 0, none⟩) 0 0) 0 [] (by rfl) (empty_row ((heap_alloc_lt (by simp)).trans heap_alloc_at) (by omega)) ⟨be, oe, none⟩ E.length ce (E.map (Value.int .i64)) (by rfl) (by simp) (news_ints (w5 := w5) (by repeat (first | (with_reducible exact Chg.refl _ _) | (with_reducible assumption) | (with_reducible apply Chg.alloc) | (with_reducible apply Chg.drew))) hbe HCE.out) (one_ints E) HEM.out (by have := HEI.out.2; unfold maxLen; omega) (by have := HEI.out.2; omega) (by simp <;> omega) _ (by rfl) ?_; intro ga capa wa howna hga hata hlta; have hca := chg_grown (w5 := w5) (by repeat (first | (with_reducible exact Chg.refl _ _) | (with_reducible assumption) | (with_reducible apply Chg.alloc) | (with_reducible apply Chg.drew))) hga (fun k hk => by have e : w5.heap.size = k := Option.some.inj hk; omega); have f0a := (cell_eq (i := fr) (hca.block gs hgl5 (fun h => h))).trans f0; have hbx : wa.heap[w5.heap.size + 1]? = some (.cells #[.int .i64 xf] 3 (0, 0)) := (hga.block (w5.heap.size + 1) (by simp) (by simp [Value.ownBlock])).trans (by rw [show w5.heap.size + 1 = (w5.alloc (.cells #[] 3)).heap.size from by simp]; exact heap_alloc_at); simp only [Nat.zero_add, List.nil_append] at howna ⊢)
             | (refine step_append_lies _ (by rfl) (.tmp 69) (.tmp 70) 23 (by rfl) w5.heap.size 3 i0 _ 1 8 Try.underlying23 HI.out.1 HI.out.2.1 HI.out.2.2.1 HI.out.2.2.2 rfl (by decide) (.slice (some ⟨w5.heap.size, 0, none⟩) 0 0) 0 [] (by rfl) (empty_row heap_alloc_at (by omega)) ⟨be, oe, none⟩ E.length ce (E.map (Value.int .i64)) (by rfl) (by simp) (news_ints (w5 := w5) (by repeat (first | (with_reducible exact Chg.refl _ _) | (with_reducible assumption) | (with_reducible apply Chg.alloc) | (with_reducible apply Chg.drew))) hbe HCE.out) (one_ints E) HEM.out (by have := HEI.out.2; unfold maxLen; omega) (by have := HEI.out.2; omega) (by simp <;> omega) _ (by rfl) ?_; intro ga capa wa howna hga hata hlta; have hca := chg_grown (w5 := w5) (by repeat (first | (with_reducible exact Chg.refl _ _) | (with_reducible assumption) | (with_reducible apply Chg.alloc) | (with_reducible apply Chg.drew))) hga (fun k hk => by have e : w5.heap.size = k := Option.some.inj hk; omega); have f0a := (cell_eq (i := fr) (hca.block gs hgl5 (fun h => h))).trans f0; simp only [Nat.zero_add, List.nil_append] at howna ⊢)
             | (refine step_append_lies _ (by rfl) (.tmp 69) (.tmp 70) 23 (by rfl) w5.heap.size 3 i0 _ 1 8 Try.underlying23 HI.out.1 HI.out.2.1 HI.out.2.2.1 HI.out.2.2.2 rfl (by decide) (.slice (some ⟨w5.heap.size + 1, 0, none⟩) 0 0) 0 [] (by rfl) (empty_row (by rw [show w5.heap.size + 1 = (w5.alloc (.cells #[.int .i64 xf] 3)).heap.size from by simp]; exact heap_alloc_at) (by omega)) ⟨be, oe, none⟩ E.length ce (E.map (Value.int .i64)) (by rfl) (by simp) (news_ints (w5 := w5) (by repeat (first | (with_reducible exact Chg.refl _ _) | (with_reducible assumption) | (with_reducible apply Chg.alloc) | (with_reducible apply Chg.drew))) hbe HCE.out) (one_ints E) HEM.out (by have := HEI.out.2; unfold maxLen; omega) (by have := HEI.out.2; omega) (by simp <;> omega) _ (by rfl) ?_; intro ga capa wa howna hga hata hlta; have hca := chg_grown (w5 := w5) (by repeat (first | (with_reducible exact Chg.refl _ _) | (with_reducible assumption) | (with_reducible apply Chg.alloc) | (with_reducible apply Chg.drew))) hga (fun k hk => by have e : w5.heap.size + 1 = k := Option.some.inj hk; omega); have f0a := (cell_eq (i := fr) (hca.block gs hgl5 (fun h => h))).trans f0; have hbx : wa.heap[w5.heap.size]? = some (.cells #[.int .i64 xf] 3 (0, 0)) := (hga.block w5.heap.size (by simp; omega) (by simp [Value.ownBlock])).trans ((heap_alloc_lt (by simp)).trans heap_alloc_at); simp only [Nat.zero_add, List.nil_append] at howna ⊢)
             | (refine step_append_lies _ (by rfl) (.tmp 71) (.tmp 76) 23 (by rfl) w5.heap.size 3 i0 _ 1 8 Try.underlying23 HI.out.1 HI.out.2.1 HI.out.2.2.1 HI.out.2.2.2 rfl (by decide) (.slice (some ⟨ga, 0, none⟩) E.length capa) E.length (E.map (Value.int .i64)) (by rfl) (by first | exact howna | exact howna.alloc _) ⟨wa.heap.size, 0, none⟩ 1 1 [.int .i64 xf] (by rfl) (by rfl) (World.news_of_block heap_alloc_at) (by simp [Value.oneCell']) (by decide) (by have := HEI.out.2; unfold maxLen; omega) (by have := HEI.out.2; omega) (by have := hca.size; simp; omega) _ (by rfl) ?_; intro gb capb wb hownb hgb hatb hltb; have hcb := chg_grown (w5 := w5) (by repeat (first | (with_reducible exact Chg.refl _ _) | (with_reducible assumption) | (with_reducible apply Chg.alloc) | (with_reducible apply Chg.drew))) hgb (fun k hk => by have e : ga = k := Option.some.inj hk; have := (howna.lt ga rfl).1; omega))
             | (refine step_append_lies _ (by rfl) (.tmp 71) (.tmp 76) 23 (by rfl) w5.heap.size 3 i0 _ 1 8 Try.underlying23 HI.out.1 HI.out.2.1 HI.out.2.2.1 HI.out.2.2.2 rfl (by decide) (.slice (some ⟨ga, 0, none⟩) E.length capa) E.length (E.map (Value.int .i64)) (by rfl) (by first | exact howna | exact howna.alloc _) ⟨w5.heap.size, 0, none⟩ 1 1 [.int .i64 xf] (by rfl) (by rfl) (World.news_of_block hbx) (by simp [Value.oneCell']) (by decide) (by have := HEI.out.2; unfold maxLen; omega) (by have := HEI.out.2; omega) (by have := hca.size; simp; omega) _ (by rfl) ?_; intro gb capb wb hownb hgb hatb hltb; have hcb := chg_grown (w5 := w5) (by repeat (first | (with_reducible exact Chg.refl _ _) | (with_reducible assumption) | (with_reducible apply Chg.alloc) | (with_reducible apply Chg.drew))) hgb (fun k hk => by have e : ga = k := Option.some.inj hk; have := (howna.lt ga rfl).1; omega))
             | (refine step_append_lies _ (by rfl) (.tmp 71) (.tmp 76) 23 (by rfl) w5.heap.size 3 i0 _ 1 8 Try.underlying23 HI.out.1 HI.out.2.1 HI.out.2.2.1 HI.out.2.2.2 rfl (by decide) (.slice (some ⟨ga, 0, none⟩) E.length capa) E.length (E.map (Value.int .i64)) (by rfl) (by first | exact howna | exact howna.alloc _) ⟨w5.heap.size + 1, 0, none⟩ 1 1 [.int .i64 xf] (by rfl) (by rfl) (World.news_of_block hbx) (by simp [Value.oneCell']) (by decide) (by have := HEI.out.2; unfold maxLen; omega) (by have := HEI.out.2; omega) (by have := hca.size; simp; omega) _ (by rfl) ?_; intro gb capb wb hownb hgb hatb hltb; have hcb := chg_grown (w5 := w5) (by repeat (first | (with_reducible exact Chg.refl _ _) | (with_reducible assumption) | (with_reducible apply Chg.alloc) | (with_reducible apply Chg.drew))) hgb (fun k hk => by have e : ga = k := Option.some.inj hk; have := (howna.lt ga rfl).1; omega))
             | (go_simp; go_at_call 9; have hn := newmind_calls (cap := capb) (HS5.out.chg hcb (fun _ _ h => h)) (row_inI (D := E ++ [xf]) (by simpa using hownb) (by simp)) (by have := HEI.out.2; simp; omega); simp only [List.length_append, List.length_cons, List.length_nil, Nat.zero_add] at hn; refine hn.mono ?_; rintro e w6 ⟨q2, rfl, hq2, _, _, hc6, hk6⟩))
           all_goals
             rw [HSN.out] at hk6
             have hcc := hcb.trans hc6 (fun _ _ h => h)
             go_wp2
             go_meet
             exact ⟨q2, rfl, hq2, hk6, hcc⟩
          case rest =>
          obtain ⟨q2, rfl, hq2, hk6, hc6⟩ := hcut
          have hCD := (HQ.out.2.1).trans hc6 (fun _ _ h => h)
          have hqn := HQ.out.1.chg hc6 (fun _ _ h => h)
          have hwf := HG2.out.own.wf
          have hlen : D.length = E.length + 1 := by have := HC.out.2.1; have := HC2.out.2.1; omega
          have hno : ∀ k (hk : k < D.length), canT q.can D[k] = false := fun k hk => HQ.out.2.2.canF hwf (HC2.out.1.cannot hlen D.length (fun x hx => .inl hx.1) hk hk)
          have hlow : ∀ k (hk : k < D.length), k < fr → canT q2.can D[k] = false := fun k hk hf => hk6.canF hwf (HC2.out.1.cannot hlen fr (fun x hx => by
            rcases List.mem_append.1 hx.1 with h | h
            · exact .inl h
            · have e : x = xf := by simpa using h
              exact .inr ⟨fr, Nat.le_refl _, by rw [e]; exact HDF.out⟩) hk hf)
          have hhigh : ∀ k (hk : k < D.length), fr ≤ k → canT q2.can D[k] = true := fun k hk hf => hk6.canY hwf ((closedD _ _).kc _ (HC2.out.1.can hlen fr (fun x hx => ⟨List.mem_append_left _ hx, by
            obtain ⟨j, hj, rfl⟩ := List.getElem_of_mem hx
            obtain ⟨_, _, _, h2, _⟩ := HC2.out.1.box j hj
            exact h2⟩) (fun x hx => by
              rw [HDF.out] at hx
              injection hx with hx
              subst hx
              refine ⟨List.mem_append_right _ (by simp), ?_⟩
              obtain ⟨hl, he⟩ := List.getElem?_eq_some_iff.1 HDF.out
              rw [← he]
              exact (HC2.out.1.sec fr hl).1) k hk hf))
          have hql1 : q.can.length ≤ 262145 := by rw [HQ.out.2.2.len]; have := HC2.out.2.2; omega
          have hql2 : q2.can.length ≤ 262145 := by rw [hk6.len]; have := HC2.out.2.2; omega
          have hrow : ∀ k (hk : k < D.length), wc.cell? ⟨gs, k, none⟩ = some (.int .i64 D[k]) := fun k hk => by
            obtain ⟨g', c', hv, hgl', hc'⟩ := row_cellI HROW.out hk
            simp only [Value.slice.injEq, Option.some.injEq, Addr.mk.injEq] at hv
            obtain ⟨⟨rfl, _⟩, _⟩ := hv
            exact (cell_eq (hCD.block gs hgl' (fun h => h))).trans hc'
          have hB : Below w.heap.size w wc := by
            have k1 := HK.out.trans HG.out.kept (fun _ h => h)
            have k2 := k1.trans HG2.out.kept (fun b hb => HX.out.1 b (.inl hb))
            exact (k2.trans (hCD.kept (fun _ h => h)) (fun b hb => Nat.lt_of_lt_of_le hb k2.size)).below (fun b hb => hb)
          have HF := Lib.hid (And.intro hno (And.intro hlow (And.intro hhigh (And.intro hrow hB))))
          have HM1 := Lib.hid (And.intro hqn hq2)
          have hgc : gs < wc.heap.size := Nat.lt_of_lt_of_le hgl hCD.size
          have hDl : D.length ≤ 61 := by have := HC.out.2.1; have := HM.out; omega
          clear hCD hqn hwf hlen hno hlow hhigh hrow hB hq2 hk6 hc6 f0 hgl5 hbe hgl hfl
          go_wp2
          go_loopw [81] (fun i wr' => (∃ k : Nat, k ≤ D.length ∧ i = .int .i64 k) ∧ wr' = wc) (fun i _ => D.length - (intOf i).toNat)
          case atStart => exact ⟨⟨0, Nat.zero_le _, rfl⟩, rfl⟩
          case round =>
            obtain ⟨⟨k, hk, rfl⟩, hwe⟩ := hrel
            subst hwe
            have hki : (k : Int) ≤ 61 := by omega
            by_cases hlt : k < D.length
            · have e0 := HF.out.2.2.2.1 k hlt
              have h1 := can_calls HM1.out.1 hql1 D[k]
              have h2 := can_calls HM1.out.2 hql2 D[k]
              rw [HF.out.1 k hlt] at h1
              by_cases hf : fr ≤ k
              · have b7 : decide (fr ≤ k) = true := by simpa using hf
                rw [HF.out.2.2.1 k hlt hf] at h2
                have H1 := Lib.hid h1
                have H2 := Lib.hid h2
                clear h1 h2 hf
                generalize D[k] = x at *
                go_wp2_with fail
                refine H1.out.mono ?_; rintro e w7 ⟨rfl, rfl⟩
                go_wp2_with fail
                refine H2.out.mono ?_; rintro e w8 ⟨rfl, rfl⟩
                go_wp2
                refine ⟨⟨⟨k + 1, by omega, by go_num⟩, trivial⟩, by simp [intOf]; omega⟩
              · have b7 : decide (fr ≤ k) = false := by simpa using hf
                rw [HF.out.2.1 k hlt (by omega)] at h2
                have H1 := Lib.hid h1
                have H2 := Lib.hid h2
                clear h1 h2 hf
                generalize D[k] = x at *
                go_wp2_with fail
                refine H1.out.mono ?_; rintro e w7 ⟨rfl, rfl⟩
                go_wp2_with fail
                refine H2.out.mono ?_; rintro e w8 ⟨rfl, rfl⟩
                go_wp2
                refine ⟨⟨⟨k + 1, by omega, by go_num⟩, trivial⟩, by simp [intOf]; omega⟩
            · go_wp2
              go_ret
              exact ⟨rfl, HF.out.2.2.2.2⟩

theorem chains_row (n f : Int) (w : World) (h1 : (Lit.int .i64 n).wf = true) (h2 : (Lit.int .i64 f).wf = true) :
    Calls Try.prog 5 #[.int .i64 n, .int .i64 f] w fun e w' => e = .returned (.bool true) ∧ Below w.heap.size w w' := chains_walk n f w h1 h2

end Go.Proofs.Ytmdfhaihbaiegaa
