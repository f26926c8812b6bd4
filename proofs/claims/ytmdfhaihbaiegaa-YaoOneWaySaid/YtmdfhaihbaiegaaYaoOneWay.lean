/- 'YaoOneWay' returns true. -/
import Derived.Test.YtmdfhaihbaiegaaYaoH
import Derived.Test.YtmdfhaihbaiegaaPureYao2
import Derived.Test.YtmdfhaihbaiegaaOpen1
import Derived.Deep.DeepCutAuto
set_option linter.unusedVariables false
set_option linter.unusedSimpArgs false
namespace Go.Proofs.Ytmdfhaihbaiegaa
open Go.RowKit

def lnext : ByteArray := ⟨#[110, 101, 120, 116]⟩
def lh : ByteArray := ⟨#[104]⟩
def lm : ByteArray := ⟨#[109]⟩
def l0 : ByteArray := ⟨#[]⟩

theorem way0 : Way Y1 1 1 (fun _ => False) := by
  refine ⟨by decide, by decide +kernel, by decide, fun x h => h.elim, .inl rfl, fun x h => .inl (h.resolve_left id), fun x h => .inr (.inr ?_)⟩
  rw [knownB_iff] at h
  have : Y1.length = 1 := rfl
  omega

def OneRel (W : World) (l : List Int) (p : Nat) (i v : Value) (wr : World) : Prop :=
  ∃ (k : Nat) (N : List Nd) (t : Int) (B : Int → Prop), k ≤ l.length ∧ i = .int .i64 k ∧ v = .int .i64 t ∧ Own (fun b => b < W.heap.size) wr p N 1 ∧ Kept (fun b => b < W.heap.size) W wr ∧ N.length ≤ 1 + 2 * k ∧ Way N 1 t B ∧ (k = 0 → t = 1) ∧ (0 < k → t ≠ 1)

theorem known_pre {A B : List Nd} (h : A <+: B) {x : Int} (hk : knownB A.length x = true) : knownB B.length x = true := by
  rw [knownB_iff] at *
  have := h.length_le
  omega

/-- The four steps. -/
theorem oneK {N : List Nd} {t : Int} {B : Int → Prop} (h : Way N 1 t B) (hw : WF N) (hl : N.length + 2 ≤ 262144) :
    let N1 := mkL N ⟨2, l0, 0, 0⟩
    let N2 := mkL N1 ⟨5, lnext, t, mkT N ⟨2, l0, 0, 0⟩⟩
    (mkL N1 ⟨5, lnext, t, mkT N ⟨2, l0, 0, 0⟩⟩).length ≤ N.length + 2 ∧ ∃ B', Way N2 1 (mkT N1 ⟨5, lnext, t, mkT N ⟨2, l0, 0, 0⟩⟩) B' ∧ mkT N1 ⟨5, lnext, t, mkT N ⟨2, l0, 0, 0⟩⟩ ≠ 1 := by
  intro N1 N2
  obtain ⟨a1, a2, a3, a4, a5⟩ := mk_good (N := N) (right_text (l := l0) (by decide)) (by omega)
  have hw1 : WF N1 := mkL_wf _ hw
  have h1 : Way N1 1 t B := h.text a4 fun x hx => (a5 x hx).imp id fun e => by rw [e, a2]
  obtain ⟨b1, b2, b3, b4, b5⟩ := mk_good (N := N1) (right_kdf (l := lnext) (by decide) h1.kt a1) (by have e : N1.length ≤ N.length + 1 := a3; omega)
  have hW := h1.step (mkL_wf _ hw1) b4 b1 (by
    rw [b2]
    refine .inr ⟨.inl rfl, rfl, ?_, ?_⟩
    · exact known_pre b4 a1
    · show (getN (mkL N1 _) (mkT N _)).kind = 2
      rw [getN_pre b4 a1, a2]) b5
  have e : N1.length ≤ N.length + 1 := a3
  refine ⟨Nat.le_trans b3 (by omega), _, hW, ?_⟩
  intro e
  have := (hW.lt t (.inr rfl)).1
  have := knownB_iff.1 h.kt
  omega
theorem oneS {N : List Nd} {t : Int} {B : Int → Prop} (h : Way N 1 t B) (hw : WF N) (hl : N.length + 2 ≤ 262144) :
    let N1 := mkL N ⟨2, lm, 0, 0⟩
    let N2 := mkL N1 ⟨9, ByteArray.empty, t, mkT N ⟨2, lm, 0, 0⟩⟩
    (mkL N1 ⟨9, ByteArray.empty, t, mkT N ⟨2, lm, 0, 0⟩⟩).length ≤ N.length + 2 ∧ ∃ B', Way N2 1 (mkT N1 ⟨9, ByteArray.empty, t, mkT N ⟨2, lm, 0, 0⟩⟩) B' ∧ mkT N1 ⟨9, ByteArray.empty, t, mkT N ⟨2, lm, 0, 0⟩⟩ ≠ 1 := by
  intro N1 N2
  obtain ⟨a1, a2, a3, a4, a5⟩ := mk_good (N := N) (right_text (l := lm) (by decide)) (by omega)
  have hw1 : WF N1 := mkL_wf _ hw
  have h1 : Way N1 1 t B := h.text a4 fun x hx => (a5 x hx).imp id fun e => by rw [e, a2]
  obtain ⟨b1, b2, b3, b4, b5⟩ := mk_good (N := N1) (right_sign h1.kt a1) (by have e : N1.length ≤ N.length + 1 := a3; omega)
  have hW := h1.step (mkL_wf _ hw1) b4 b1 (by
    rw [b2]
    refine .inr ⟨.inr rfl, rfl, ?_, ?_⟩
    · exact known_pre b4 a1
    · show (getN (mkL N1 _) (mkT N _)).kind = 2
      rw [getN_pre b4 a1, a2]) b5
  have e : N1.length ≤ N.length + 1 := a3
  refine ⟨Nat.le_trans b3 (by omega), _, hW, ?_⟩
  intro e
  have := (hW.lt t (.inr rfl)).1
  have := knownB_iff.1 h.kt
  omega
theorem one1 {N : List Nd} {t : Int} {B : Int → Prop} (h : Way N 1 t B) (hw : WF N) (hl : N.length + 2 ≤ 262144) {n : Nd} (hn : (n.kind = 4 ∨ n.kind = 6) ∧ n.a = t) (hr : rightB N n = true) :
    (mkL N n).length ≤ N.length + 2 ∧ ∃ B', Way (mkL N n) 1 (mkT N n) B' ∧ mkT N n ≠ 1 := by
  obtain ⟨b1, b2, b3, b4, b5⟩ := mk_good hr (by omega)
  have hW := h.step (mkL_wf _ hw) b4 b1 (by rw [b2]; exact .inl hn) b5
  refine ⟨by omega, _, hW, ?_⟩
  intro e
  have := (hW.lt t (.inr rfl)).1
  have := knownB_iff.1 h.kt
  omega

set_option maxRecDepth 100000 in
set_option maxHeartbeats 4000000 in
theorem oneway_walk (a : Option Addr) (cap : Nat) (l : List Int) (w : World) (h : InI w a l) (hlen : l.length ≤ maxLen) :
    Calls Try.prog 6 #[.slice a l.length cap] w fun e w' => e = .returned (.bool true) ∧ Below w.heap.size w w' := by
  have hll : (l.length : Int) ≤ 9223372036854775807 := by unfold maxLen at hlen; omega
  clear hlen
  by_cases hn : 100 < l.length
  · have hb : decide ((100 : Int) < (l.length : Int)) = true := by simp; omega
    clear hn
    go_enter Try.func6, Try.ntmps6
    go_wp2_with (go_at_call 7; refine (anchor_calls _).mono ?_; rintro e w1 ⟨rfl, c1⟩)
    go_ret
    exact ⟨rfl, c1.below (Nat.le_refl _) (fun _ _ h => h)⟩
  have hb : decide ((100 : Int) < (l.length : Int)) = false := by simp; omega
  have HLL := Lib.hid (show l.length ≤ 100 by omega)
  clear hn
  go_enter Try.func6, Try.ntmps6
  go_wp2_with (first
    | (go_at_call 7; refine (anchor_calls _).mono ?_; rintro e w1 ⟨rfl, c1⟩)
    | (go_at_call 18; refine (new_own _).mono ?_; rintro e w2 ⟨p, rfl, O0, K0⟩)
    | (go_at_call 19; refine (O0.fresh).mono ?_; rintro e w3 ⟨rfl, O1, K1⟩; rw [yanc1.2.1, yanc1.2.2] at O1; simp only [yanc1.1]))
  have O2 : Own (fun b => b < w.heap.size) w3 p Y1 1 := O1.mono fun k hk => Nat.lt_of_lt_of_le hk c1.size
  have K2 : Kept (fun b => b < w.heap.size) w w3 := ((c1.kept (fun _ h => h)).trans (K0.kept (X := fun b => b < w1.heap.size) (fun _ h => h)) (fun k hk => Nat.lt_of_lt_of_le hk c1.size)).trans K1 (fun k hk => Nat.lt_of_lt_of_le hk c1.size)
  clear O0 O1 K0 K1 c1
  have HI := Lib.hid h
  clear h
  go_loopw [23, 5] (fun i v wr => OneRel w l p i v wr) (fun i _ _ => l.length - (intOf i).toNat)
  case atStart => exact ⟨0, Y1, 1, _, Nat.zero_le _, rfl, rfl, O2, K2, by decide, way0, fun _ => rfl, fun h => by omega⟩
  case round =>
    clear O2 K2
    obtain ⟨k, N, t, B, hk, rfl, rfl, OR, KR, hN, hW, ht0, ht1⟩ := hrel
    have hkb : (k : Int) ≤ 100 := by have := HLL.out; omega
    have HO := Lib.hid OR
    have HK := Lib.hid KR
    have HN := Lib.hid hN
    have HW := Lib.hid hW
    have HT := Lib.hid (And.intro ht0 ht1)
    clear OR KR hN hW ht0 ht1
    by_cases hlt : k < l.length
    · rcases HI.out with hnil | ⟨b, off, rfl, hb', hc⟩
      · rw [hnil] at hlt; simp at hlt
      have g0 := (HK.out.cells.1 b (off + k) hb').trans (hc k hlt)
      clear hc
      generalize l[k] = x at *
      have hle : N.length + 2 ≤ 262144 := by have := HN.out; omega
      have hwf := HO.out.wf
      have hkt := HW.out.kt
      have hk4 := oneK HW.out hwf hle
      have hs4 := oneS HW.out hwf hle
      have hh4 := one1 HW.out hwf hle (n := ⟨4, lh, t, 0⟩) ⟨.inl rfl, rfl⟩ (right_hash (by decide) hkt)
      have hp4 := one1 HW.out hwf hle (n := ⟨6, ByteArray.empty, t, 0⟩) ⟨.inr rfl, rfl⟩ (right_pub hkt)
      dsimp only at hk4 hs4
      have HST := Lib.hid (And.intro hk4 (And.intro hh4 (And.intro hs4 hp4)))
      clear hle hwf hkt hk4 hs4 hh4 hp4
      have OC := Lib.hid HO.out
      by_cases e0 : x.tmod 4 = 0
      · have b0 : (x.tmod 4 == 0) = true := by simpa using e0
        clear e0
        go_wp2_with fail
        refine (OC.out.text l0).mono ?_; rintro e w4 ⟨rfl, OA, KA⟩
        go_wp2_with fail
        refine (OA.kdf lnext t _).mono ?_; rintro e w5 ⟨rfl, OB, KB⟩
        obtain ⟨h1, B', h2, h3⟩ := HST.out.1
        have HE := Lib.hid (And.intro h1 (And.intro h2 h3))
        clear h1 h2 h3 HST
        go_wp2
        refine ⟨⟨k + 1, _, _, B', by omega, by go_num, rfl, OB, (HK.out.trans KA (fun _ h => h)).trans KB (fun _ h => h), by have := HE.out.1; have := HN.out; omega, HE.out.2.1, fun h => by omega, fun _ => HE.out.2.2⟩, by simp [intOf]; omega⟩
      have b0 : (x.tmod 4 == 0) = false := by simpa using e0
      clear e0
      by_cases e1 : x.tmod 4 = 1
      · have b1 : (x.tmod 4 == 1) = true := by simpa using e1
        clear e1
        go_wp2_with fail
        refine (OC.out.hash lh t).mono ?_; rintro e w4 ⟨rfl, OB, KB⟩
        obtain ⟨h1, B', h2, h3⟩ := HST.out.2.1
        have HE := Lib.hid (And.intro h1 (And.intro h2 h3))
        clear h1 h2 h3 HST
        go_wp2
        refine ⟨⟨k + 1, _, _, B', by omega, by go_num, rfl, OB, HK.out.trans KB (fun _ h => h), by have := HE.out.1; have := HN.out; omega, HE.out.2.1, fun h => by omega, fun _ => HE.out.2.2⟩, by simp [intOf]; omega⟩
      have b1 : (x.tmod 4 == 1) = false := by simpa using e1
      clear e1
      by_cases e2 : x.tmod 4 = 2
      · have b2 : (x.tmod 4 == 2) = true := by simpa using e2
        clear e2
        go_wp2_with fail
        refine (OC.out.text lm).mono ?_; rintro e w4 ⟨rfl, OA, KA⟩
        go_wp2_with fail
        refine (OA.sign t _).mono ?_; rintro e w5 ⟨rfl, OB, KB⟩
        obtain ⟨h1, B', h2, h3⟩ := HST.out.2.2.1
        have HE := Lib.hid (And.intro h1 (And.intro h2 h3))
        clear h1 h2 h3 HST
        go_wp2
        refine ⟨⟨k + 1, _, _, B', by omega, by go_num, rfl, OB, (HK.out.trans KA (fun _ h => h)).trans KB (fun _ h => h), by have := HE.out.1; have := HN.out; omega, HE.out.2.1, fun h => by omega, fun _ => HE.out.2.2⟩, by simp [intOf]; omega⟩
      have b2 : (x.tmod 4 == 2) = false := by simpa using e2
      clear e2
      go_wp2_with fail
      refine (OC.out.pub t).mono ?_; rintro e w4 ⟨rfl, OB, KB⟩
      obtain ⟨h1, B', h2, h3⟩ := HST.out.2.2.2
      have HE := Lib.hid (And.intro h1 (And.intro h2 h3))
      clear h1 h2 h3 HST
      go_wp2
      refine ⟨⟨k + 1, _, _, B', by omega, by go_num, rfl, OB, HK.out.trans KB (fun _ h => h), by have := HE.out.1; have := HN.out; omega, HE.out.2.1, fun h => by omega, fun _ => HE.out.2.2⟩, by simp [intOf]; omega⟩
    · have hke : k = l.length := by omega
      subst hke
      obtain ⟨s, rfl, hsn, _, hst, _⟩ := HO.out.at_
      have hwf := hst.wf
      rw [hsn] at hwf
      have hkt := HW.out.kt
      have hka := HW.out.ka
      have hN3 := HN.out
      have hN4 := HLL.out
      have hlenN : N.length ≤ 262144 := by omega
      clear hN3 hN4
      have p1 : CanD N (fun x => x ∈ [t] ∧ knownB N.length x = true) t := (closedD _ _).kc _ ((closedD _ _).given _ ⟨by simp, hkt⟩ hkt)
      have p3 := HW.out.tells (S := fun x => x ∈ [(1 : Int)] ∧ knownB N.length x = true) hwf ⟨by simp, hka⟩
      have HF := Lib.hid (And.intro hwf (And.intro p1 (And.intro p3 (And.intro hkt hka))))
      have hstA := hst.alloc (.cells #[.int .i64 t] 3)
      have HSN := Lib.hid hsn
      have HSA := Lib.hid hstA
      have hlt0 := HO.out.lt
      clear hwf p1 p3 hkt hka hst hsn hstA HO
      go_wp2_with fail
      refine (newmind_calls HSA.out (inI_one wr t) (by simp)).mono ?_
      rintro e w4 ⟨q1, rfl, hq1, _, _, hc4, hk1⟩
      rw [HSN.out] at hk1
      have hst4 := HSA.out.chg hc4 (fun _ _ h => h)
      have hC4 : Chg none_ wr w4 := ((Chg.refl none_ wr).alloc _).trans hc4 (fun _ _ h => h)
      have HQ1 := Lib.hid (hq1.alloc (.cells #[.int .i64 1] 3))
      have HK1 := Lib.hid hk1
      have HS4 := Lib.hid (hst4.alloc (.cells #[.int .i64 1] 3))
      have HC4 := Lib.hid hC4
      clear hq1 hk1 hst4 hc4 hC4 HSA
      go_wp2_with fail
      refine (newmind_calls HS4.out (inI_one w4 1) (by simp)).mono ?_
      rintro e w5 ⟨q2, rfl, hq2, _, _, hc5, hk2⟩
      rw [HSN.out] at hk2
      have HQ2 := Lib.hid hq2
      have HK2 := Lib.hid hk2
      have HQ5 := Lib.hid (HQ1.out.chg hc5 (fun _ _ h => h))
      have HS5 := Lib.hid (HS4.out.chg hc5 (fun _ _ h => h))
      have hC5 : Chg none_ wr w5 := (HC4.out.alloc _).trans hc5 (fun _ _ h => h)
      have HB := Lib.hid ((HK.out.trans (hC5.kept hlt0) (fun _ h => h)).below (fun k h => h))
      have hl1 : q1.can.length ≤ 262145 := by rw [HK1.out.len]; omega
      have hl2 : q2.can.length ≤ 262145 := by rw [HK2.out.len]; omega
      have HL := Lib.hid (And.intro hl1 hl2)
      clear hq2 hk2 hc5 hC5 hl1 hl2 HQ1 HS4 HC4 hlt0 hlenN
      by_cases hz : l.length = 0
      · have hz1 : ((l.length : Int) == 0) = true := by rw [beq_iff_eq]; omega
        have ht := HT.out.1 hz
        subst ht
        have b1 := HK1.out.canY HF.out.1 HF.out.2.1
        clear hz
        go_wp2_with fail
        refine (can_calls HQ5.out HL.out.1 1).mono ?_; rintro e w6 ⟨rfl, rfl⟩
        rw [b1]
        go_wp2
        go_ret
        exact ⟨rfl, HB.out⟩
      · have hz1 : ((l.length : Int) == 0) = false := by rw [beq_eq_false_iff_ne]; omega
        have ht := HT.out.2 (by omega)
        have b1 := HK1.out.canY HF.out.1 HF.out.2.1
        have b2 := HK1.out.canF HF.out.1 (HW.out.hides ht)
        have b3 := HK2.out.canY HF.out.1 (HF.out.2.2.1 1 HF.out.2.2.2.2)
        have b4 := HK2.out.canY HF.out.1 (HF.out.2.2.1 t HF.out.2.2.2.1)
        have b5 := HK2.out.all HF.out.2.2.1
        have hlen := len_calls HS5.out
        rw [HSN.out] at hlen
        have HB5 := Lib.hid (And.intro b4 (And.intro b5 hlen))
        have HB3 := Lib.hid b3
        clear hz ht b3 b4 b5 hlen
        go_wp2_with fail
        refine (can_calls HQ5.out HL.out.1 t).mono ?_; rintro e w6 ⟨rfl, rfl⟩
        rw [b1]
        go_wp2_with fail
        refine (can_calls HQ5.out HL.out.1 1).mono ?_; rintro e w7 ⟨rfl, rfl⟩
        rw [b2]
        go_wp2_with fail
        refine (can_calls HQ2.out HL.out.2 1).mono ?_; rintro e w8 ⟨rfl, rfl⟩
        rw [HB3.out]
        go_wp2_with fail
        refine (can_calls HQ2.out HL.out.2 t).mono ?_; rintro e w9 ⟨rfl, rfl⟩
        rw [HB5.out.1]
        go_wp2_with fail
        refine (count_calls HQ2.out HL.out.2).mono ?_; rintro e w10 ⟨rfl, rfl⟩
        rw [HB5.out.2.1]
        go_wp2_with fail
        refine HB5.out.2.2.mono ?_; rintro e w11 ⟨rfl, rfl⟩
        go_wp2
        go_ret
        exact ⟨by simp, HB.out⟩

theorem InInts.toI {w : World} {a : Option Addr} {l : List Int} (h : InInts w a l) : InI w a l := by
  rcases h with h | ⟨b, off, h1, h2, h3, _⟩
  · exact .inl h
  · exact .inr ⟨b, off, h1, h2, h3⟩

theorem oneway_row (a : Option Addr) (cap : Nat) (l : List Int) (w : World) (h : InInts w a l) (hlen : l.length ≤ maxLen) :
    Calls Try.prog 6 #[.slice a l.length cap] w fun e w' => e = .returned (.bool true) ∧ Below w.heap.size w w' := oneway_walk a cap l w h.toI hlen

end Go.Proofs.Ytmdfhaihbaiegaa
