/- 'TermShut' returns true. -/
import Derived.Test.YtlppagjnnlmnmaaLawGrows
import Derived.Test.YtlppagjnnlmnmaaLawDraws
import Derived.Deep.DeepCutAuto
set_option linter.unusedVariables false
set_option linter.unusedSimpArgs false
namespace Go.Proofs.Ytlppagjnnlmnmaa
open Go.RowKit

/-- What is right to make and has room comes to be: its number is known, it is what it was made of, and the rest stays. -/
theorem mk_new {L : List Nd} (n : Nd) (hr : rightB L n = true) (hL : L.length < 262144) : knownB (mkL L n).length (mkT L n) = true ∧ getN (mkL L n) (mkT L n) = n ∧ (mkL L n).length ≤ L.length + 1 := by
  have h0 : mkT L n ≠ 0 := by
    rcases mk_cases L n with ⟨k, hk, e, h1, _⟩ | ⟨_, h1, _⟩ | ⟨_, _, h1, _⟩ | ⟨_, _, _, h1, _⟩
    · omega
    · rw [hr] at h1; cases h1
    · omega
    · omega
  refine ⟨(getN_new n h0).1, (getN_new n h0).2, ?_⟩
  rcases mk_cases L n with ⟨_, _, _, _, _, e⟩ | ⟨_, _, _, _, e⟩ | ⟨_, _, _, _, _, e⟩ | ⟨_, _, _, _, _, e⟩ <;> rw [e] <;> simp

theorem getN_right {L : List Nd} (h : WF L) {t : Int} (hk : knownB L.length t = true) : ∃ i, ∃ hi : i < L.length, t = (i : Int) + 1 ∧ getN L t = L[i] ∧ rightB (L.take i) L[i] = true := by
  have hr : 1 ≤ t ∧ t ≤ L.length := by simpa [knownB] using hk
  obtain ⟨i, rfl⟩ : ∃ i : Nat, t = (i : Int) + 1 := ⟨(t - 1).toNat, by omega⟩
  have hi : i < L.length := by omega
  exact ⟨i, hi, rfl, by unfold getN; rw [if_pos hk, nodeAt_get L hi], h i hi⟩

theorem getN_inj {L : List Nd} (hw : WF L) (hn : L.Nodup) {s t : Int} (hs : knownB L.length s = true) (ht : knownB L.length t = true) (h : getN L s = getN L t) : s = t := by
  obtain ⟨i, hi, rfl, e1, _⟩ := getN_right hw hs
  obtain ⟨j, hj, rfl, e2, _⟩ := getN_right hw ht
  rw [e1, e2] at h
  rw [(List.getElem_inj hn).1 h]

/-- A right node of these kinds has no label, nor a second part if it is a public key. -/
theorem right_plain {L : List Nd} {n : Nd} (h : rightB L n = true) (hk : n.kind = 6 ∨ n.kind = 9) : n.label = ByteArray.empty ∧ (n.kind = 6 → n.b = 0) := by
  unfold rightB at h
  rw [if_neg (by omega)] at h
  unfold rightO at h
  simp only [Bool.and_eq_true, Bool.not_eq_true', Bool.and_eq_false_iff, decide_eq_false_iff_not, Bool.or_eq_true, decide_eq_true_eq, Bool.not_eq_false', Classical.not_not, Int.not_lt, Int.not_le] at h
  obtain ⟨⟨⟨hlab, hA, hB⟩, _⟩, _⟩ := h
  have hl : partsL n.kind = 0 := by unfold partsL; rcases hk with h | h <;> simp [h]
  rw [hl] at hlab
  refine ⟨?_, fun h6 => ?_⟩
  · have : n.label.size = 0 := by omega
    have h2 : n.label.data = #[] := Array.eq_empty_of_size_eq_zero this
    rcases hx : n.label with ⟨d⟩
    rw [hx] at h2
    simp at h2
    rw [h2]; rfl
  · have : partsT n.kind = 1 := by unfold partsT; simp [h6]
    omega

theorem right_one {L : List Nd} {k : Int} (hk : knownB L.length k = true) : rightB L ⟨6, ByteArray.empty, k, 0⟩ = true := by
  simp [rightB, rightO, partsL, partsT, hk]
theorem right_two {L : List Nd} {q k p : Int} (hq : q = 3 ∨ q = 7 ∨ q = 9) (hk : knownB L.length k = true) (hp : knownB L.length p = true) : rightB L ⟨q, ByteArray.empty, k, p⟩ = true := by
  rcases hq with rfl | rfl | rfl <;> simp [rightB, rightO, partsL, partsT, hk, hp]
theorem right_box {L : List Nd} {k p : Int} (hk : knownB L.length k = true) (hp : knownB L.length p = true) (h6 : (getN L k).kind = 6) : rightB L ⟨8, ByteArray.empty, k, p⟩ = true := by
  unfold getN at h6
  rw [if_pos hk] at h6
  simp [rightB, rightO, partsL, partsT, hk, hp, h6]

structure ShutEnd (L : List Nd) (k p u s b g : Int) : Prop where
  hu : knownB L.length u = true ∧ getN L u = ⟨6, ByteArray.empty, k, 0⟩
  hs : knownB L.length s = true ∧ getN L s = ⟨7, ByteArray.empty, k, p⟩
  hb : knownB L.length b = true ∧ getN L b = ⟨8, ByteArray.empty, u, p⟩
  hg : knownB L.length g = true ∧ getN L g = ⟨9, ByteArray.empty, k, p⟩

section
variable {L : List Nd} {k p u s b g : Int} (h : ShutEnd L k p u s b g)
include h
theorem ShutEnd.open1 : openOf (knownB L.length s) (getN L s) k = (p, true) := by simp [h.hs.1, h.hs.2, openOf]
theorem ShutEnd.unbox1 : unboxOf (knownB L.length b) (getN L b) (getN L (getN L b).a) k = (p, true) := by simp [h.hb.1, h.hb.2, h.hu.2, unboxOf]
theorem ShutEnd.verify1 : verifyOf (knownB L.length g) (knownB L.length u) (getN L g) (getN L u) p = true := by simp [h.hg.1, h.hg.2, h.hu.1, h.hu.2, verifyOf]
theorem ShutEnd.open2 {o : Int} (ho : o ≠ k) : openOf (knownB L.length s) (getN L s) o = (0, false) := by simp [h.hs.1, h.hs.2, openOf, ho.symm]
theorem ShutEnd.unbox2 {o : Int} (ho : o ≠ k) : unboxOf (knownB L.length b) (getN L b) (getN L (getN L b).a) o = (0, false) := by simp [h.hb.1, h.hb.2, h.hu.2, unboxOf, ho.symm]
theorem ShutEnd.verify2 (hw : WF L) (hn : L.Nodup) {o : Int} (ho : o ≠ u) : verifyOf (knownB L.length g) (knownB L.length o) (getN L g) (getN L o) p = false := by
  cases hv : verifyOf (knownB L.length g) (knownB L.length o) (getN L g) (getN L o) p with
  | false => rfl
  | true =>
    exfalso
    simp [verifyOf, h.hg.1, h.hg.2] at hv
    obtain ⟨⟨hk, h6⟩, ha⟩ := hv
    obtain ⟨i, hi, _, e, hr⟩ := getN_right hw hk
    obtain ⟨q1, q2⟩ := right_plain hr (.inl (by rw [← e]; exact h6))
    refine ho (getN_inj hw hn hk h.hu.1 ?_)
    rw [h.hu.2, ha]
    have q3 := q2 (by rw [← e]; exact h6)
    rw [← e] at q1 q3
    generalize getN L o = n at *
    obtain ⟨n0, n1, n2, n3⟩ := n
    simp_all
theorem ShutEnd.verify3 {o : Int} (ho : o ≠ p) : verifyOf (knownB L.length g) (knownB L.length u) (getN L g) (getN L u) o = false := by simp [h.hg.1, h.hg.2, h.hu.1, h.hu.2, verifyOf, ho.symm]
theorem ShutEnd.verify4 (hw : WF L) (hn : L.Nodup) {o : Int} (ho : o ≠ g) : verifyOf (knownB L.length o) (knownB L.length u) (getN L o) (getN L u) p = false := by
  cases hv : verifyOf (knownB L.length o) (knownB L.length u) (getN L o) (getN L u) p with
  | false => rfl
  | true =>
    exfalso
    simp [verifyOf, h.hu.1, h.hu.2] at hv
    obtain ⟨⟨⟨hk, h9⟩, hb⟩, ha⟩ := hv
    obtain ⟨i, hi, _, e, hr⟩ := getN_right hw hk
    obtain ⟨q1, _⟩ := right_plain hr (.inr (by rw [← e]; exact h9))
    refine ho (getN_inj hw hn hk h.hg.1 ?_)
    rw [h.hg.2]
    rw [← e] at q1
    generalize getN L o = n at *
    obtain ⟨n0, n1, n2, n3⟩ := n
    simp_all
end

theorem getN_keep {L L' : List Nd} (h : L <+: L') {t : Int} {n : Nd} (hk : knownB L.length t = true ∧ getN L t = n) : knownB L'.length t = true ∧ getN L' t = n :=
  ⟨known_mono h.length_le hk.1, (getN_prefix h hk.1).trans hk.2⟩

theorem shut_end {L : List Nd} {k p : Int} (hL : L.length ≤ 2002) (hk : knownB L.length k = true) (hp : knownB L.length p = true) {u s b g : Int} {L3 L4 L5 L6 : List Nd}
    (hu : mkT L ⟨6, ByteArray.empty, k, 0⟩ = u) (h3 : mkL L ⟨6, ByteArray.empty, k, 0⟩ = L3) (hs : mkT L3 ⟨7, ByteArray.empty, k, p⟩ = s) (h4 : mkL L3 ⟨7, ByteArray.empty, k, p⟩ = L4)
    (hb : mkT L4 ⟨8, ByteArray.empty, u, p⟩ = b) (h5 : mkL L4 ⟨8, ByteArray.empty, u, p⟩ = L5) (hg : mkT L5 ⟨9, ByteArray.empty, k, p⟩ = g) (h6 : mkL L5 ⟨9, ByteArray.empty, k, p⟩ = L6) :
    ShutEnd L6 k p u s b g := by
  have a1 := mk_new _ (right_one hk) (by omega : L.length < 262144)
  have b1 := mkL_prefix L ⟨6, ByteArray.empty, k, 0⟩
  rw [hu, h3] at a1; rw [h3] at b1
  have hk3 := known_mono b1.length_le hk
  have hp3 := known_mono b1.length_le hp
  have a2 := mk_new _ (right_two (.inr (.inl rfl)) hk3 hp3) (by omega : L3.length < 262144)
  have b2 := mkL_prefix L3 ⟨7, ByteArray.empty, k, p⟩
  rw [hs, h4] at a2; rw [h4] at b2
  have u4 := getN_keep b2 ⟨a1.1, a1.2.1⟩
  have hk4 := known_mono b2.length_le hk3
  have hp4 := known_mono b2.length_le hp3
  have a3 := mk_new _ (right_box u4.1 hp4 (by rw [u4.2])) (by omega : L4.length < 262144)
  have b3 := mkL_prefix L4 ⟨8, ByteArray.empty, u, p⟩
  rw [hb, h5] at a3; rw [h5] at b3
  have a4 := mk_new _ (right_two (.inr (.inr rfl)) (known_mono b3.length_le hk4) (known_mono b3.length_le hp4)) (by omega : L5.length < 262144)
  have b4 := mkL_prefix L5 ⟨9, ByteArray.empty, k, p⟩
  rw [hg, h6] at a4; rw [h6] at b4
  exact ⟨getN_keep b4 (getN_keep b3 u4), getN_keep b4 (getN_keep b3 ⟨a2.1, a2.2.1⟩), getN_keep b4 ⟨a3.1, a3.2.1⟩, ⟨a4.1, a4.2.1⟩⟩

/-- The store's state, and that all that was there stays. -/
structure Both (W : World) (wr : World) (p : Nat) (L : List Nd) (d : Int) : Prop where
  own : Own (fun b => b < W.heap.size) wr p L d
  kept : Kept (fun b => b < W.heap.size) W wr
theorem Both.verify {W w : World} {p : Nat} {L : List Nd} {d : Int} (h : Both W w p L d) (pub text sig : Int) : Calls Try.prog 23 #[.pointer (some ⟨p, 0, none⟩), .int .i64 pub, .int .i64 text, .int .i64 sig] w fun e w' => e = .returned (.bool (verifyOf (knownB L.length sig) (knownB L.length pub) (getN L sig) (getN L pub) text)) ∧ Both W w' p L d :=
  (h.own.verify pub text sig).mono fun e w' ⟨he, o, k⟩ => ⟨he, o, h.kept.trans k fun _ h => h⟩

structure Shut1 (W : World) (p : Nat) (wr : World) (L : List Nd) : Prop where
  own : Own (fun b => b < W.heap.size) wr p L 0
  kept : Kept (fun b => b < W.heap.size) W wr
  small : L.length ≤ 2000
def ShutRel1 (W : World) (l : List Nd) (p : Nat) (i : Value) (wr : World) : Prop := ∃ (k : Nat) (L : List Nd), k ≤ l.length ∧ i = .int .i64 k ∧ Grow1 W p wr L ∧ L.length ≤ min k 2000

theorem mkL_grow (L : List Nd) (n : Nd) : (mkL L n).length ≤ L.length + 1 := by
  rcases mk_cases L n with ⟨_, _, _, _, _, e⟩ | ⟨_, _, _, _, e⟩ | ⟨_, _, _, _, _, e⟩ | ⟨_, _, _, _, _, e⟩ <;> rw [e] <;> simp

set_option maxRecDepth 100000 in
set_option maxHeartbeats 8000000 in
theorem shut_walk (a : Option Addr) (cap : Nat) (l : List Nd) (key plain other : Int) (w : World) (h : InNodes w a l) (hlen : l.length ≤ maxLen) (hw1 : (Lit.int .i64 key).wf = true) (hw2 : (Lit.int .i64 plain).wf = true) (hw3 : (Lit.int .i64 other).wf = true) :
    Calls Try.prog 7 #[.slice a l.length cap, .int .i64 key, .int .i64 plain, .int .i64 other] w fun e w' => e = .returned (.bool true) ∧ Below w.heap.size w w' := by
  have hll : (l.length : Int) ≤ 9223372036854775807 := by unfold maxLen at hlen; omega
  clear hlen hw1 hw2 hw3
  go_enter Try.func7, Try.ntmps7
  go_wp2_with (first
    | (go_at_call 10; refine (anchor_calls _).mono ?_; rintro e w1 ⟨rfl, c1⟩)
    | (go_at_call 11; refine (new_own _).mono ?_; rintro e w2 ⟨p, rfl, O0, K0⟩))
  have O1 : Own (fun b => b < w.heap.size) w2 p [] 0 := O0.mono fun k hk => Nat.lt_of_lt_of_le hk c1.size
  have K1 : Kept (fun b => b < w.heap.size) w w2 := (c1.kept (fun _ h => h)).trans (K0.kept (X := fun b => b < w1.heap.size) (fun _ h => h)) (fun k hk => Nat.lt_of_lt_of_le hk c1.size)
  clear O0 K0 c1
  go_loopw [34] (fun i wr => ShutRel1 w l p i wr) (fun i _ => l.length - (intOf i).toNat)
  case atStart => exact ⟨0, [], Nat.zero_le _, rfl, ⟨O1, K1⟩, Nat.zero_le _⟩
  case round =>
    clear O1 K1
    obtain ⟨k, L, hk, rfl, hr1, hsm⟩ := hrel
    have HR := Lib.hid hr1
    have HS := Lib.hid hsm
    clear hr1 hsm
    by_cases hlt : k < l.length
    · have hne : l ≠ [] := by rintro rfl; simp at hlt
      rcases h with h | ⟨b, off, rfl, hb, hc⟩
      · exact absurd h hne
      obtain ⟨c0, c1, c2, c3⟩ := hc k hlt
      have g0 := (HR.out.kept.cells.1 b (off + k * 4) hb).trans c0
      have g1 := (HR.out.kept.cells.1 b (off + k * 4 + 1) hb).trans c1
      have g2 := (HR.out.kept.cells.1 b (off + k * 4 + 2) hb).trans c2
      have g3 := (HR.out.kept.cells.1 b (off + k * 4 + 3) hb).trans c3
      clear hc c0 c1 c2 c3 hne
      generalize hn : l[k] = n at *
      clear hn
      have OA := (HR.out.own).alloc (.cells #[.int .i64 n.kind, .string n.label, .int .i64 n.a, .int .i64 n.b] 27)
      have HM := Lib.hid (OA.make n)
      have HL := Lib.hid (mkL_grow L n)
      obtain ⟨n0, n1, n2, n3⟩ := n
      dsimp only at *
      by_cases h3 : k < 2000
      · have h3' : decide ((k : Int) < 2000) = true := by simp; omega
        go_wp2_with (go_at_call 13; refine (HM.out).mono ?_; rintro e w4 ⟨rfl, OB, KB⟩)
        exact ⟨⟨k + 1, _, by omega, by go_num, HR.out.step OB KB, by have := HS.out; have := HL.out; omega⟩, by simp [intOf]; omega⟩
      · have h3' : decide ((k : Int) < 2000) = false := by simp; omega
        go_wp2
        exact ⟨⟨k + 1, L, by omega, by go_num, HR.out.alloc _, by have := HS.out; omega⟩, by simp [intOf]; omega⟩
    · have hs := HS.out
      have O0 := HR.out.own
      have K0 := HR.out.kept
      clear hk h HR HS
      obtain ⟨f1, f2, f3⟩ := mk_new (L := L) (freshN 0) (by simp [rightB, freshN]) (by omega)
      have f4 : (mkL L (freshN 0)).length ≤ 2001 := by omega
      have hfr := O0.fresh
      have hd : freshD L 0 = 1 := by
        have h0 : mkT L (freshN 0) ≠ 0 := by have := knownB_iff.1 f1; omega
        unfold freshD; rw [if_neg h0]; rfl
      rw [hd] at hfr
      generalize mkT L (freshN 0) = k0 at *
      generalize mkL L (freshN 0) = L1 at *
      obtain ⟨g1, g2, g3⟩ := mk_new (L := L1) ⟨2, ⟨#[112]⟩, 0, 0⟩ (by rfl) (by omega)
      have g4 : (mkL L1 ⟨2, ⟨#[112]⟩, 0, 0⟩).length ≤ 2002 := by omega
      have hpre := mkL_prefix L1 ⟨2, ⟨#[112]⟩, 0, 0⟩
      have f5 := known_mono hpre.length_le f1
      generalize hT2 : mkT L1 ⟨2, ⟨#[112]⟩, 0, 0⟩ = p0 at *
      generalize hL2 : mkL L1 ⟨2, ⟨#[112]⟩, 0, 0⟩ = L2 at *
      have HT2 := Lib.hid hT2
      have HL2 := Lib.hid hL2
      have HK := Lib.hid K0
      have F := Lib.hid (And.intro f5 (And.intro g1 g4))
      have HF := Lib.hid hfr
      clear f1 f2 f3 f4 f5 g1 g2 g3 g4 hpre hs hd hfr K0 hT2 hL2
      go_upto_region 13 with (first
        | (go_at_call 15; refine (HF.out).mono ?_; rintro e w3 ⟨rfl, O1, K1⟩)
        | (go_at_call 16; refine (O1.text ⟨#[112]⟩).mono ?_; rintro e w4 ⟨rfl, O2, K2⟩; rw [HL2.out] at O2; simp only [HT2.out]))
      have hbk : ∃ B : Bool, B = decide (1 ≤ key ∧ key ≤ (L2.length : Int)) := ⟨_, rfl⟩
      obtain ⟨B, hB⟩ := hbk
      have HB := Lib.hid hB
      clear hB
      go_cut [56] (fun s wx => s = .bool B ∧ w4 = wx)
      case first => as_aux_lemma =>
        by_cases q1 : 1 ≤ key
        · by_cases q2 : key ≤ L2.length
          · have b1 : decide (1 ≤ key) = true := by simpa using q1
            have b2 : decide (key ≤ (L2.length : Int)) = true := by simpa using q2
            have b3 : B = true := by rw [HB.out]; simpa using ⟨q1, q2⟩
            clear q1 q2
            go_wp2_with (go_at_call 12; refine (O2.len).mono ?_; rintro e w5 ⟨rfl, rfl⟩)
            go_meet
            exact ⟨by rw [b3], rfl⟩
          · have b1 : decide (1 ≤ key) = true := by simpa using q1
            have b2 : decide (key ≤ (L2.length : Int)) = false := by simpa using q2
            have b3 : B = false := by rw [HB.out]; simp; omega
            clear q1 q2
            go_wp2_with (go_at_call 12; refine (O2.len).mono ?_; rintro e w5 ⟨rfl, rfl⟩)
            go_meet
            exact ⟨by rw [b3], rfl⟩
        · have b1 : decide (1 ≤ key) = false := by simpa using q1
          have b3 : B = false := by rw [HB.out]; simp; omega
          clear q1
          go_wp2
          go_meet
          exact ⟨by rw [b3], rfl⟩
      case rest =>
      obtain ⟨rfl, hwc⟩ := hcut
      subst hwc
      go_upto_if 56 with fail
      go_cut [12] (fun s wx => s = .int .i64 (if B = true then key else k0) ∧ w4 = wx)
      case first => as_aux_lemma =>
        cases B
        · go_wp2
          go_meet
          exact ⟨rfl, rfl⟩
        · go_wp2
          go_meet
          exact ⟨rfl, rfl⟩
      case rest =>
      obtain ⟨rfl, hwc⟩ := hcut
      subst hwc
      have hK : knownB L2.length (if B = true then key else k0) = true := by
        split
        · rename_i h; rw [HB.out] at h; exact knownB_iff.2 (by simpa using h)
        · exact F.out.1
      generalize hkk : (if B = true then key else k0) = kk at *
      clear hkk HB
      go_upto_region 15 with fail
      have hbk : ∃ B : Bool, B = decide (1 ≤ plain ∧ plain ≤ (L2.length : Int)) := ⟨_, rfl⟩
      obtain ⟨B, hB⟩ := hbk
      have HB := Lib.hid hB
      clear hB
      go_cut [65] (fun s wx => s = .bool B ∧ w4 = wx)
      case first => as_aux_lemma =>
        by_cases q1 : 1 ≤ plain
        · by_cases q2 : plain ≤ L2.length
          · have b1 : decide (1 ≤ plain) = true := by simpa using q1
            have b2 : decide (plain ≤ (L2.length : Int)) = true := by simpa using q2
            have b3 : B = true := by rw [HB.out]; simpa using ⟨q1, q2⟩
            clear q1 q2
            go_wp2_with (go_at_call 12; refine (O2.len).mono ?_; rintro e w5 ⟨rfl, rfl⟩)
            go_meet
            exact ⟨by rw [b3], rfl⟩
          · have b1 : decide (1 ≤ plain) = true := by simpa using q1
            have b2 : decide (plain ≤ (L2.length : Int)) = false := by simpa using q2
            have b3 : B = false := by rw [HB.out]; simp; omega
            clear q1 q2
            go_wp2_with (go_at_call 12; refine (O2.len).mono ?_; rintro e w5 ⟨rfl, rfl⟩)
            go_meet
            exact ⟨by rw [b3], rfl⟩
        · have b1 : decide (1 ≤ plain) = false := by simpa using q1
          have b3 : B = false := by rw [HB.out]; simp; omega
          clear q1
          go_wp2
          go_meet
          exact ⟨by rw [b3], rfl⟩
      case rest =>
      obtain ⟨rfl, hwc⟩ := hcut
      subst hwc
      go_upto_if 65 with fail
      go_cut [13] (fun s wx => s = .int .i64 (if B = true then plain else p0) ∧ w4 = wx)
      case first => as_aux_lemma =>
        cases B
        · go_wp2
          go_meet
          exact ⟨rfl, rfl⟩
        · go_wp2
          go_meet
          exact ⟨rfl, rfl⟩
      case rest =>
      obtain ⟨rfl, hwc⟩ := hcut
      subst hwc
      have hP : knownB L2.length (if B = true then plain else p0) = true := by
        split
        · rename_i h; rw [HB.out] at h; exact knownB_iff.2 (by simpa using h)
        · exact F.out.2.1
      generalize hkk : (if B = true then plain else p0) = pp at *
      clear hkk HB
      have hend := fun u s b g L3 L4 L5 L6 => @shut_end L2 kk pp F.out.2.2 hK hP u s b g L3 L4 L5 L6
      have hpub := O2.pub kk
      generalize hu : mkT L2 ⟨6, ByteArray.empty, kk, 0⟩ = u at *
      generalize h3 : mkL L2 ⟨6, ByteArray.empty, kk, 0⟩ = L3 at *
      have HPUB := Lib.hid hpub
      have HU := Lib.hid hu
      have H3 := Lib.hid h3
      have HEND := Lib.hid hend
      clear hpub hu h3 hend
      go_upto_if 124 with (first
        | (go_at_call 17; refine (HPUB.out).mono ?_; rintro e w5 ⟨rfl, O3, K3⟩)
        | (go_at_call 18; refine (O3.seal_ kk pp).mono ?_; rintro e w6 ⟨rfl, O4, K4⟩; generalize hs : mkT L3 ⟨7, ByteArray.empty, kk, pp⟩ = s at *; generalize h4 : mkL L3 ⟨7, ByteArray.empty, kk, pp⟩ = L4 at *; have HS := Lib.hid hs; have H4 := Lib.hid h4; clear hs h4)
        | (go_at_call 19; refine (O4.box u pp).mono ?_; rintro e w7 ⟨rfl, O5, K5⟩; generalize hb : mkT L4 ⟨8, ByteArray.empty, u, pp⟩ = b at *; generalize h5 : mkL L4 ⟨8, ByteArray.empty, u, pp⟩ = L5 at *; have HBX := Lib.hid hb; have H5 := Lib.hid h5; clear hb h5)
        | (go_at_call 20; refine (O5.sign kk pp).mono ?_; rintro e w8 ⟨rfl, O6, K6⟩; generalize hg : mkT L5 ⟨9, ByteArray.empty, kk, pp⟩ = g at *; generalize h6 : mkL L5 ⟨9, ByteArray.empty, kk, pp⟩ = L6 at *; have HE := Lib.hid (HEND.out u s b g L3 L4 L5 L6 rfl rfl HS.out H4.out HBX.out H5.out hg h6); clear hg h6)
        | (go_at_call 12; refine (O6.len).mono ?_; rintro e w9 ⟨rfl, rfl⟩)
        | (go_at_call 21; refine (O6.open_ kk s).mono ?_; rintro e w10 ⟨rfl, O7, K7⟩; simp only [HE.out.open1])
        | (go_at_call 22; refine (O7.unbox kk b).mono ?_; rintro e w11 ⟨rfl, O8, K8⟩; simp only [HE.out.unbox1])
        | (go_at_call 23; refine (O8.verify u pp g).mono ?_; rintro e w12 ⟨rfl, O9, K9⟩; simp only [HE.out.verify1])
        )
      have hK9 : Kept (fun b => b < w.heap.size) w w12 := ((((((((((HK.out.trans K1 fun _ h => h).trans K2 fun _ h => h).trans K3 fun _ h => h).trans K4 fun _ h => h).trans K5 fun _ h => h).trans K6 fun _ h => h).trans K7 fun _ h => h).trans K8 fun _ h => h).trans K9 fun _ h => h))
      have HW := Lib.hid (And.intro O9.wf O9.nodup)
      clear HK K1 K2 K3 K4 K5 K6 K7 K8 K9 HF O0 O1 O2 O3 O4 O5 O6 O7 O8 HS H4 HBX H5 HEND HPUB HU H3 F HT2 HL2 hK hP
      have B0 : Both w w12 p L6 1 := ⟨O9, hK9⟩
      clear O9 hK9
      go_upto_if 124 with fail
      go_cut [] (fun wx => Both w wx p L6 1)
      case first => as_aux_lemma =>
        by_cases ho : other = kk
        · have ho' : (other != kk) = false := by simpa using ho
          clear ho
          go_wp2
          go_meet
          exact B0
        · have ho' : (other != kk) = true := by simpa using ho
          have x1 := HE.out.open2 ho
          have x2 := HE.out.unbox2 ho
          clear ho
          go_wp2_with (first
            | (go_at_call 21; refine (B0.own.open_ other s).mono ?_; rintro e w13 ⟨rfl, O10, K10⟩; simp only [x1])
            | (go_at_call 22; refine (O10.unbox other b).mono ?_; rintro e w14 ⟨rfl, O11, K11⟩; simp only [x2]))
          go_meet
          exact ⟨O11, (B0.kept.trans K10 fun _ h => h).trans K11 fun _ h => h⟩
      case rest =>
      clear B0
      have B1 := hcut
      clear hcut
      go_upto_region 29 with fail
      go_cut [176] (fun s wx => s = .bool false ∧ Both w wx p L6 1)
      case first => as_aux_lemma =>
        have hcase : ∃ b1 b2 b3 : Bool, (other != u) = b1 ∧ (other != pp) = b2 ∧ (other != g) = b3 := ⟨_, _, _, rfl, rfl, rfl⟩
        obtain ⟨b1, b2, b3, e1, e2, e3⟩ := hcase
        have y1 : b1 = true → verifyOf (knownB L6.length g) (knownB L6.length other) (getN L6 g) (getN L6 other) pp = false := fun h => HE.out.verify2 HW.out.1 HW.out.2 (by rw [h] at e1; simpa using e1)
        have y2 : b2 = true → verifyOf (knownB L6.length g) (knownB L6.length u) (getN L6 g) (getN L6 u) other = false := fun h => HE.out.verify3 (by rw [h] at e2; simpa using e2)
        have y3 : b3 = true → verifyOf (knownB L6.length other) (knownB L6.length u) (getN L6 other) (getN L6 u) pp = false := fun h => HE.out.verify4 HW.out.1 HW.out.2 (by rw [h] at e3; simpa using e3)
        have Y1 := Lib.hid y1
        have Y2 := Lib.hid y2
        have Y3 := Lib.hid y3
        clear y1 y2 y3
        cases b1 <;> cases b2 <;> cases b3
        all_goals
          go_wp2_with (go_at_call 23; refine (Both.verify (W := w) (L := L6) (d := 1) (by assumption) _ _ _).mono ?_; rintro e wv ⟨rfl, BX⟩; simp only [Y1.out, Y2.out, Y3.out])
          go_meet
          exact ⟨rfl, by assumption⟩
      case rest =>
      obtain ⟨rfl, BE⟩ := hcut
      go_wp2_with (go_at_call 12; refine (BE.own.len).mono ?_; rintro e w9 ⟨rfl, rfl⟩)
      go_ret
      exact ⟨rfl, BE.kept.below fun k hk => hk⟩

end Go.Proofs.Ytlppagjnnlmnmaa
