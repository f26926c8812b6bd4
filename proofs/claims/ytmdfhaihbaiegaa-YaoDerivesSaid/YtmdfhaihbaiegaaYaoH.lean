/- The anchor of the attacker's laws. -/
import Derived.Test.YtmdfhaihbaiegaaYaoG
import Derived.Test.YtmdfhaihbaiegaaAnchor1
set_option linter.unusedVariables false
set_option linter.unusedSimpArgs false
namespace Go.Proofs.Ytmdfhaihbaiegaa
open Go.RowKit

theorem Own.at_ {X : Nat → Prop} {w : World} {p : Nat} {l : List Nd} {d : Int} (h : Own X w p l d) : ∃ s : St, s.p = p ∧ s.nodes = l ∧ s.drawn = d ∧ StoreAt w s ∧ ∀ k, s.own k → ¬ X k := by
  obtain ⟨⟨m, sl, h1, h2⟩, _⟩ := h
  exact ⟨⟨p, m, sl, l, d⟩, rfl, rfl, rfl, h1, h2⟩

theorem Own.kdf {X : Nat → Prop} {w : World} {p : Nat} {l : List Nd} {d : Int} (h : Own X w p l d) (lab : ByteArray) (a b : Int) : Calls Try.prog 22 #[.pointer (some ⟨p, 0, none⟩), .string lab, .int .i64 a, .int .i64 b] w fun e w' => e = .returned (.int .i64 (mkT l ⟨5, lab, a, b⟩)) ∧ Own X w' p (mkL l ⟨5, lab, a, b⟩) d ∧ Kept X w w' :=
  h.makes fun s hp hl hd hs => by subst hp hl hd; exact kdf_calls hs lab a b
theorem Own.hash {X : Nat → Prop} {w : World} {p : Nat} {l : List Nd} {d : Int} (h : Own X w p l d) (lab : ByteArray) (a : Int) : Calls Try.prog 24 #[.pointer (some ⟨p, 0, none⟩), .string lab, .int .i64 a] w fun e w' => e = .returned (.int .i64 (mkT l ⟨4, lab, a, 0⟩)) ∧ Own X w' p (mkL l ⟨4, lab, a, 0⟩) d ∧ Kept X w w' :=
  h.makes fun s hp hl hd hs => by subst hp hl hd; exact hash_calls hs lab a

theorem cnt_cons (x : Bool) (c : List Bool) : cnt (x :: c) = cnt c + if x = true then 1 else 0 := by unfold cnt; rw [List.countP_cons]; simp

/-- Whoever can derive everything is said to: all terms are counted. -/
theorem Knows.all {N : List Nd} {S : Int → Prop} {q : Mind} (h : Knows N S q) (ha : ∀ t, knownB N.length t = true → CanD N S t) : cnt q.can = N.length := by
  have hl := h.len
  have hn := h.none
  have hc : ∀ i : Nat, i < N.length → q.can.getD (i + 1) false = true := fun i hi => by
    have hk : knownB N.length ((i + 1 : Nat) : Int) = true := by rw [knownB_iff]; omega
    have := (h.can _ hk).2 (ha _ hk)
    unfold cbI at this
    rw [Int.toNat_natCast] at this
    exact this
  generalize q.can = c at *
  match c, hl with
  | x :: c, hl =>
    have hx : x = false := by simpa using hn
    subst hx
    rw [cnt_cons]
    have hl' : c.length = N.length := by simpa using hl
    have : cnt c = c.length := by
      unfold cnt
      rw [List.countP_eq_length]
      intro b hb
      obtain ⟨i, hi, rfl⟩ := List.getElem_of_mem hb
      have := hc i (by omega)
      simpa [hi] using this
    simp [this, hl']

theorem Knows.canF {N : List Nd} {S : Int → Prop} {q : Mind} (h : Knows N S q) (hw : WF N) {t : Int} (hn : ¬ CanD N S t) : Go.Proofs.Ytmdfhaihbaiegaa.canT q.can t = false := by
  rw [← Bool.not_eq_true]
  exact fun e => hn ((h.canT hw t).1 e)
theorem Knows.canY {N : List Nd} {S : Int → Prop} {q : Mind} (h : Knows N S q) (hw : WF N) {t : Int} (hy : CanD N S t) : Go.Proofs.Ytmdfhaihbaiegaa.canT q.can t = true := (h.canT hw t).2 hy

/-- A row of one int that was just made. -/
theorem inI_one (w : World) (x : Int) : InI (w.alloc (.cells #[.int .i64 x] 3)) (some ⟨w.heap.size, 0, none⟩) [x] :=
  .inr ⟨w.heap.size, 0, rfl, by simp, fun i hi => by
    have : i = 0 := by simpa using hi
    subst this
    exact cell_of heap_alloc_at 0⟩

/-! ### the anchor -/
def Y1 : List Nd := [⟨1, ByteArray.empty, 1, 0⟩]
def Y2 : List Nd := Y1 ++ [⟨1, ByteArray.empty, 2, 0⟩]
def Y3 : List Nd := Y2 ++ [⟨7, ByteArray.empty, 1, 2⟩]
theorem yanc1 : mkT [] (freshN 0) = 1 ∧ mkL [] (freshN 0) = Y1 ∧ freshD [] 0 = 1 := by decide +kernel
theorem yanc2 : mkT Y1 (freshN 1) = 2 ∧ mkL Y1 (freshN 1) = Y2 ∧ freshD Y1 1 = 2 := by decide +kernel
theorem yanc3 : mkT Y2 ⟨7, ByteArray.empty, 1, 2⟩ = 3 ∧ mkL Y2 ⟨7, ByteArray.empty, 1, 2⟩ = Y3 := by decide +kernel
theorem y3len : Y3.length = 3 := rfl
theorem y3k : (getN Y3 1).kind = 1 ∧ (getN Y3 2).kind = 1 ∧ getN Y3 3 = ⟨7, ByteArray.empty, 1, 2⟩ := by decide +kernel

theorem y3_closed : Closed Y3 (fun t => t ∈ [(3 : Int)] ∧ knownB Y3.length t = true) (fun t => t = 3) (fun t => t = 3) where
  given t h _ := by simpa using h.1
  kc t h := h
  made t hk hm := by
    rw [knownB_iff, y3len] at hk
    obtain ⟨k1, k2, k3⟩ := y3k
    rcases (by omega : t = 1 ∨ t = 2 ∨ t = 3) with rfl | rfl | rfl
    · unfold MadeP at hm; rw [k1] at hm; simp at hm
    · unfold MadeP at hm; rw [k2] at hm; simp at hm
    · rfl
  apart t x h ha := by
    subst h
    unfold ApartP at ha
    rw [y3k.2.2] at ha
    simp at ha

theorem y3_no : ¬ CanD Y3 (fun t => t ∈ [(3 : Int)] ∧ knownB Y3.length t = true) 1 ∧ ¬ CanD Y3 (fun t => t ∈ [(3 : Int)] ∧ knownB Y3.length t = true) 2 :=
  ⟨fun h => by have := h _ _ y3_closed; omega, fun h => by have := h _ _ y3_closed; omega⟩
theorem y3_yes : CanD Y3 (fun t => t ∈ [(3 : Int)] ∧ knownB Y3.length t = true) 3 :=
  (closedD _ _).kc _ ((closedD _ _).given _ ⟨by simp, by decide⟩ (by decide))
theorem y3_all : ∀ t, knownB Y3.length t = true → CanD Y3 (fun t => (t ∈ [(3 : Int)] ∧ knownB Y3.length t = true) ∨ t ∈ [(1 : Int)]) t := by
  intro t hk
  rw [knownB_iff, y3len] at hk
  have c1 : KnD Y3 (fun t => (t ∈ [(3 : Int)] ∧ knownB Y3.length t = true) ∨ t ∈ [(1 : Int)]) 1 := (closedD _ _).given _ (.inr (by simp)) (by decide)
  have c3 : KnD Y3 (fun t => (t ∈ [(3 : Int)] ∧ knownB Y3.length t = true) ∨ t ∈ [(1 : Int)]) 3 := (closedD _ _).given _ (.inl ⟨by simp, by decide⟩) (by decide)
  have c2 : KnD Y3 (fun t => (t ∈ [(3 : Int)] ∧ knownB Y3.length t = true) ∨ t ∈ [(1 : Int)]) 2 := (closedD _ _).apart 3 2 c3 (by
    rw [y3k.2.2]
    exact .inr (.inl ⟨rfl, (closedD _ _).kc _ c1, rfl⟩))
  rcases (by omega : t = 1 ∨ t = 2 ∨ t = 3) with rfl | rfl | rfl
  · exact (closedD _ _).kc _ c1
  · exact (closedD _ _).kc _ c2
  · exact (closedD _ _).kc _ c3

set_option maxHeartbeats 4000000 in
theorem anchor_calls (w : World) : Calls Try.prog 7 #[] w fun e w' => e = .returned (.bool true) ∧ Chg none_ w w' := by
  go_enter Try.func7, Try.ntmps7
  go_wp2_with (go_at_call 18; refine (new_own _).mono ?_; rintro e w1 ⟨p, rfl, O0, K0⟩)
  go_wp2_with fail
  refine (O0.fresh).mono ?_; rintro e w2 ⟨rfl, O1, K1⟩; rw [yanc1.2.1, yanc1.2.2] at O1; simp only [yanc1.1]
  go_wp2_with fail
  refine (O1.fresh).mono ?_; rintro e w3 ⟨rfl, O2, K2⟩; rw [yanc2.2.1, yanc2.2.2] at O2; simp only [yanc2.1]
  go_wp2_with (go_at_call 26; refine (O2.seal_ 1 2).mono ?_; rintro e w4 ⟨rfl, O3, K3⟩; rw [yanc3.2] at O3; simp only [yanc3.1])
  have KK := ((((K0.kept (X := fun k => k < w.heap.size) (fun _ h => h)).trans K1 (fun _ h => h)).trans K2 (fun _ h => h)).trans K3 (fun _ h => h))
  obtain ⟨s, rfl, hn, _, hst, hdis⟩ := O3.at_
  have hlt := O3.lt
  have hc4 : Chg none_ w w4 := ⟨KK.os, KK.tape, KK.output, KK.size, fun k hk _ => KK.block k hk⟩
  have HC4 := Lib.hid hc4
  clear O0 O1 O2 O3 K0 K1 K2 K3 KK hlt hdis hc4
  have hw := hst.wf
  rw [hn] at hw
  have HW := Lib.hid hw
  have HN := Lib.hid hn
  clear hw hn
  refine (newmind_calls (hst.alloc _) (inI_one w4 3) (by simp)).mono ?_
  rintro e w5 ⟨q, rfl, hq, hqs, hqo, hc5, hk⟩
  rw [HN.out] at hk
  have hlen : q.can.length ≤ 262145 := by rw [hk.len, y3len]; omega
  have b3 := hk.canY HW.out y3_yes
  have b1 := hk.canF HW.out y3_no.1
  have b2 := hk.canF HW.out y3_no.2
  have HLT := Lib.hid (fun k (hk : s.own k) => hst.own_lt hk)
  have hst5 := (hst.alloc (.cells #[.int .i64 3] 3)).chg hc5 (fun _ _ h => h)
  have HQ := Lib.hid hq
  have HK := Lib.hid hk
  have HC5 := Lib.hid (And.intro hc5 (And.intro hqs hqo))
  have HST := Lib.hid hst5
  clear hq hk hc5 hst5 hst hqs hqo
  go_wp2_with fail
  refine (can_calls HQ.out hlen 3).mono ?_; rintro e w6 ⟨rfl, rfl⟩
  rw [b3]
  go_wp2_with fail
  refine (can_calls HQ.out hlen 1).mono ?_; rintro e w7 ⟨rfl, rfl⟩
  rw [b1]
  go_wp2_with fail
  refine (can_calls HQ.out hlen 2).mono ?_; rintro e w8 ⟨rfl, rfl⟩
  rw [b2]
  go_wp2_with fail
  clear b1 b2 b3
  obtain ⟨hc5, hqs, hqo⟩ := HC5.out
  have sep : Sep q s := fun k hk hs => by
    have h1 := hqo k hk
    have h2 := HLT.out k hs
    simp only [World.size_alloc] at h1
    omega
  have hne : [(1 : Int)] ≠ [] → ∀ b off, (some ⟨w8.heap.size, 0, none⟩ : Option Addr) = some ⟨b, off, none⟩ → ¬ q.own b := fun _ b off e h => by
    injection e with e
    injection e with e
    subst e
    exact Nat.lt_irrefl _ (HQ.out.own_lt h)
  refine (learn_knows (cap := 1) (N0 := Y3) (HQ.out.alloc _) (HST.out.alloc _) hqs sep (inI_one w8 1) hne (by simp) HK.out HW.out (by rw [HN.out]; exact List.prefix_refl _) (fun t h => h.2)).mono ?_
  rintro e w9 ⟨rfl, q2, hq2, hp2, _, _, hc9, hk2⟩
  rw [HN.out] at hk2
  have hlen2 : q2.can.length ≤ 262145 := by rw [hk2.len, y3len]; omega
  have hcc := can_calls hq2 hlen2 2
  have hct := count_calls hq2 hlen2
  rw [Mind.ptr, hp2] at hcc hct
  rw [hk2.canY HW.out (y3_all 2 (by decide))] at hcc
  rw [hk2.all y3_all, y3len] at hct
  have HCC := Lib.hid hcc
  have HCT := Lib.hid hct
  have hfin : Chg none_ w w9 := by
    refine HC4.out.trans (M' := fun k => w4.heap.size ≤ k) ?_ (fun k hk h => by have := HC4.out.size; omega)
    have h1 : Chg none_ w4 w8 := ((Chg.refl none_ w4).alloc _).trans hc5 (fun _ _ h => h)
    have h2 := h1.alloc (.cells #[.int .i64 1] 3)
    exact (h2.mono (fun _ _ h => h.elim)).trans hc9 (fun k _ h => by have := hqo k h; simp only [World.size_alloc] at this; omega)
  have HFIN := Lib.hid hfin
  clear hcc hct hfin hq2 hc9 hk2 hne sep hqo hqs hc5
  go_wp2_with fail
  refine HCC.out.mono ?_; rintro e w10 ⟨rfl, rfl⟩
  go_wp2_with fail
  refine HCT.out.mono ?_; rintro e w11 ⟨rfl, rfl⟩
  go_wp2
  go_ret
  exact ⟨rfl, HFIN.out⟩

end Go.Proofs.Ytmdfhaihbaiegaa
