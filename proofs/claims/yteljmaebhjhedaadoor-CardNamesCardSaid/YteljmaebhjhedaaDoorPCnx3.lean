/- What this claim reaches of a longer text of this session. -/
import Derived.Test.YteljmaebhjhedaaDoorPCnx0
import Derived.Test.YteljmaebhjhedaaDoorPCnx1
import Derived.Test.YteljmaebhjhedaaDoorPCnx2
import Derived.Test.YteljmaebhjhedaaDoorStW
import Derived.Test.YteljmaebhjhedaaDoorRef
import Derived.Test.YteljmaebhjhedaaDoorBase
import Derived.Shelf.Spec.TrailingZeros
import Derived.Lib.ItoaNum
import Derived.Lib.LaidTab
import Derived.Test.YteljmaebhjhedaaDoorShelf
namespace Go.Proofs.YteljmaebhjhedaaDoor.PCn
open Go.RowKit Go.Proofs.YteljmaebhjhedaaDoorW.PrintWords Go.Proofs.YteljmaebhjhedaaDoorW.PrintLast Go.Proofs.YteljmaebhjhedaaDoorW.PrintMore
attribute [local go_sem] max2_int min2_int max_two min_two max_three min_three max_four min_four   -- for this text's walks alone
set_option linter.unusedVariables false
set_option linter.unusedSimpArgs false
def put (s : TS) (n : Nd) : Int × TS := (mkT s.nodes n, ⟨mkL s.nodes n, s.drawn⟩)
def fresh (s : TS) : Int × TS := (mkT s.nodes (freshN s.drawn), ⟨mkL s.nodes (freshN s.drawn), freshD s.nodes s.drawn⟩)
def freshes (s : TS) : Nat → TS
  | 0 => s
  | n + 1 => (fresh (freshes s n)).2
theorem StoreAt.of {w0 w : World} {g : Nat} {s : TS} (h : IsS60 w0 w g s) : ∃ q : St, q.p = g ∧ q.nodes = s.nodes ∧ q.drawn = s.drawn ∧ StoreAt w q ∧ ∀ k, q.own k → w0.heap.size ≤ k := by
  obtain ⟨m, sl, h1, h2⟩ := h
  exact ⟨_, rfl, rfl, rfl, h1, h2⟩
theorem st_next {w0 w : World} {g : Nat} {s s2 : TS} {f : Nat} {args : Array Value} {r : Int} (hI : IsS60 w0 w g s) (hB : Below w0.heap.size w0 w)
    (hc : ∀ q : St, q.p = g → q.nodes = s.nodes → q.drawn = s.drawn → StoreAt w q → Calls Tryd.prog f args w fun e w' => e = .returned (.int .i64 r) ∧ Go.Proofs.YteljmaebhjhedaaDoor.Next q w s2.nodes s2.drawn w') :
    Calls Tryd.prog f args w fun e w' => e = .returned (.int .i64 r) ∧ IsS60 w0 w' g s2 ∧ Below w0.heap.size w0 w' ∧ KeepSt w w' w0 := by
  obtain ⟨q, h1, h2, h3, h4, h5⟩ := StoreAt.of hI
  refine (hc q h1 h2 h3 h4).mono ?_
  rintro e w' ⟨he, hn⟩
  have := IsS60.next h4 h5 hB hn
  rw [h1] at this
  exact ⟨he, this⟩
set_option maxHeartbeats 1000000 in
theorem new_calls2 (w : World) : Calls Tryd.prog 18 #[] w fun e w' => ∃ s : St, e = .returned s.ptr ∧ StoreAt w' s ∧ s.nodes = [] ∧ s.drawn = 0 ∧ (∀ k, s.own k → w.heap.size ≤ k) ∧ Chg none_ w w' ∧ s.p + 1 = w'.heap.size := by
  have hmm := @run_makeMap Tryd.prog
  go_enter Tryd.func18, Tryd.ntmps18
  go_wp2
  go_ret
  refine ⟨⟨w.heap.size + 1, w.heap.size, .slice none 0 0, [], 0⟩, rfl, ⟨?_, ?_, World.ownsRow_nil _ _ _ _, List.nodup_nil, Nat.zero_le _, Int.le_refl _, by show (0 : Int) ≤ 1099511627776; decide, WF.nil⟩, rfl, rfl, ?_, ((Chg.refl _ _).alloc _).alloc _, by simp⟩
  · have := heap_alloc_at (w := w.alloc (.map #[] 0)) (o := .cells #[.slice none 0 0, .map (some w.heap.size), .int .i64 0] 60 (0, 0))
    simpa using this
  · show ((w.alloc (.map #[] 0)).alloc _).heap[w.heap.size]? = _
    rw [heap_alloc_lt (by simp)]; exact heap_alloc_at
  · rintro k (rfl | rfl | hk)
    · show w.heap.size ≤ w.heap.size + 1; omega
    · exact Nat.le_refl _
    · simp [Value.ownBlock] at hk
structure Two (W w : World) (p q : Nat) (s r : TS) : Prop where
  out : ∃ (a : St) (b : Rf), a.p = p ∧ b.p = q ∧ a.nodes = s.nodes ∧ a.drawn = s.drawn ∧ b.nodes = r.nodes ∧ b.drawn = r.drawn ∧ StoreAt w a ∧ RefAt w b ∧ (∀ k, a.own k → ¬ b.own k) ∧ (∀ k, a.own k → W.heap.size ≤ k) ∧ (∀ k, b.own k → W.heap.size ≤ k) ∧ Chg none_ W w
theorem Two.fresh_s {W w : World} {p q : Nat} {s r : TS} (h : Two W w p q s r) : Calls Tryd.prog 19 #[.pointer (some ⟨p, 0, none⟩)] w fun e w' => e = .returned (.int .i64 (fresh s).1) ∧ Two W w' p q (fresh s).2 r := by
  obtain ⟨a, b, rfl, rfl, e1, e2, e3, e4, h1, h2, h3, h4, h5, h6⟩ := h.out
  refine (fresh_calls h1).mono ?_
  rintro e w' ⟨rfl, hn⟩
  obtain ⟨⟨a', k1, k2, k3, k4, k5, k6⟩⟩ := hn
  refine ⟨by rw [e1, e2]; rfl, ⟨a', b, k2, rfl, by rw [k3, e1, e2]; rfl, by rw [k4, e1, e2]; rfl, e3, e4, k1, h2.chg k6 fun k hk h => h3 k h hk, fun k hk hb => ?_, fun k hk => ?_, h5, ?_⟩⟩
  · rcases k5 k hk with h | h
    · exact h3 k h hb
    · have := h2.own_lt hb; omega
  · rcases k5 k hk with h | h
    · exact h4 k h
    · exact Nat.le_trans h6.size h
  · exact h6.trans k6 fun i hi h => by have := h4 i h; omega
theorem Two.fresh_r {W w : World} {p q : Nat} {s r : TS} (h : Two W w p q s r) : Calls Tryd.prog 20 #[.pointer (some ⟨q, 0, none⟩)] w fun e w' => e = .returned (.int .i64 (fresh r).1) ∧ Two W w' p q s (fresh r).2 := by
  obtain ⟨a, b, rfl, rfl, e1, e2, e3, e4, h1, h2, h3, h4, h5, h6⟩ := h.out
  refine (rfresh_calls h2).mono ?_
  rintro e w' ⟨rfl, hn⟩
  obtain ⟨⟨b', k1, k2, k3, k4, k5, k6⟩⟩ := hn
  refine ⟨by rw [e3, e4]; rfl, ⟨a, b', rfl, k2, e1, e2, by rw [k3, e3, e4]; rfl, by rw [k4, e3, e4]; rfl, h1.chg k6 fun k hk h => h3 k hk h, k1, fun k hk hb => ?_, h4, fun k hk => ?_, ?_⟩⟩
  · rcases k5 k hb with h | h
    · exact h3 k hk h
    · have := h1.own_lt hk; omega
  · rcases k5 k hk with h | h
    · exact h5 k h
    · exact Nat.le_trans h6.size h
  · exact h6.trans k6 fun i hi h => by have := h5 i h; omega
def natAt (v : Value) : Nat := match v with | .int _ n => n.toNat | _ => 0
theorem Two.store {W w : World} {p q : Nat} {s r : TS} (h : Two W w p q s r) {w0 : World} (hB : Below w0.heap.size w0 W) : IsS60 w0 w p s ∧ Below w0.heap.size w0 w ∧ Below W.heap.size W w := by
  obtain ⟨a, b, rfl, rfl, e1, e2, e3, e4, h1, h2, h3, h4, h5, h6⟩ := h.out
  have hb : Below W.heap.size W w := h6.below (Nat.le_refl _) (fun _ _ h => h)
  obtain ⟨ap, am, asl, an, ad⟩ := a
  dsimp only at e1 e2
  subst e1 e2
  exact ⟨⟨am, asl, h1, fun k hk => Nat.le_trans hB.size (h4 k hk)⟩, hB.trans (hb.mono hB.size), hb⟩
def pubs (s : TS) : Nat → TS
  | 0 => s
  | n + 1 => (put (pubs s n) ⟨6, ByteArray.empty, (n : Int) + 1, 0⟩).2
def conclavelaw09_stores.f (a0 : Int) : Option (TS) := if 0 ≤ a0 ∧ a0 ≤ 1000000 then some (pubs (freshes ⟨[], 0⟩ a0.toNat) a0.toNat) else none
theorem Two.pub_s {W w : World} {p q : Nat} {s r : TS} (h : Two W w p q s r) (a : Int) : Calls Tryd.prog 9 #[.pointer (some ⟨p, 0, none⟩), .int .i64 a] w fun e w' => e = .returned (.int .i64 (put s ⟨6, ByteArray.empty, a, 0⟩).1) ∧ Two W w' p q (put s ⟨6, ByteArray.empty, a, 0⟩).2 r := by
  obtain ⟨x, b, rfl, rfl, e1, e2, e3, e4, h1, h2, h3, h4, h5, h6⟩ := h.out
  refine (pub_calls h1 a).mono ?_
  rintro e w' ⟨rfl, hn⟩
  obtain ⟨⟨a', k1, k2, k3, k4, k5, k6⟩⟩ := hn
  refine ⟨by rw [e1]; rfl, ⟨a', b, k2, rfl, by rw [k3, e1]; rfl, by rw [k4, e2]; rfl, e3, e4, k1, h2.chg k6 fun k hk h => h3 k h hk, fun k hk hb => ?_, fun k hk => ?_, h5, ?_⟩⟩
  · rcases k5 k hk with h | h
    · exact h3 k h hb
    · have := h2.own_lt hb; omega
  · rcases k5 k hk with h | h
    · exact h4 k h
    · exact Nat.le_trans h6.size h
  · exact h6.trans k6 fun i hi h => by have := h4 i h; omega
theorem Two.pub_r {W w : World} {p q : Nat} {s r : TS} (h : Two W w p q s r) (a : Int) : Calls Tryd.prog 21 #[.pointer (some ⟨q, 0, none⟩), .int .i64 a] w fun e w' => e = .returned (.int .i64 (put r ⟨6, ByteArray.empty, a, 0⟩).1) ∧ Two W w' p q s (put r ⟨6, ByteArray.empty, a, 0⟩).2 := by
  obtain ⟨x, b, rfl, rfl, e1, e2, e3, e4, h1, h2, h3, h4, h5, h6⟩ := h.out
  refine (rpub_calls h2 a).mono ?_
  rintro e w' ⟨rfl, hn⟩
  obtain ⟨⟨b', k1, k2, k3, k4, k5, k6⟩⟩ := hn
  refine ⟨by rw [e3]; rfl, ⟨x, b', rfl, k2, e1, e2, by rw [k3, e3]; rfl, by rw [k4, e4]; rfl, h1.chg k6 fun k hk h => h3 k hk h, k1, fun k hk hb => ?_, h4, fun k hk => ?_, ?_⟩⟩
  · rcases k5 k hb with h | h
    · exact h3 k hk h
    · have := h1.own_lt hk; omega
  · rcases k5 k hk with h | h
    · exact h5 k h
    · exact Nat.le_trans h6.size h
  · exact h6.trans k6 fun i hi h => by have := h5 i h; omega
def StoresRel (W : World) (p q n : Nat) (iv : Value) (wr : World) : Prop := ∃ k : Nat, k ≤ n ∧ iv = .int .i64 k ∧ Two W wr p q (freshes ⟨[], 0⟩ k) (freshes ⟨[], 0⟩ k)
def StoresRel2 (W : World) (p q n : Nat) (iv : Value) (wr : World) : Prop := ∃ k : Nat, k ≤ n ∧ iv = .int .i64 ((k + 1 : Nat) : Int) ∧ Two W wr p q (pubs (freshes ⟨[], 0⟩ n) k) (pubs (freshes ⟨[], 0⟩ n) k)
set_option maxHeartbeats 1000000 in
theorem stores_two (a0 : Int) (h00 : 0 ≤ a0) (h0 : a0 ≤ 1000000) (w : World) : Calls Tryd.prog 8 #[.int .i64 a0] w fun e w' => ∃ g : Nat, e = .returned (.tuple #[.pointer (some ⟨g, 0, none⟩), .pointer (some ⟨g + 1, 0, none⟩)]) ∧ Two w w' g (g + 1) (pubs (freshes ⟨[], 0⟩ a0.toNat) a0.toNat) (pubs (freshes ⟨[], 0⟩ a0.toNat) a0.toNat) := by
  go_enter Tryd.func8, Tryd.ntmps8
  go_wp2_with (go_at_call 18; refine (new_calls2 _).mono ?_; rintro e w1 ⟨s, rfl, hs, e1, e2, hown, hch, hp⟩; obtain ⟨sp, sm, ssl, snd, sdr⟩ := s; dsimp only at e1 e2; subst e1 e2; simp only [St.ptr] at *)
  have hst : Two w (w1.alloc (.cells #[.slice none 0 0, .int .i64 0] 52 (0, 0))) sp (sp + 1) (freshes ⟨[], 0⟩ 0) (freshes ⟨[], 0⟩ 0) := by
    refine ⟨⟨⟨sp, sm, ssl, [], 0⟩, ⟨sp + 1, .slice none 0 0, [], 0⟩, rfl, rfl, rfl, rfl, rfl, rfl, hs.alloc _, ⟨?_, World.ownsRow_nil _ _ _ _, List.nodup_nil, Nat.zero_le _, Int.le_refl _, by show (0 : Int) ≤ 1099511627776; decide, WF.nil⟩, fun k hk hb => ?_, hown, fun k hb => ?_, hch.alloc _⟩⟩
    · show (w1.alloc _).heap[sp + 1]? = _
      rw [hp]; exact heap_alloc_at
    · have := hs.own_lt hk
      rcases hb with rfl | hb
      · dsimp only at this; omega
      · simp [Value.ownBlock] at hb
    · rcases hb with rfl | hb
      · dsimp only; rw [hp]; exact hch.size
      · simp [Value.ownBlock] at hb
  rw [hp] at hst
  have HST := Lib.hid hst
  clear hst hs hown hch
  have hpn : sp + 1 = w1.heap.size := hp
  clear hp
  generalize w1.alloc (.cells #[.slice none 0 0, .int .i64 0] 52) = w2 at *
  generalize w1.heap.size = q at *
  go_loopw [6] (fun iv wr => StoresRel w sp q a0.toNat iv wr) (fun iv _ => a0.toNat - natAt iv)
  case atStart => exact ⟨0, Nat.zero_le _, rfl, HST.out⟩
  case round =>
    clear HST
    obtain ⟨k, hk, rfl, h2⟩ := hrel
    have H := Lib.hid h2
    clear h2
    by_cases hlt : (k : Int) < a0
    · have hF := fun wx hx => Two.fresh_r (W := w) (w := wx) (p := sp) (q := q) (s := (fresh (freshes ⟨[], 0⟩ k)).2) (r := freshes ⟨[], 0⟩ k) hx
      have HF := Lib.hid hF
      clear hF
      go_wp2_with (first
        | (go_at_call 19; refine (H.out.fresh_s).mono ?_; rintro e w3 ⟨rfl, h3⟩)
        | (go_at_call 20; refine (HF.out _ h3).mono ?_; rintro e w4 ⟨rfl, h4⟩))
      refine ⟨⟨k + 1, by omega, by go_num, h4⟩, ?_⟩
      simp [natAt]; omega
    · go_wp2
      have e : a0.toNat = k := by omega
      have hst2 : StoresRel2 w sp q a0.toNat (.int .i64 1) wr := ⟨0, Nat.zero_le _, rfl, by rw [e]; exact H.out⟩
      have HST2 := Lib.hid hst2
      clear hst2 H e
      go_loopw [7] (fun iv wr => StoresRel2 w sp q a0.toNat iv wr) (fun iv _ => a0.toNat + 1 - natAt iv)
      case atStart => exact HST2.out
      case round =>
        clear HST2
        obtain ⟨j, hj, rfl, h3⟩ := hrel
        have H3 := Lib.hid h3
        clear h3
        by_cases hlt2 : ((j + 1 : Nat) : Int) ≤ a0
        · have hP := fun wx hx => Two.pub_r (W := w) (w := wx) (p := sp) (q := q) (s := (put (pubs (freshes ⟨[], 0⟩ a0.toNat) j) ⟨6, ByteArray.empty, ((j + 1 : Nat) : Int), 0⟩).2) (r := pubs (freshes ⟨[], 0⟩ a0.toNat) j) hx ((j + 1 : Nat) : Int)
          have HP := Lib.hid hP
          clear hP
          go_wp2_with (first
            | (go_at_call 9; refine (H3.out.pub_s _).mono ?_; rintro e w3 ⟨rfl, h3⟩)
            | (go_at_call 21; refine (HP.out _ h3).mono ?_; rintro e w4 ⟨rfl, h4⟩))
          refine ⟨⟨j + 1, by omega, by go_num, h4⟩, ?_⟩
          simp [natAt]; omega
        · go_wp2
          go_ret2
          refine ⟨sp, by rw [hpn]; rfl, ?_⟩
          have e : a0.toNat = j := by omega
          rw [hpn]
          have := H3.out
          rw [← e] at this
          exact this
theorem conclavelaw09_stores.calls (a0 : Int) (r : TS) (w0 w : World) (hB : Below w0.heap.size w0 w) (h : conclavelaw09_stores.f a0 = some r) :
    Calls Tryd.prog 8 #[.int .i64 a0] w fun e w' => ∃ g_ : Nat, e = .returned (.tuple #[.pointer (some ⟨g_, 0, none⟩), .pointer (some ⟨g_ + 1, 0, none⟩)]) ∧ IsS60 w0 w' g_ r ∧ Below w0.heap.size w0 w' ∧ Below w.heap.size w w' := by
  unfold conclavelaw09_stores.f at h
  split at h
  case isFalse => cases h
  rename_i h0
  cases h
  refine (stores_two a0 h0.1 h0.2 w).mono ?_
  rintro e w' ⟨g, rfl, h2⟩
  exact ⟨g, rfl, h2.store hB⟩
def term_Store_Pub.f (s0_0 : TS) (a1 : Int) : Option (Int × TS) := some (put s0_0 ⟨6, ByteArray.empty, a1, 0⟩)
theorem term_Store_Pub.calls (g : Nat) (s0_0 : TS) (a1 : Int) (r1 : Int) (r2 : TS) (w0 w : World) (hI : IsS60 w0 w g s0_0) (hB : Below w0.heap.size w0 w) (h : term_Store_Pub.f s0_0 a1 = some (r1, r2)) :
    Calls Tryd.prog 9 #[.pointer (some ⟨g, 0, none⟩), .int .i64 a1] w fun e w' => e = .returned (.int .i64 r1) ∧ IsS60 w0 w' g r2 ∧ Below w0.heap.size w0 w' ∧ KeepSt w w' w0 := by
  cases h
  refine st_next hI hB fun q h1 h2 h3 h4 => ?_
  have := pub_calls h4 a1
  rw [St.ptr, h1, h2, h3] at this
  exact this
def term_Store_Sign.f (s0_0 : TS) (a1 : Int) (a2 : Int) : Option (Int × TS) := some (put s0_0 ⟨9, ByteArray.empty, a1, a2⟩)
theorem term_Store_Sign.calls (g : Nat) (s0_0 : TS) (a1 : Int) (a2 : Int) (r1 : Int) (r2 : TS) (w0 w : World) (hI : IsS60 w0 w g s0_0) (hB : Below w0.heap.size w0 w) (h : term_Store_Sign.f s0_0 a1 a2 = some (r1, r2)) :
    Calls Tryd.prog 23 #[.pointer (some ⟨g, 0, none⟩), .int .i64 a1, .int .i64 a2] w fun e w' => e = .returned (.int .i64 r1) ∧ IsS60 w0 w' g r2 ∧ Below w0.heap.size w0 w' ∧ KeepSt w w' w0 := by
  cases h
  refine st_next hI hB fun q h1 h2 h3 h4 => ?_
  have := sign_calls h4 a1 a2
  rw [St.ptr, h1, h2, h3] at this
  exact this
def term_Store_Hash.f (s0_0 : TS) (a1 : ByteArray) (a2 : Int) : Option (Int × TS) := some (put s0_0 ⟨4, a1, a2, 0⟩)
theorem term_Store_Hash.calls (g : Nat) (s0_0 : TS) (a1 : ByteArray) (a2 : Int) (r1 : Int) (r2 : TS) (w0 w : World) (hI : IsS60 w0 w g s0_0) (hB : Below w0.heap.size w0 w) (h : term_Store_Hash.f s0_0 a1 a2 = some (r1, r2)) :
    Calls Tryd.prog 24 #[.pointer (some ⟨g, 0, none⟩), .string a1, .int .i64 a2] w fun e w' => e = .returned (.int .i64 r1) ∧ IsS60 w0 w' g r2 ∧ Below w0.heap.size w0 w' ∧ KeepSt w w' w0 := by
  cases h
  refine st_next hI hB fun q h1 h2 h3 h4 => ?_
  have := hash_calls h4 a1 a2
  rw [St.ptr, h1, h2, h3] at this
  exact this
def term_Store_known.f (s0_0 : TS) (a1 : Int) : Option (Bool × TS) := some (knownB s0_0.nodes.length a1, s0_0)
theorem term_Store_known.calls (g : Nat) (s0_0 : TS) (a1 : Int) (r1 : Bool) (r2 : TS) (w0 w : World) (hI : IsS60 w0 w g s0_0) (hB : Below w0.heap.size w0 w) (h : term_Store_known.f s0_0 a1 = some (r1, r2)) :
    Calls Tryd.prog 30 #[.pointer (some ⟨g, 0, none⟩), .int .i64 a1] w fun e w' => e = .returned (.bool r1) ∧ IsS60 w0 w' g r2 ∧ Below w0.heap.size w0 w' ∧ KeepSt w w' w0 := by
  cases h
  obtain ⟨q, h1, h2, h3, h4, h5⟩ := StoreAt.of hI
  have := known_calls h4 a1
  rw [St.ptr, h1, h2] at this
  refine this.mono ?_
  rintro e w' ⟨rfl, rfl⟩
  exact ⟨rfl, hI, hB, .refl _ _⟩
def term_Store_Text.f (s0_0 : TS) (a1 : ByteArray) : Option (Int × TS) := some (put s0_0 ⟨2, a1, 0, 0⟩)
theorem term_Store_Text.calls (g : Nat) (s0_0 : TS) (a1 : ByteArray) (r1 : Int) (r2 : TS) (w0 w : World) (hI : IsS60 w0 w g s0_0) (hB : Below w0.heap.size w0 w) (h : term_Store_Text.f s0_0 a1 = some (r1, r2)) :
    Calls Tryd.prog 39 #[.pointer (some ⟨g, 0, none⟩), .string a1] w fun e w' => e = .returned (.int .i64 r1) ∧ IsS60 w0 w' g r2 ∧ Below w0.heap.size w0 w' ∧ KeepSt w w' w0 := by
  cases h
  refine st_next hI hB fun q h1 h2 h3 h4 => ?_
  have := text_calls h4 a1
  rw [St.ptr, h1, h2, h3] at this
  exact this
def term_Store_Pair.f (s0_0 : TS) (a1 : Int) (a2 : Int) : Option (Int × TS) := some (put s0_0 ⟨3, ByteArray.empty, a1, a2⟩)
theorem term_Store_Pair.calls (g : Nat) (s0_0 : TS) (a1 : Int) (a2 : Int) (r1 : Int) (r2 : TS) (w0 w : World) (hI : IsS60 w0 w g s0_0) (hB : Below w0.heap.size w0 w) (h : term_Store_Pair.f s0_0 a1 a2 = some (r1, r2)) :
    Calls Tryd.prog 40 #[.pointer (some ⟨g, 0, none⟩), .int .i64 a1, .int .i64 a2] w fun e w' => e = .returned (.int .i64 r1) ∧ IsS60 w0 w' g r2 ∧ Below w0.heap.size w0 w' ∧ KeepSt w w' w0 := by
  cases h
  refine st_next hI hB fun q h1 h2 h3 h4 => ?_
  have := pair_calls h4 a1 a2
  rw [St.ptr, h1, h2, h3] at this
  exact this
mutual
def term_Store_List.l0 : Nat → List Int → List Int → Int → Int → TS → Option (Int × TS)
  | 0, _, _, _, _, _ => none
  | k + 1, x1, x9, x10, x11, x1000 => if x11 < x10 then (if 0 ≤ x11 then (if x11 < (x9.length : Int) then ((term_Store_known.f x1000 (rd x9 x11)).bind fun bt115 => (if bt115.1 = true then (term_Store_List.l0 k x1 x9 x10 (wrap64 (x11 + 1)) bt115.2) else (some (0, bt115.2)))) else (none)) else (none)) else ((term_Store_Text.f x1000 (⟨#[]⟩ : ByteArray)).bind fun bt117 => (term_Store_List.l1 k x1 bt117.1 (wrap64 ((x1.length : Int) - 1)) bt117.2))
def term_Store_List.l1 : Nat → List Int → Int → Int → TS → Option (Int × TS)
  | 0, _, _, _, _ => none
  | k + 1, x1, x7, x8, x1000 => if x8 ≥ 0 then (if 0 ≤ x8 then (if x8 < (x1.length : Int) then ((term_Store_Pair.f x1000 (rd x1 x8) x7).bind fun bt120 => (term_Store_List.l1 k x1 bt120.1 (wrap64 (x8 - 1)) bt120.2)) else (none)) else (none)) else (some (x7, x1000))
end
def term_Store_List.f (k : Nat) (s0_0 : TS) (l1 : List Int) : Option (Int × TS) := term_Store_List.l0 k l1 l1 (l1.length : Int) 0 s0_0
theorem term_Store_List.mono_l : ∀ k, (∀ y0 y1 y2 y3 y4, LeO (term_Store_List.l0 k y0 y1 y2 y3 y4) (term_Store_List.l0 (k + 1) y0 y1 y2 y3 y4)) ∧ (∀ y0 y1 y2 y3, LeO (term_Store_List.l1 k y0 y1 y2 y3) (term_Store_List.l1 (k + 1) y0 y1 y2 y3))
  | 0 => ⟨fun _ _ _ _ _ r h => by simp [term_Store_List.l0] at h, fun _ _ _ _ r h => by simp [term_Store_List.l1] at h⟩
  | k + 1 => by
    obtain ⟨ih0, ih1⟩ := term_Store_List.mono_l k
    refine ⟨?_, ?_⟩
    · intro y0 y1 y2 y3 y4
      unfold term_Store_List.l0
      repeat' first
      | (with_reducible exact ih0 _ _ _ _ _)
      | (with_reducible exact ih1 _ _ _ _)
      | (with_reducible exact LeO.refl _)
      | (with_reducible exact LeO.none _)
      | (with_reducible refine LeO.ite ?_ ?_)
      | (with_reducible refine LeO.bind ?_ (fun _ => ?_))
      | exact ih0 _ _ _ _ _
      | exact ih1 _ _ _ _
      | exact LeO.none _
      | refine LeO.ite ?_ ?_
      | refine LeO.bind ?_ (fun _ => ?_)
    · intro y0 y1 y2 y3
      unfold term_Store_List.l1
      repeat' first
      | (with_reducible exact ih0 _ _ _ _ _)
      | (with_reducible exact ih1 _ _ _ _)
      | (with_reducible exact LeO.refl _)
      | (with_reducible exact LeO.none _)
      | (with_reducible refine LeO.ite ?_ ?_)
      | (with_reducible refine LeO.bind ?_ (fun _ => ?_))
      | exact ih0 _ _ _ _ _
      | exact ih1 _ _ _ _
      | exact LeO.none _
      | refine LeO.ite ?_ ?_
      | refine LeO.bind ?_ (fun _ => ?_)
theorem term_Store_List.mono : ∀ a0 a1 k, LeO (term_Store_List.f k a0 a1) (term_Store_List.f (k + 1) a0 a1) := by
  intro a0 a1 k
  obtain ⟨ih0, ih1⟩ := term_Store_List.mono_l k
  unfold term_Store_List.f
  repeat' first
      | (with_reducible exact ih0 _ _ _ _ _)
      | (with_reducible exact ih1 _ _ _ _)
      | (with_reducible exact LeO.refl _)
      | (with_reducible exact LeO.none _)
      | (with_reducible refine LeO.ite ?_ ?_)
      | (with_reducible refine LeO.bind ?_ (fun _ => ?_))
      | exact ih0 _ _ _ _ _
      | exact ih1 _ _ _ _
      | exact LeO.none _
      | refine LeO.ite ?_ ?_
      | refine LeO.bind ?_ (fun _ => ?_)
set_option maxHeartbeats 8000000 in
set_option maxRecDepth 100000 in
theorem term_Store_List.calls (k : Nat) (g : Nat) (s0_0 : TS) (A1 : Option Addr) (c1 : Nat) (l1 : List Int) (r1 : Int) (r2 : TS) (w0 w : World) (hI : IsS60 w0 w g s0_0) (hB : Below w0.heap.size w0 w) (hr1 : Kd.C (Kd.int .i64) w A1 l1.length l1) (hc1 : l1.length ≤ c1) (hf1 : ∀ ad, A1 = some ad → 0 < l1.length → SepB w0 w ad.block) (h : term_Store_List.f k s0_0 l1 = some (r1, r2)) :
    Calls Tryd.prog 33 #[.pointer (some ⟨g, 0, none⟩), .slice A1 l1.length c1] w fun e w' => e = .returned (.int .i64 r1) ∧ IsS60 w0 w' g r2 ∧ Below w0.heap.size w0 w' ∧ KeepSt w w' w0 := by
  have HR1 := Aside0.mk hr1
  have HC1 := Aside0.mk hc1
  clear hr1 hc1
  have HI0 := Aside0.mk hI
  have HK := Aside0.mk (KeepSt.refl w w0)
  have HL := Aside0.mk hB.size
  clear hI
  have HW0 := Aside0.mk hB.size
  have HB := Aside0.mk hB
  clear hB
  have H : (term_Store_List.l0 k l1 l1 (l1.length : Int) 0 s0_0) = some (r1, r2) := h
  clear h
  have H' := Aside0.mk H
  clear H
  go_enter Tryd.func33, Tryd.ntmps33
  go_wp2
  go_loopg [11] k (fun kq v11 w' => ∃ (x11_1 : Int) (x1000_1 : TS), v11 = .int .i64 x11_1 ∧ Aside0 (term_Store_List.l0 kq l1 l1 (l1.length : Int) x11_1 x1000_1 = some (r1, r2)) ∧ Aside0 (kq ≤ k) ∧ Aside0 (IsS60 w0 w' g x1000_1) ∧ Aside0 (KeepSt w w' w0) ∧ Aside0 (Below w0.heap.size w0 w'))
  case atStart => exact ⟨(0), (s0_0), (by first | rfl | (simp; done) | (simp [*]; done)), H', ⟨Nat.le_refl _⟩, ⟨by repeat (first | (with_reducible first | exact HI0.out | apply IsS60.alloc | apply IsS60.drewN | apply IsS60.drew | apply IsS60.set_0) | exact HI0.out)⟩, ⟨by repeat (first | (with_reducible first | exact HK.out | apply KeepSt.drewN | apply KeepSt.drew | apply KeepSt.alloc) | exact HK.out)⟩, ⟨by repeat (first | (with_reducible first | exact HB.out | apply below_alloc | apply pw_below_drewN | apply below_drew1 | refine below_set ?_ (IsS60.ge HI0.out)) | exact HB.out)⟩⟩
  case round =>
    clear H'
    try clear c1
    try clear p2
    obtain ⟨x11_1, x1000_1, rfl, HA, HK1, HI0, HK, HB⟩ := hrel
    cases gk with
    | zero => exact absurd HA.out (by simp [term_Store_List.l0])
    | succ k1 =>
      have H := HA.out
      clear HA
      simp only [term_Store_List.l0] at H
      by_cases c3 : x11_1 < (l1.length : Int)
      · rw [if_pos c3] at H
        have c3b0 : decide (x11_1 < (l1.length : Int)) = true := decide_eq_true c3
        clear c3
        by_cases c4 : 0 ≤ x11_1
        · rw [if_pos c4] at H
          have c4b0 : decide (0 ≤ x11_1) = true := decide_eq_true c4
          clear c4
          by_cases c5 : x11_1 < (l1.length : Int)
          · rw [if_pos c5] at H
            have c5b0 : decide (x11_1 < (l1.length : Int)) = true := decide_eq_true c5
            clear c5
            replace H := Option.bind_eq_some_iff.mp H
            obtain ⟨⟨t115, t116⟩, A60, H⟩ := H
            replace H : (if t115 = true then (term_Store_List.l0 k1 l1 l1 (l1.length : Int) (wrap64 (x11_1 + 1)) t116) else (some (0, t116))) = some (r1, r2) := H
            have A6 := Aside0.mk A60
            clear A60
            by_cases c7 : t115 = true
            · subst c7
              have H1 : (term_Store_List.l0 k1 l1 l1 (l1.length : Int) (wrap64 (x11_1 + 1)) t116) = some (r1, r2) := by rw [if_pos rfl] at H; exact H
              clear H
              have H := H1
              clear H1
              have H' := Aside0.mk H
              clear H
              have p114 : 0 ≤ (x11_1 : Int) := of_decide_eq_true (by first | (with_reducible assumption) | assumption)
              have q114 : x11_1 < (l1.length : Int) := of_decide_eq_true (by first | (with_reducible assumption) | assumption)
              obtain ⟨ad114, e114, hx114_0⟩ := Kd.at_int HR1.out x11_1 p114 q114
              cases e114
              replace hx114_0 := KeepSt.cell HK.out hx114_0 (by first | (rw [add_block]; exact hf1 _ rfl (by omega)) | exact hf1 _ rfl (by omega) | exact hf1 ad114 rfl (by omega))
              replace p114 := eq_true p114
              replace q114 := eq_true q114
              go_wp2_with (first | ((with_reducible refine gate_callee (f := 30) rfl ?_); refine goesL_ (some 17) rfl rfl Tryd.func30 (by kernel_rfl) rfl #[.pointer (some ⟨g, 0, none⟩), .int .i64 (rd l1 x11_1)] rfl (by (try simp only [List.map_toArray, List.map_cons, List.map_nil]); first | done | rfl | (simp only [List.length_drop, List.length_take]; rfl)) ?_; (with_reducible refine (term_Store_known.calls g x1000_1 (rd l1 x11_1) true t116 w0 _ ?side1 ?side2 A6.out).mono ?_); (case side1 => repeat (first | (with_reducible first | exact HI0.out | apply IsS60.alloc | apply IsS60.drewN | apply IsS60.drew | apply IsS60.set_0) | exact HI0.out)); (case side2 => repeat (first | (with_reducible first | exact HB.out | apply below_alloc | apply pw_below_drewN | apply below_drew1 | refine below_set ?_ (IsS60.ge HI0.out)) | exact HB.out)); rintro e w8 ⟨rfl, hi, hb, hk⟩; refine ⟨_, rfl, ?_⟩; have n0_ := Aside0.mk (KeepSt.trans (by repeat (first | (with_reducible first | exact HK.out | apply KeepSt.drewN | apply KeepSt.drew | apply KeepSt.alloc) | exact HK.out)) hk); have n1_ := Aside0.mk (hb); have n2_ := Aside0.mk (hi); clear HK; clear HB; clear HI0; have HK := n0_; have HB := n1_; have HI0 := n2_; clear n0_ n1_ n2_; (try clear hb); (try clear hb2); (try clear hk); (try clear hi)))
              go_roundg k1
              case measure => have := HK1.out; omega
              case rel => exact ⟨(wrap64 (x11_1 + 1)), (t116), (by first | rfl | (simp; done) | (simp [*]; done)), H', ⟨by have := HK1.out; omega⟩, ⟨by repeat (first | (with_reducible first | exact HI0.out | apply IsS60.alloc | apply IsS60.drewN | apply IsS60.drew | apply IsS60.set_0) | exact HI0.out)⟩, ⟨by repeat (first | (with_reducible first | exact HK.out | apply KeepSt.drewN | apply KeepSt.drew | apply KeepSt.alloc) | exact HK.out)⟩, ⟨by repeat (first | (with_reducible first | exact HB.out | apply below_alloc | apply pw_below_drewN | apply below_drew1 | refine below_set ?_ (IsS60.ge HI0.out)) | exact HB.out)⟩⟩
            · replace c7 := Bool.eq_false_iff.mpr c7
              subst c7
              have H1 : (some (0, t116)) = some (r1, r2) := by rw [if_neg (show ¬ (false = true) by decide)] at H; exact H
              clear H
              have H := H1
              clear H1
              simp only [Option.some.injEq, Prod.mk.injEq] at H
              obtain ⟨rfl, rfl⟩ := H
              have p114 : 0 ≤ (x11_1 : Int) := of_decide_eq_true (by first | (with_reducible assumption) | assumption)
              have q114 : x11_1 < (l1.length : Int) := of_decide_eq_true (by first | (with_reducible assumption) | assumption)
              obtain ⟨ad114, e114, hx114_0⟩ := Kd.at_int HR1.out x11_1 p114 q114
              cases e114
              replace hx114_0 := KeepSt.cell HK.out hx114_0 (by first | (rw [add_block]; exact hf1 _ rfl (by omega)) | exact hf1 _ rfl (by omega) | exact hf1 ad114 rfl (by omega))
              replace p114 := eq_true p114
              replace q114 := eq_true q114
              go_wp2_with (first | ((with_reducible refine gate_callee (f := 30) rfl ?_); refine goesL_ (some 17) rfl rfl Tryd.func30 (by kernel_rfl) rfl #[.pointer (some ⟨g, 0, none⟩), .int .i64 (rd l1 x11_1)] rfl (by (try simp only [List.map_toArray, List.map_cons, List.map_nil]); first | done | rfl | (simp only [List.length_drop, List.length_take]; rfl)) ?_; (with_reducible refine (term_Store_known.calls g x1000_1 (rd l1 x11_1) false t116 w0 _ ?side1 ?side2 A6.out).mono ?_); (case side1 => repeat (first | (with_reducible first | exact HI0.out | apply IsS60.alloc | apply IsS60.drewN | apply IsS60.drew | apply IsS60.set_0) | exact HI0.out)); (case side2 => repeat (first | (with_reducible first | exact HB.out | apply below_alloc | apply pw_below_drewN | apply below_drew1 | refine below_set ?_ (IsS60.ge HI0.out)) | exact HB.out)); rintro e w9 ⟨rfl, hi, hb, hk⟩; refine ⟨_, rfl, ?_⟩; have n0_ := Aside0.mk (KeepSt.trans (by repeat (first | (with_reducible first | exact HK.out | apply KeepSt.drewN | apply KeepSt.drew | apply KeepSt.alloc) | exact HK.out)) hk); have n1_ := Aside0.mk (hb); have n2_ := Aside0.mk (hi); clear HK; clear HB; clear HI0; have HK := n0_; have HB := n1_; have HI0 := n2_; clear n0_ n1_ n2_; (try clear hb); (try clear hb2); (try clear hk); (try clear hi)))
              go_ret
              exact ⟨by first | rfl | (simp [errW_none, errW_some] <;> rfl) | (simp [*, errW_none, errW_some] <;> rfl), by repeat (first | (with_reducible first | exact HI0.out | apply IsS60.alloc | apply IsS60.drewN | apply IsS60.drew | apply IsS60.set_0) | exact HI0.out), by repeat (first | (with_reducible first | exact HB.out | apply below_alloc | apply pw_below_drewN | apply below_drew1 | refine below_set ?_ (IsS60.ge HI0.out)) | exact HB.out), by repeat (first | (with_reducible first | exact HK.out | apply KeepSt.drewN | apply KeepSt.drew | apply KeepSt.alloc) | exact HK.out)⟩
          · rw [if_neg c5] at H
            exact absurd H (by simp)
        · rw [if_neg c4] at H
          exact absurd H (by simp)
      · rw [if_neg c3] at H
        have c3b0 : decide (x11_1 < (l1.length : Int)) = false := decide_eq_false c3
        clear c3
        replace H := Option.bind_eq_some_iff.mp H
        obtain ⟨⟨t117, t118⟩, A100, H⟩ := H
        replace H : (term_Store_List.l1 k1 l1 t117 (wrap64 ((l1.length : Int) - 1)) t118) = some (r1, r2) := H
        have A10 := Aside0.mk A100
        clear A100
        have H' := Aside0.mk H
        clear H
        go_wp2_with (first | ((with_reducible refine gate_callee (f := 39) rfl ?_); refine goesL_ (some 21) rfl rfl Tryd.func39 (by kernel_rfl) rfl #[.pointer (some ⟨g, 0, none⟩), .string (⟨#[]⟩ : ByteArray)] rfl (by (try simp only [List.map_toArray, List.map_cons, List.map_nil]); first | done | rfl | (simp only [List.length_drop, List.length_take]; rfl)) ?_; (with_reducible refine (term_Store_Text.calls g x1000_1 (⟨#[]⟩ : ByteArray) t117 t118 w0 _ ?side1 ?side2 A10.out).mono ?_); (case side1 => repeat (first | (with_reducible first | exact HI0.out | apply IsS60.alloc | apply IsS60.drewN | apply IsS60.drew | apply IsS60.set_0) | exact HI0.out)); (case side2 => repeat (first | (with_reducible first | exact HB.out | apply below_alloc | apply pw_below_drewN | apply below_drew1 | refine below_set ?_ (IsS60.ge HI0.out)) | exact HB.out)); rintro e w11 ⟨rfl, hi, hb, hk⟩; refine ⟨_, rfl, ?_⟩; have n0_ := Aside0.mk (KeepSt.trans (by repeat (first | (with_reducible first | exact HK.out | apply KeepSt.drewN | apply KeepSt.drew | apply KeepSt.alloc) | exact HK.out)) hk); have n1_ := Aside0.mk (hb); have n2_ := Aside0.mk (hi); clear HK; clear HB; clear HI0; have HK := n0_; have HB := n1_; have HI0 := n2_; clear n0_ n1_ n2_; (try clear hb); (try clear hb2); (try clear hk); (try clear hi)))
        go_loopg [7, 8] k1 (fun kq v7 v8 w' => ∃ (x7_2 : Int) (x8_2 : Int) (x1000_2 : TS), v7 = .int .i64 x7_2 ∧ v8 = .int .i64 x8_2 ∧ Aside0 (term_Store_List.l1 kq l1 x7_2 x8_2 x1000_2 = some (r1, r2)) ∧ Aside0 (kq ≤ k1) ∧ Aside0 (IsS60 w0 w' g x1000_2) ∧ Aside0 (KeepSt w w' w0) ∧ Aside0 (Below w0.heap.size w0 w'))
        case atStart => exact ⟨(t117), (wrap64 ((l1.length : Int) - 1)), (t118), (by first | rfl | (simp; done) | (simp [*]; done)), (by first | rfl | (simp; done) | (simp [*]; done)), H', ⟨Nat.le_refl _⟩, ⟨by repeat (first | (with_reducible first | exact HI0.out | apply IsS60.alloc | apply IsS60.drewN | apply IsS60.drew | apply IsS60.set_0) | exact HI0.out)⟩, ⟨by repeat (first | (with_reducible first | exact HK.out | apply KeepSt.drewN | apply KeepSt.drew | apply KeepSt.alloc) | exact HK.out)⟩, ⟨by repeat (first | (with_reducible first | exact HB.out | apply below_alloc | apply pw_below_drewN | apply below_drew1 | refine below_set ?_ (IsS60.ge HI0.out)) | exact HB.out)⟩⟩
        case round =>
          clear H'
          try clear c1
          try clear p1
          try clear q1
          try clear hx1
          try clear p2
          try clear c3
          try clear c3b0
          try clear c4
          try clear c4b0
          try clear c5
          try clear c5b0
          try clear p6
          try clear c7
          try clear p11
          try clear q11
          try clear hx11
          try clear hx114_0
          try clear p114
          try clear p2
          try clear q114
          obtain ⟨x7_2, x8_2, x1000_2, rfl, rfl, HA, HK2, HI0, HK, HB⟩ := hrel
          cases gk with
          | zero => exact absurd HA.out (by simp [term_Store_List.l1])
          | succ k2 =>
            have H := HA.out
            clear HA
            simp only [term_Store_List.l1] at H
            by_cases c12 : x8_2 ≥ 0
            · rw [if_pos c12] at H
              have c12b0 : decide (0 ≤ x8_2) = true := decide_eq_true c12
              clear c12
              by_cases c13 : 0 ≤ x8_2
              · rw [if_pos c13] at H
                have c13b0 : decide (0 ≤ x8_2) = true := decide_eq_true c13
                clear c13
                by_cases c14 : x8_2 < (l1.length : Int)
                · rw [if_pos c14] at H
                  have c14b0 : decide (x8_2 < (l1.length : Int)) = true := decide_eq_true c14
                  clear c14
                  replace H := Option.bind_eq_some_iff.mp H
                  obtain ⟨⟨t120, t121⟩, A150, H⟩ := H
                  replace H : (term_Store_List.l1 k2 l1 t120 (wrap64 (x8_2 - 1)) t121) = some (r1, r2) := H
                  have A15 := Aside0.mk A150
                  clear A150
                  have H' := Aside0.mk H
                  clear H
                  have p119 : 0 ≤ (x8_2 : Int) := of_decide_eq_true (by first | (with_reducible assumption) | assumption)
                  have q119 : x8_2 < (l1.length : Int) := of_decide_eq_true (by first | (with_reducible assumption) | assumption)
                  obtain ⟨ad119, e119, hx119_0⟩ := Kd.at_int HR1.out x8_2 p119 q119
                  cases e119
                  replace hx119_0 := KeepSt.cell HK.out hx119_0 (by first | (rw [add_block]; exact hf1 _ rfl (by omega)) | exact hf1 _ rfl (by omega) | exact hf1 ad119 rfl (by omega))
                  replace p119 := eq_true p119
                  replace q119 := eq_true q119
                  go_wp2_with (first | ((with_reducible refine gate_callee (f := 40) rfl ?_); refine goesL_ (some 35) rfl rfl Tryd.func40 (by kernel_rfl) rfl #[.pointer (some ⟨g, 0, none⟩), .int .i64 (rd l1 x8_2), .int .i64 x7_2] rfl (by (try simp only [List.map_toArray, List.map_cons, List.map_nil]); first | done | rfl | (simp only [List.length_drop, List.length_take]; rfl)) ?_; (with_reducible refine (term_Store_Pair.calls g x1000_2 (rd l1 x8_2) x7_2 t120 t121 w0 _ ?side1 ?side2 A15.out).mono ?_); (case side1 => repeat (first | (with_reducible first | exact HI0.out | apply IsS60.alloc | apply IsS60.drewN | apply IsS60.drew | apply IsS60.set_0) | exact HI0.out)); (case side2 => repeat (first | (with_reducible first | exact HB.out | apply below_alloc | apply pw_below_drewN | apply below_drew1 | refine below_set ?_ (IsS60.ge HI0.out)) | exact HB.out)); rintro e w16 ⟨rfl, hi, hb, hk⟩; refine ⟨_, rfl, ?_⟩; have n0_ := Aside0.mk (KeepSt.trans (by repeat (first | (with_reducible first | exact HK.out | apply KeepSt.drewN | apply KeepSt.drew | apply KeepSt.alloc) | exact HK.out)) hk); have n1_ := Aside0.mk (hb); have n2_ := Aside0.mk (hi); clear HK; clear HB; clear HI0; have HK := n0_; have HB := n1_; have HI0 := n2_; clear n0_ n1_ n2_; (try clear hb); (try clear hb2); (try clear hk); (try clear hi)))
                  go_roundg k2
                  case measure => have := HK1.out; have := HK2.out; omega
                  case rel => exact ⟨(t120), (wrap64 (x8_2 - 1)), (t121), (by first | rfl | (simp; done) | (simp [*]; done)), (by first | rfl | (simp; done) | (simp [*]; done)), H', ⟨by have := HK1.out; have := HK2.out; omega⟩, ⟨by repeat (first | (with_reducible first | exact HI0.out | apply IsS60.alloc | apply IsS60.drewN | apply IsS60.drew | apply IsS60.set_0) | exact HI0.out)⟩, ⟨by repeat (first | (with_reducible first | exact HK.out | apply KeepSt.drewN | apply KeepSt.drew | apply KeepSt.alloc) | exact HK.out)⟩, ⟨by repeat (first | (with_reducible first | exact HB.out | apply below_alloc | apply pw_below_drewN | apply below_drew1 | refine below_set ?_ (IsS60.ge HI0.out)) | exact HB.out)⟩⟩
                · rw [if_neg c14] at H
                  exact absurd H (by simp)
              · rw [if_neg c13] at H
                exact absurd H (by simp)
            · rw [if_neg c12] at H
              have c12b0 : decide (0 ≤ x8_2) = false := decide_eq_false c12
              clear c12
              simp only [Option.some.injEq, Prod.mk.injEq] at H
              obtain ⟨rfl, rfl⟩ := H
              go_wp2
              go_ret
              exact ⟨by first | rfl | (simp [errW_none, errW_some] <;> rfl) | (simp [*, errW_none, errW_some] <;> rfl), by repeat (first | (with_reducible first | exact HI0.out | apply IsS60.alloc | apply IsS60.drewN | apply IsS60.drew | apply IsS60.set_0) | exact HI0.out), by repeat (first | (with_reducible first | exact HB.out | apply below_alloc | apply pw_below_drewN | apply below_drew1 | refine below_set ?_ (IsS60.ge HI0.out)) | exact HB.out), by repeat (first | (with_reducible first | exact HK.out | apply KeepSt.drewN | apply KeepSt.drew | apply KeepSt.alloc) | exact HK.out)⟩
def TabH (w : World) : Prop := ∀ j, j < Lib.deBruijn64tab.length → w.cell? ⟨2, j, none⟩ = some (.int .u8 (Lib.deBruijn64tab.getD j 0))
theorem TabH.lt {w : World} (h : TabH w) : 2 < w.heap.size := World.block_lt_of_cell? w _ (h 0 (by decide))
theorem TabH.heap {w w' : World} (h : TabH w) (hb : w'.heap[2]? = w.heap[2]?) : TabH w' := fun j hj => by
  rw [show w'.cell? ⟨2, j, none⟩ = w.cell? ⟨2, j, none⟩ by simp [World.cell?, hb]]; exact h j hj
theorem TabH.below {w w' : World} (h : TabH w) (hb : Below w.heap.size w w') : TabH w' := h.heap (hb.block _ h.lt)
theorem TabH.drewN {w : World} (h : TabH w) (n : Nat) : TabH (w.drewN n) := h
def TabN (w : World) : Prop := Lib.TabIs Tryd.prog w "internal/strconv.uint64pow10" .u64 Lib.pow10Tab
theorem gPow : Tryd.prog.globalNamed "internal/strconv.uint64pow10" = some 0 := by kernel_rfl
theorem TabN.lt {w : World} (h : TabN w) : 0 < w.heap.size := by
  unfold TabN Lib.TabIs World.var? at h
  rw [gPow, Option.bind_some] at h
  cases hq : w.heap[0]? with
  | none => rw [hq] at h; cases h
  | some o => exact (Array.getElem?_eq_some_iff.1 hq).1
theorem TabN.below {w w' : World} (h : TabN w) (hb : Below w.heap.size w w') : TabN w' := by
  have hl := h.lt
  unfold TabN Lib.TabIs World.var? at *
  rw [gPow, Option.bind_some] at *
  rw [hb.block _ hl]
  exact h
theorem TabN.drewN {w : World} (h : TabN w) (n : Nat) : TabN (w.drewN n) := h
def TabG (w : World) : Prop := TabN w ∧ TabH w
theorem TabG.n {w : World} (h : TabG w) : TabN w := h.1
theorem TabG.h {w : World} (h : TabG w) : TabH w := h.2
theorem TabG.below {w w' : World} (h : TabG w) (hb : Below w.heap.size w w') : TabG w' := ⟨h.1.below hb, h.2.below hb⟩
theorem TabG.drewN {w : World} (h : TabG w) (n : Nat) : TabG (w.drewN n) := h
theorem TabG.lt {w : World} (h : TabG w) : 2 < w.heap.size := by have := h.h.lt; have := (show TabG w from h); first | exact h.h.lt | exact h.1.lt
theorem grow_below (B : Nat) (w : World) (hB : B ≤ w.heap.size) (k : Nat) (os : Array Obj) : Below B w (Go.«Sort».grow (w.drewN k) os) :=
  ⟨rfl, rfl, rfl, by simp [Go.«Sort».grow], fun i hi => by
    show (w.heap ++ os)[i]? = w.heap[i]?
    rw [Array.getElem?_append_left (by omega)]⟩
def decF : Nat → Nat → List UInt8
  | 0, _ => []
  | f + 1, u => if u < 10 then [UInt8.ofNat (48 + u)] else decF f (u / 10) ++ [UInt8.ofNat (48 + u % 10)]
theorem decF_eq : ∀ (f u : Nat), u < 10 ^ (f + 1) → decF (f + 1) u = Lib.decDigits u
  | f, u, h => by
    rw [decF, Lib.decDigits]
    by_cases hu : u < 10
    · rw [if_pos hu, dif_pos hu]
    · rw [if_neg hu, dif_neg hu]
      match f, h with
      | 0, h => simp at h; omega
      | f + 1, h => rw [decF_eq f (u / 10) (by rw [Nat.pow_succ] at h; omega)]
def numL (n : Int) : List UInt8 := if n < 0 then 45 :: decF 20 n.natAbs else decF 20 n.toNat
theorem numL_eq (n : Int) (h0 : -9223372036854775808 ≤ n) (h1 : n ≤ 9223372036854775807) : numL n = Lib.itoa n := by
  unfold numL Lib.itoa
  rw [decF_eq 19 _ (by simp; omega), decF_eq 19 _ (by simp; omega)]
def num (n : Int) : ByteArray := ⟨(numL n).toArray⟩
def digest_Number.f (s0_0 : TS) (a1 : Int) : Option (Int × TS) := if -9223372036854775808 ≤ a1 ∧ a1 ≤ 9223372036854775807 then some (put s0_0 ⟨2, num a1, 0, 0⟩) else none
set_option maxHeartbeats 1000000 in
theorem digest_Number.calls (g : Nat) (s0_0 : TS) (a1 : Int) (r1 : Int) (r2 : TS) (w0 w : World) (hrG : TabG w0) (hI : IsS60 w0 w g s0_0) (hB : Below w0.heap.size w0 w) (h : digest_Number.f s0_0 a1 = some (r1, r2)) :
    Calls Tryd.prog 36 #[.pointer (some ⟨g, 0, none⟩), .int .i64 a1] w fun e w' => e = .returned (.int .i64 r1) ∧ IsS60 w0 w' g r2 ∧ Below w0.heap.size w0 w' ∧ KeepSt w w' w0 := by
  unfold digest_Number.f at h
  split at h
  case isFalse => cases h
  rename_i hn
  have hT := (hrG.below hB).n
  have hi0 := Tryd.strconv_Itoa a1 hn.1 hn.2 w hT
  rw [← numL_eq a1 hn.1 hn.2] at hi0
  have hi := Lib.hid hi0
  clear hi0
  have ht := fun wx (hx : IsS60 w0 wx g s0_0) (hb : Below w0.heap.size w0 wx) => term_Store_Text.calls g s0_0 (num a1) r1 r2 w0 wx hx hb (by simpa [term_Store_Text.f] using h)
  have HT := Lib.hid ht
  have HI := Lib.hid hI
  have HB := Lib.hid hB
  clear ht hT h hI hB hrG hn
  go_enter Tryd.func36, Tryd.ntmps36
  go_wp2_with fail
  refine hi.out.mono ?_
  rintro e w1 ⟨rfl, k, os, rfl⟩
  have hb1 := Lib.hid (grow_below w.heap.size w (Nat.le_refl _) k os)
  have HI1 := Lib.hid (HI.out.below hb1.out)
  have HB1 := Lib.hid (HB.out.trans (hb1.out.mono HB.out.size))
  generalize Go.«Sort».grow (w.drewN k) os = w1 at *
  go_wp2_with fail
  refine (HT.out _ HI1.out HB1.out).mono ?_
  rintro e w2 ⟨rfl, h2, h3, h4⟩
  go_wp2
  go_ret
  exact ⟨rfl, h2, h3, (KeepSt.of_below hb1.out w0).trans h4⟩
end Go.Proofs.YteljmaebhjhedaaDoor.PCn
