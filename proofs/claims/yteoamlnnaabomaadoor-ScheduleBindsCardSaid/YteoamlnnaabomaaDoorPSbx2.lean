/- What this claim reaches of a longer text of this session. -/
import Derived.Test.YteoamlnnaabomaaDoorPSbx0
import Derived.Test.YteoamlnnaabomaaDoorPSbx1
import Derived.Test.YteoamlnnaabomaaDoorStW
import Derived.Test.YteoamlnnaabomaaDoorRef
import Derived.Test.YteoamlnnaabomaaDoorStW
import Derived.Test.YteoamlnnaabomaaDoorRef
import Derived.Test.YteoamlnnaabomaaDoorBase
import Derived.Shelf.Spec.TrailingZeros
import Derived.Lib.ItoaNum
import Derived.Lib.LaidTab
import Derived.Test.YteoamlnnaabomaaDoorShelf
import Derived.Test.YteoamlnnaabomaaDoorStW
import Derived.Lib.ItoaNum
import Derived.Lib.LaidTab
namespace Go.Proofs.YteoamlnnaabomaaDoor.PSb
open Go.RowKit Go.Proofs.YteoamlnnaabomaaDoorW.PrintWords Go.Proofs.YteoamlnnaabomaaDoorW.PrintLast Go.Proofs.YteoamlnnaabomaaDoorW.PrintMore
attribute [local go_sem] max2_int min2_int max_two min_two max_three min_three max_four min_four   -- for this text's walks alone
set_option linter.unusedVariables false
set_option linter.unusedSimpArgs false
def put (s : TS) (n : Nd) : Int × TS := (mkT s.nodes n, ⟨mkL s.nodes n, s.drawn⟩)
def fresh (s : TS) : Int × TS := (mkT s.nodes (freshN s.drawn), ⟨mkL s.nodes (freshN s.drawn), freshD s.nodes s.drawn⟩)
def freshes (s : TS) : Nat → TS
  | 0 => s
  | n + 1 => (fresh (freshes s n)).2
theorem StoreAt.of {w0 w : World} {g : Nat} {s : TS} (h : IsS80 w0 w g s) : ∃ q : St, q.p = g ∧ q.nodes = s.nodes ∧ q.drawn = s.drawn ∧ StoreAt w q ∧ ∀ k, q.own k → w0.heap.size ≤ k := by
  obtain ⟨m, sl, h1, h2⟩ := h
  exact ⟨_, rfl, rfl, rfl, h1, h2⟩
theorem st_next {w0 w : World} {g : Nat} {s s2 : TS} {f : Nat} {args : Array Value} {r : Int} (hI : IsS80 w0 w g s) (hB : Below w0.heap.size w0 w)
    (hc : ∀ q : St, q.p = g → q.nodes = s.nodes → q.drawn = s.drawn → StoreAt w q → Calls Tryd.prog f args w fun e w' => e = .returned (.int .i64 r) ∧ Go.Proofs.YteoamlnnaabomaaDoor.Next q w s2.nodes s2.drawn w') :
    Calls Tryd.prog f args w fun e w' => e = .returned (.int .i64 r) ∧ IsS80 w0 w' g s2 ∧ Below w0.heap.size w0 w' ∧ KeepSt w w' w0 := by
  obtain ⟨q, h1, h2, h3, h4, h5⟩ := StoreAt.of hI
  refine (hc q h1 h2 h3 h4).mono ?_
  rintro e w' ⟨he, hn⟩
  have := IsS80.next h4 h5 hB hn
  rw [h1] at this
  exact ⟨he, this⟩
set_option maxHeartbeats 1000000 in
theorem new_calls2 (w : World) : Calls Tryd.prog 30 #[] w fun e w' => ∃ s : St, e = .returned s.ptr ∧ StoreAt w' s ∧ s.nodes = [] ∧ s.drawn = 0 ∧ (∀ k, s.own k → w.heap.size ≤ k) ∧ Chg none_ w w' ∧ s.p + 1 = w'.heap.size := by
  have hmm := @run_makeMap Tryd.prog
  go_enter Tryd.func30, Tryd.ntmps30
  go_wp2
  go_ret
  refine ⟨⟨w.heap.size + 1, w.heap.size, .slice none 0 0, [], 0⟩, rfl, ⟨?_, ?_, World.ownsRow_nil _ _ _ _, List.nodup_nil, Nat.zero_le _, Int.le_refl _, by show (0 : Int) ≤ 1099511627776; decide, WF.nil⟩, rfl, rfl, ?_, ((Chg.refl _ _).alloc _).alloc _, by simp⟩
  · have := heap_alloc_at (w := w.alloc (.map #[] 0)) (o := .cells #[.slice none 0 0, .map (some w.heap.size), .int .i64 0] 80 (0, 0))
    simpa using this
  · show ((w.alloc (.map #[] 0)).alloc _).heap[w.heap.size]? = _
    rw [heap_alloc_lt (by simp)]; exact heap_alloc_at
  · rintro k (rfl | rfl | hk)
    · show w.heap.size ≤ w.heap.size + 1; omega
    · exact Nat.le_refl _
    · simp [Value.ownBlock] at hk
structure Two (W w : World) (p q : Nat) (s r : TS) : Prop where
  out : ∃ (a : St) (b : Rf), a.p = p ∧ b.p = q ∧ a.nodes = s.nodes ∧ a.drawn = s.drawn ∧ b.nodes = r.nodes ∧ b.drawn = r.drawn ∧ StoreAt w a ∧ RefAt w b ∧ (∀ k, a.own k → ¬ b.own k) ∧ (∀ k, a.own k → W.heap.size ≤ k) ∧ (∀ k, b.own k → W.heap.size ≤ k) ∧ Chg none_ W w
theorem Two.fresh_s {W w : World} {p q : Nat} {s r : TS} (h : Two W w p q s r) : Calls Tryd.prog 31 #[.pointer (some ⟨p, 0, none⟩)] w fun e w' => e = .returned (.int .i64 (fresh s).1) ∧ Two W w' p q (fresh s).2 r := by
  obtain ⟨a, b, rfl, rfl, e1, e2, e3, e4, h1, h2, h3, h4, h5, h6⟩ := h.out
  refine (fresh_calls h1).mono ?_
  rintro e w' ⟨rfl, hn⟩
  obtain ⟨⟨a', k1, k2, k3, k4, k5, k6⟩⟩ := hn
  refine ⟨by rw [e1, e2]; rfl, ⟨a', b, k2, rfl, by rw [k3, e1, e2]; rfl, by rw [k4, e1, e2]; rfl, e3, e4, k1, h2.chg k6 fun k hk h => h3 k h hk, fun k hk hb => ?_, fun k hk => ?_, h5, ?_⟩⟩
  · rcases k5 k hk with h | h
    · exact h3 k h hb
    · have := h2.own_lt hb; omega
  · rcases k5 k hk with h | h
    · exact h4 k h
    · exact Nat.le_trans h6.size h
  · exact h6.trans k6 fun i hi h => by have := h4 i h; omega
theorem Two.fresh_r {W w : World} {p q : Nat} {s r : TS} (h : Two W w p q s r) : Calls Tryd.prog 32 #[.pointer (some ⟨q, 0, none⟩)] w fun e w' => e = .returned (.int .i64 (fresh r).1) ∧ Two W w' p q s (fresh r).2 := by
  obtain ⟨a, b, rfl, rfl, e1, e2, e3, e4, h1, h2, h3, h4, h5, h6⟩ := h.out
  refine (rfresh_calls h2).mono ?_
  rintro e w' ⟨rfl, hn⟩
  obtain ⟨⟨b', k1, k2, k3, k4, k5, k6⟩⟩ := hn
  refine ⟨by rw [e3, e4]; rfl, ⟨a, b', rfl, k2, e1, e2, by rw [k3, e3, e4]; rfl, by rw [k4, e3, e4]; rfl, h1.chg k6 fun k hk h => h3 k hk h, k1, fun k hk hb => ?_, h4, fun k hk => ?_, ?_⟩⟩
  · rcases k5 k hb with h | h
    · exact h3 k hk h
    · have := h1.own_lt hk; omega
  · rcases k5 k hk with h | h
    · exact h5 k h
    · exact Nat.le_trans h6.size h
  · exact h6.trans k6 fun i hi h => by have := h5 i h; omega
def natAt (v : Value) : Nat := match v with | .int _ n => n.toNat | _ => 0
theorem Two.store {W w : World} {p q : Nat} {s r : TS} (h : Two W w p q s r) {w0 : World} (hB : Below w0.heap.size w0 W) : IsS80 w0 w p s ∧ Below w0.heap.size w0 w ∧ Below W.heap.size W w := by
  obtain ⟨a, b, rfl, rfl, e1, e2, e3, e4, h1, h2, h3, h4, h5, h6⟩ := h.out
  have hb : Below W.heap.size W w := h6.below (Nat.le_refl _) (fun _ _ h => h)
  obtain ⟨ap, am, asl, an, ad⟩ := a
  dsimp only at e1 e2
  subst e1 e2
  exact ⟨⟨am, asl, h1, fun k hk => Nat.le_trans hB.size (h4 k hk)⟩, hB.trans (hb.mono hB.size), hb⟩
def conclavelaw07_stores.f (a0 : Int) : Option (TS) := if a0 ≤ 9223372036854775807 then some (freshes ⟨[], 0⟩ a0.toNat) else none
def StoresRel (W : World) (p q n : Nat) (iv : Value) (wr : World) : Prop := ∃ k : Nat, k ≤ n ∧ iv = .int .i64 k ∧ Two W wr p q (freshes ⟨[], 0⟩ k) (freshes ⟨[], 0⟩ k)
set_option maxHeartbeats 1000000 in
theorem stores_two (a0 : Int) (h0 : a0 ≤ 9223372036854775807) (w : World) : Calls Tryd.prog 8 #[.int .i64 a0] w fun e w' => ∃ g : Nat, e = .returned (.tuple #[.pointer (some ⟨g, 0, none⟩), .pointer (some ⟨g + 1, 0, none⟩)]) ∧ Two w w' g (g + 1) (freshes ⟨[], 0⟩ a0.toNat) (freshes ⟨[], 0⟩ a0.toNat) := by
  go_enter Tryd.func8, Tryd.ntmps8
  go_wp2_with (go_at_call 30; refine (new_calls2 _).mono ?_; rintro e w1 ⟨s, rfl, hs, e1, e2, hown, hch, hp⟩; obtain ⟨sp, sm, ssl, snd, sdr⟩ := s; dsimp only at e1 e2; subst e1 e2; simp only [St.ptr] at *)
  have hst : Two w (w1.alloc (.cells #[.slice none 0 0, .int .i64 0] 61 (0, 0))) sp (sp + 1) (freshes ⟨[], 0⟩ 0) (freshes ⟨[], 0⟩ 0) := by
    refine ⟨⟨⟨sp, sm, ssl, [], 0⟩, ⟨sp + 1, .slice none 0 0, [], 0⟩, rfl, rfl, rfl, rfl, rfl, rfl, hs.alloc _, ⟨?_, World.ownsRow_nil _ _ _ _, List.nodup_nil, Nat.zero_le _, Int.le_refl _, by show (0 : Int) ≤ 1099511627776; decide, WF.nil⟩, fun k hk hb => ?_, hown, fun k hb => ?_, hch.alloc _⟩⟩
    · show (w1.alloc _).heap[sp + 1]? = _
      rw [hp]; exact heap_alloc_at
    · have := hs.own_lt hk
      rcases hb with rfl | hb
      · dsimp only at this; omega
      · simp [Value.ownBlock] at hb
    · rcases hb with rfl | hb
      · dsimp only; rw [hp]; exact hch.size
      · simp [Value.ownBlock] at hb
  rw [hp] at hst
  have HST := Lib.hid hst
  clear hst hs hown hch
  have hpn : sp + 1 = w1.heap.size := hp
  clear hp
  generalize w1.alloc (.cells #[.slice none 0 0, .int .i64 0] 61) = w2 at *
  generalize w1.heap.size = q at *
  go_loopw [6] (fun iv wr => StoresRel w sp q a0.toNat iv wr) (fun iv _ => a0.toNat - natAt iv)
  case atStart => exact ⟨0, Nat.zero_le _, rfl, HST.out⟩
  case round =>
    clear HST
    obtain ⟨k, hk, rfl, h2⟩ := hrel
    have H := Lib.hid h2
    clear h2
    by_cases hlt : (k : Int) < a0
    · have hF := fun wx hx => Two.fresh_r (W := w) (w := wx) (p := sp) (q := q) (s := (fresh (freshes ⟨[], 0⟩ k)).2) (r := freshes ⟨[], 0⟩ k) hx
      have HF := Lib.hid hF
      clear hF
      go_wp2_with (first
        | (go_at_call 31; refine (H.out.fresh_s).mono ?_; rintro e w3 ⟨rfl, h3⟩)
        | (go_at_call 32; refine (HF.out _ h3).mono ?_; rintro e w4 ⟨rfl, h4⟩))
      refine ⟨⟨k + 1, by omega, by go_num, h4⟩, ?_⟩
      simp [natAt]; omega
    · go_wp2
      go_ret2
      refine ⟨sp, by rw [hpn]; rfl, ?_⟩
      have e : a0.toNat = k := by omega
      rw [e, hpn]
      exact H.out
theorem conclavelaw07_stores.calls (a0 : Int) (r : TS) (w0 w : World) (hB : Below w0.heap.size w0 w) (h : conclavelaw07_stores.f a0 = some r) :
    Calls Tryd.prog 8 #[.int .i64 a0] w fun e w' => ∃ g_ : Nat, e = .returned (.tuple #[.pointer (some ⟨g_, 0, none⟩), .pointer (some ⟨g_ + 1, 0, none⟩)]) ∧ IsS80 w0 w' g_ r ∧ Below w0.heap.size w0 w' ∧ Below w.heap.size w w' := by
  unfold conclavelaw07_stores.f at h
  split at h
  case isFalse => cases h
  rename_i h0
  cases h
  refine (stores_two a0 h0 w).mono ?_
  rintro e w' ⟨g, rfl, h2⟩
  exact ⟨g, rfl, h2.store hB⟩
def term_Store_Text.f (s0_0 : TS) (a1 : ByteArray) : Option (Int × TS) := some (put s0_0 ⟨2, a1, 0, 0⟩)
theorem term_Store_Text.calls (g : Nat) (s0_0 : TS) (a1 : ByteArray) (r1 : Int) (r2 : TS) (w0 w : World) (hI : IsS80 w0 w g s0_0) (hB : Below w0.heap.size w0 w) (h : term_Store_Text.f s0_0 a1 = some (r1, r2)) :
    Calls Tryd.prog 11 #[.pointer (some ⟨g, 0, none⟩), .string a1] w fun e w' => e = .returned (.int .i64 r1) ∧ IsS80 w0 w' g r2 ∧ Below w0.heap.size w0 w' ∧ KeepSt w w' w0 := by
  cases h
  refine st_next hI hB fun q h1 h2 h3 h4 => ?_
  have := text_calls h4 a1
  rw [St.ptr, h1, h2, h3] at this
  exact this
def term_Store_Kdf.f (s0_0 : TS) (a1 : ByteArray) (a2 : Int) (a3 : Int) : Option (Int × TS) := some (put s0_0 ⟨5, a1, a2, a3⟩)
theorem term_Store_Kdf.calls (g : Nat) (s0_0 : TS) (a1 : ByteArray) (a2 : Int) (a3 : Int) (r1 : Int) (r2 : TS) (w0 w : World) (hI : IsS80 w0 w g s0_0) (hB : Below w0.heap.size w0 w) (h : term_Store_Kdf.f s0_0 a1 a2 a3 = some (r1, r2)) :
    Calls Tryd.prog 13 #[.pointer (some ⟨g, 0, none⟩), .string a1, .int .i64 a2, .int .i64 a3] w fun e w' => e = .returned (.int .i64 r1) ∧ IsS80 w0 w' g r2 ∧ Below w0.heap.size w0 w' ∧ KeepSt w w' w0 := by
  cases h
  refine st_next hI hB fun q h1 h2 h3 h4 => ?_
  have := kdf_calls h4 a1 a2 a3
  rw [St.ptr, h1, h2, h3] at this
  exact this
def jlab : List ByteArray := [⟨#[105, 110, 105, 116]⟩, ⟨#[100, 97, 116, 97]⟩, ⟨#[114, 97, 116, 99, 104, 101, 116, 115]⟩, ⟨#[101, 120, 112, 111, 114, 116, 101, 114]⟩, ⟨#[101, 120, 116, 101, 114, 110, 97, 108]⟩, ⟨#[99, 111, 110, 102, 105, 114, 109]⟩, ⟨#[109, 101, 109, 98, 101, 114, 115, 104, 105, 112]⟩, ⟨#[114, 101, 115, 117, 109, 112, 116, 105, 111, 110]⟩, ⟨#[97, 117, 116, 104, 101, 110, 116, 105, 99, 97, 116, 111, 114]⟩]
def jl (j : Nat) : ByteArray := jlab.getD j ByteArray.empty
def jS (s : TS) (x n : Int) : Nat → TS
  | 0 => s
  | j + 1 => (put (jS s x n j) ⟨5, jl j, x, n⟩).2
def jV (s : TS) (x n : Int) (j : Nat) : Int := (put (jS s x n j) ⟨5, jl j, x, n⟩).1
def jA (s : TS) : Int × TS := put s ⟨2, ⟨#[]⟩, 0, 0⟩
def jM (s : TS) (a b : Int) : Int × TS := put (jA s).2 ⟨5, ⟨#[109, 101, 109, 98, 101, 114]⟩, a, b⟩
def jW (s : TS) (a b : Int) : Int × TS := put (jM s a b).2 ⟨5, ⟨#[119, 101, 108, 99, 111, 109, 101]⟩, (jM s a b).1, (jA s).1⟩
def jE (s : TS) (a b c : Int) : Int × TS := put (jW s a b).2 ⟨5, ⟨#[101, 112, 111, 99, 104]⟩, (jM s a b).1, c⟩
def schedule_Join.f (s0_0 : TS) (a1 : Int) (a2 : Int) (a3 : Int) : Option (Int × Int × Int × Int × Int × Int × Int × Int × Int × Int × Int × Int × Int × TS) :=
  some (a1, (jM s0_0 a1 a2).1, (jW s0_0 a1 a2).1, (jE s0_0 a1 a2 a3).1, jV (jE s0_0 a1 a2 a3).2 (jE s0_0 a1 a2 a3).1 (jA s0_0).1 0, jV (jE s0_0 a1 a2 a3).2 (jE s0_0 a1 a2 a3).1 (jA s0_0).1 1, jV (jE s0_0 a1 a2 a3).2 (jE s0_0 a1 a2 a3).1 (jA s0_0).1 2, jV (jE s0_0 a1 a2 a3).2 (jE s0_0 a1 a2 a3).1 (jA s0_0).1 3, jV (jE s0_0 a1 a2 a3).2 (jE s0_0 a1 a2 a3).1 (jA s0_0).1 4, jV (jE s0_0 a1 a2 a3).2 (jE s0_0 a1 a2 a3).1 (jA s0_0).1 5, jV (jE s0_0 a1 a2 a3).2 (jE s0_0 a1 a2 a3).1 (jA s0_0).1 6, jV (jE s0_0 a1 a2 a3).2 (jE s0_0 a1 a2 a3).1 (jA s0_0).1 7, jV (jE s0_0 a1 a2 a3).2 (jE s0_0 a1 a2 a3).1 (jA s0_0).1 8, jS (jE s0_0 a1 a2 a3).2 (jE s0_0 a1 a2 a3).1 (jA s0_0).1 9)
def jc (v : Nat → Int) (j i : Nat) : Value := .int .i64 (if i < j then v i else 0)
def jC (a m x e : Int) (v : Nat → Int) (j : Nat) : Array Value := #[.int .i64 a, .int .i64 m, .int .i64 x, .int .i64 e, jc v j 0, jc v j 1, jc v j 2, jc v j 3, jc v j 4, jc v j 5, jc v j 6, jc v j 7, jc v j 8]
theorem jC_next (a m x e : Int) (v : Nat → Int) (j : Nat) (hj : j < 9) : (jC a m x e v j).setIfInBounds (4 + j) (.int .i64 (v j)) = jC a m x e v (j + 1) := by
  obtain rfl | rfl | rfl | rfl | rfl | rfl | rfl | rfl | rfl : j = 0 ∨ j = 1 ∨ j = 2 ∨ j = 3 ∨ j = 4 ∨ j = 5 ∨ j = 6 ∨ j = 7 ∨ j = 8 := by omega
  all_goals simp [jC, jc]
theorem jC_old (a m x e : Int) (v : Nat → Int) (j : Nat) (hj : j < 9) : (jC a m x e v j)[4 + j]? = some (.int .i64 0) := by
  obtain rfl | rfl | rfl | rfl | rfl | rfl | rfl | rfl | rfl : j = 0 ∨ j = 1 ∨ j = 2 ∨ j = 3 ∨ j = 4 ∨ j = 5 ∨ j = 6 ∨ j = 7 ∨ j = 8 := by omega
  all_goals simp [jC, jc]
structure Ts (w0 w : World) (g : Nat) (s : TS) (W : World) : Prop where
  st : IsS80 w0 W g s
  below : Below w0.heap.size w0 W
  keep : KeepSt w W w0
theorem Ts.kdf {w0 w W : World} {g : Nat} {s : TS} (h : Ts w0 w g s W) (lab : ByteArray) (a b : Int) {p : Int × TS} (hp : put s ⟨5, lab, a, b⟩ = p) : Calls Tryd.prog 13 #[.pointer (some ⟨g, 0, none⟩), .string lab, .int .i64 a, .int .i64 b] W fun e w' => e = .returned (.int .i64 p.1) ∧ Ts w0 w g p.2 w' ∧ KeepSt W w' w0 := by
  subst hp
  exact (term_Store_Kdf.calls g s lab a b _ _ w0 W h.st h.below rfl).mono fun e w' q => ⟨q.1, ⟨q.2.1, q.2.2.1, h.keep.trans q.2.2.2⟩, q.2.2.2⟩
theorem Ts.text {w0 w W : World} {g : Nat} {s : TS} (h : Ts w0 w g s W) (lab : ByteArray) {p : Int × TS} (hp : put s ⟨2, lab, 0, 0⟩ = p) : Calls Tryd.prog 11 #[.pointer (some ⟨g, 0, none⟩), .string lab] W fun e w' => e = .returned (.int .i64 p.1) ∧ Ts w0 w g p.2 w' ∧ KeepSt W w' w0 := by
  subst hp
  exact (term_Store_Text.calls g s lab _ _ w0 W h.st h.below rfl).mono fun e w' q => ⟨q.1, ⟨q.2.1, q.2.2.1, h.keep.trans q.2.2.2⟩, q.2.2.2⟩
theorem Ts.alloc {w0 w W : World} {g : Nat} {s : TS} (h : Ts w0 w g s W) (o : Obj) : Ts w0 w g s (W.alloc o) := ⟨h.st.alloc o, h.below.alloc h.below.size o, h.keep.alloc o⟩
theorem Ts.drew {w0 w W : World} {g : Nat} {s : TS} (h : Ts w0 w g s W) : Ts w0 w g s W.drew := ⟨h.st.drew, h.below.drew, h.keep.drew⟩
theorem Ts.set {w0 w W : World} {g : Nat} {s : TS} (h : Ts w0 w g s W) {p : Addr} (hp : w.heap.size ≤ p.block) (h0 : w0.heap.size ≤ p.block) (hn : Nsty W p.block) (u : Value) : Ts w0 w g s (W.setCell p u) := ⟨h.st.far hn u, h.below.setCell h0 u, h.keep.far hp u⟩
theorem Ts.cellset {w0 w W : World} {g : Nat} {s : TS} (h : Ts w0 w g s W) {B i : Nat} {c : Array Value} {t : TypeId} (hb : W.heap[B]? = some (.cells c t (0, 0))) (ht : Osty (.cells c t (0, 0)) = false) (hB : w.heap.size ≤ B) (h0 : w0.heap.size ≤ w.heap.size) (u : Value) :
    Ts w0 w g s (W.setCell ⟨B, i, none⟩ u) ∧ (W.setCell ⟨B, i, none⟩ u).heap[B]? = some (.cells (c.setIfInBounds i u) t (0, 0)) :=
  ⟨h.set hB (Nat.le_trans h0 hB) (Nsty.of hb ht) u, heap_setCell_at hb⟩
set_option maxRecDepth 100000 in
theorem jidx (B j : Nat) (w : World) (hj : j < 9) : Sem.run Tryd.prog (Instr.index 70 (.agg #[.pointer (some ⟨B, 4, none⟩), .string ⟨#[105, 110, 105, 116]⟩, .pointer (some ⟨B, 5, none⟩), .string ⟨#[100, 97, 116, 97]⟩, .pointer (some ⟨B, 6, none⟩), .string ⟨#[114, 97, 116, 99, 104, 101, 116, 115]⟩, .pointer (some ⟨B, 7, none⟩), .string ⟨#[101, 120, 112, 111, 114, 116, 101, 114]⟩, .pointer (some ⟨B, 8, none⟩), .string ⟨#[101, 120, 116, 101, 114, 110, 97, 108]⟩, .pointer (some ⟨B, 9, none⟩), .string ⟨#[99, 111, 110, 102, 105, 114, 109]⟩, .pointer (some ⟨B, 10, none⟩), .string ⟨#[109, 101, 109, 98, 101, 114, 115, 104, 105, 112]⟩, .pointer (some ⟨B, 11, none⟩), .string ⟨#[114, 101, 115, 117, 109, 112, 116, 105, 111, 110]⟩, .pointer (some ⟨B, 12, none⟩), .string ⟨#[97, 117, 116, 104, 101, 110, 116, 105, 99, 97, 116, 111, 114]⟩]) (.int .i64 j)) w = .ok (.agg #[.pointer (some ⟨B, 4 + j, none⟩), .string (jl j)]) w := by
  obtain rfl | rfl | rfl | rfl | rfl | rfl | rfl | rfl | rfl : j = 0 ∨ j = 1 ∨ j = 2 ∨ j = 3 ∨ j = 4 ∨ j = 5 ∨ j = 6 ∨ j = 7 ∨ j = 8 := by omega
  all_goals (first | (go_simp; done) | (go_simp; rfl))
def JRel (w0 w : World) (g : Nat) (S : Nat → TS) (V : Nat → Int) (a m y e : Int) (B B8 : Nat) (iv : Value) (wr : World) : Prop :=
  ∃ j : Nat, j ≤ 9 ∧ iv = .int .i64 j ∧ Ts w0 w g (S j) wr ∧ wr.heap[B]? = some (.cells (jC a m y e V j) 31 (0, 0)) ∧ wr.heap[B8]? = some (.cells (jC 0 0 0 0 V 0) 31 (0, 0))
set_option maxRecDepth 100000 in
set_option maxHeartbeats 2000000 in
theorem schedule_Join.calls (g : Nat) (s0_0 : TS) (a1 : Int) (a2 : Int) (a3 : Int) (r1 : Int) (r2 : Int) (r3 : Int) (r4 : Int) (r5 : Int) (r6 : Int) (r7 : Int) (r8 : Int) (r9 : Int) (r10 : Int) (r11 : Int) (r12 : Int) (r13 : Int) (r14 : TS) (w0 w : World) (hI : IsS80 w0 w g s0_0) (hB : Below w0.heap.size w0 w) (h : schedule_Join.f s0_0 a1 a2 a3 = some (r1, r2, r3, r4, r5, r6, r7, r8, r9, r10, r11, r12, r13, r14)) :
    Calls Tryd.prog 12 #[.pointer (some ⟨g, 0, none⟩), .int .i64 a1, .int .i64 a2, .int .i64 a3] w fun e w' => e = .returned (.agg #[.int .i64 r1, .int .i64 r2, .int .i64 r3, .int .i64 r4, .int .i64 r5, .int .i64 r6, .int .i64 r7, .int .i64 r8, .int .i64 r9, .int .i64 r10, .int .i64 r11, .int .i64 r12, .int .i64 r13]) ∧ IsS80 w0 w' g r14 ∧ Below w0.heap.size w0 w' ∧ KeepSt w w' w0 := by
  simp only [schedule_Join.f, Option.some.injEq, Prod.mk.injEq] at h
  obtain ⟨rfl, rfl, rfl, rfl, rfl, rfl, rfl, rfl, rfl, rfl, rfl, rfl, rfl, rfl⟩ := h
  have hts : Ts w0 w g s0_0 w := ⟨hI, hB, .refl _ _⟩
  have HT := Lib.hid hts
  have h1 := fun (wx : World) (hx : Ts w0 w g s0_0 wx) => hx.text ⟨#[]⟩ (p := jA s0_0) rfl
  have h2 := fun (wx : World) (hx : Ts w0 w g (jA s0_0).2 wx) => hx.kdf ⟨#[109, 101, 109, 98, 101, 114]⟩ a1 a2 (p := jM s0_0 a1 a2) rfl
  have h3 := fun (wx : World) (hx : Ts w0 w g (jM s0_0 a1 a2).2 wx) => hx.kdf ⟨#[119, 101, 108, 99, 111, 109, 101]⟩ (jM s0_0 a1 a2).1 (jA s0_0).1 (p := jW s0_0 a1 a2) rfl
  have h4 := fun (wx : World) (hx : Ts w0 w g (jW s0_0 a1 a2).2 wx) => hx.kdf ⟨#[101, 112, 111, 99, 104]⟩ (jM s0_0 a1 a2).1 a3 (p := jE s0_0 a1 a2 a3) rfl
  have h5 := fun (j : Nat) (wx : World) (hx : Ts w0 w g (jS (jE s0_0 a1 a2 a3).2 (jE s0_0 a1 a2 a3).1 (jA s0_0).1 j) wx) => hx.kdf (jl j) (jE s0_0 a1 a2 a3).1 (jA s0_0).1 (p := (jV (jE s0_0 a1 a2 a3).2 (jE s0_0 a1 a2 a3).1 (jA s0_0).1 j, jS (jE s0_0 a1 a2 a3).2 (jE s0_0 a1 a2 a3).1 (jA s0_0).1 (j + 1))) rfl
  have h6 : jS (jE s0_0 a1 a2 a3).2 (jE s0_0 a1 a2 a3).1 (jA s0_0).1 0 = (jE s0_0 a1 a2 a3).2 := rfl
  generalize jS (jE s0_0 a1 a2 a3).2 (jE s0_0 a1 a2 a3).1 (jA s0_0).1 = S at *
  generalize jV (jE s0_0 a1 a2 a3).2 (jE s0_0 a1 a2 a3).1 (jA s0_0).1 = V at *
  generalize jE s0_0 a1 a2 a3 = pE at *
  generalize jW s0_0 a1 a2 = pW at *
  generalize jM s0_0 a1 a2 = pM at *
  generalize jA s0_0 = pA at *
  obtain ⟨e0, sE⟩ := pE
  obtain ⟨y0, sW⟩ := pW
  obtain ⟨m0, sM⟩ := pM
  obtain ⟨n0, sA⟩ := pA
  dsimp only at *
  have H1 := Lib.hid h1
  have H2 := Lib.hid h2
  have H3 := Lib.hid h3
  have H4 := Lib.hid h4
  have H5 := Lib.hid h5
  have H6 := Lib.hid h6
  have HW0 := Lib.hid hB.size
  clear h1 h2 h3 h4 h5 h6 hts hI hB
  go_enter Tryd.func12, Tryd.ntmps12
  go_wp2_with fail
  refine (H1.out _ (HT.out.alloc _)).mono ?_
  rintro e w1 ⟨rfl, t1, k1⟩
  go_wp2_with fail
  refine (H2.out _ t1).mono ?_
  rintro e w2 ⟨rfl, t2, k2⟩
  have hw0 : w0.heap.size ≤ w.heap.size := HW0.out
  have z1 : w1.heap[w.heap.size]? = some (.cells (jC 0 0 0 0 V 0) 31 (0, 0)) := k1.blk heap_alloc_at trivial rfl
  have z2 := k2.blk z1 trivial rfl
  have Z2 := Lib.hid z2
  have hs2 : w.heap.size < w2.heap.size := lt_of_heap z2
  have K0 := Lib.hid k1
  clear z1 z2 k1 k2
  go_wp2_with fail
  refine (H3.out _ (t2.alloc _)).mono ?_
  rintro e w3 ⟨rfl, t3, k3⟩
  have b3 := k3.blk (heap_alloc_at (w := w2)) trivial rfl
  have Z3 := Lib.hid (k3.blk ((heap_alloc_lt hs2).trans Z2.out) trivial rfl)
  have hs3 := lt_of_heap b3
  have e1 := cell_of b3 1
  have e2 := cell_of b3 2
  have f2 := free_of b3 2
  simp only [List.getElem?_toArray, List.getElem?_cons_zero, List.getElem?_cons_succ] at e1 e2
  have B3 := Lib.hid b3
  clear b3 k3
  go_wp2_with fail
  obtain ⟨t3a, b3a⟩ := t3.cellset (i := 2) B3.out rfl (Nat.le_of_lt hs2) HW0.out (.int .i64 y0)
  have Z3a := Lib.hid ((heap_setCell_ne (a := ⟨w2.heap.size, 2, none⟩) (v := .int .i64 y0) (by show w.heap.size ≠ w2.heap.size; omega)).trans Z3.out)
  refine (H4.out _ t3a).mono ?_
  rintro e w4 ⟨rfl, t4, k4⟩
  have b4 := k4.blk b3a trivial rfl
  have Z4 := Lib.hid (k4.blk Z3a.out trivial rfl)
  have hs4 := lt_of_heap b4
  have e3 := cell_of b4 3
  have f3 := free_of b4 3
  simp only [List.setIfInBounds_toArray, List.set_cons_zero, List.set_cons_succ, List.getElem?_toArray, List.getElem?_cons_zero, List.getElem?_cons_succ] at e3
  have B4 := Lib.hid b4
  clear b4 k4 b3a t3a e1 e2 f2
  go_wp2_with fail
  obtain ⟨t5, b5⟩ := t4.cellset (i := 3) B4.out rfl (Nat.le_of_lt hs2) HW0.out (.int .i64 e0)
  have z5 := (heap_setCell_ne (a := ⟨w2.heap.size, 3, none⟩) (v := .int .i64 e0) (by show w.heap.size ≠ w2.heap.size; omega)).trans Z4.out
  generalize w4.setCell ⟨w2.heap.size, 3, none⟩ (.int .i64 e0) = w5 at *
  have hst : JRel w0 w g S V a1 m0 y0 e0 w2.heap.size w.heap.size (.int .i64 0) w5 := ⟨0, by omega, rfl, by rw [H6.out]; exact t5, by simpa [jC, jc] using b5, z5⟩
  have HST := Lib.hid hst
  have hne : w.heap.size ≠ w2.heap.size := by omega
  have hle : w.heap.size ≤ w2.heap.size := by omega
  generalize w2.heap.size = B at *
  clear hst t5 b5 z5 t4 Z4 B4 e3 f3 Z3a t3 Z3 B3 t2 t1 Z2 K0 hs2 hs3 hs4
  go_loopw [52] (fun iv wr => JRel w0 w g S V a1 m0 y0 e0 B w.heap.size iv wr) (fun iv _ => 9 - natAt iv)
  case atStart => exact HST.out
  case round =>
    clear HST
    obtain ⟨j, hj, rfl, tj, bj, z8⟩ := hrel
    have BJ := Lib.hid bj
    have Z8 := Lib.hid z8
    have TJ := Lib.hid tj
    clear tj bj z8
    by_cases hlt : j < 9
    · have hBr := lt_of_heap BJ.out
      have e3 := cell_of BJ.out 3
      have e4 := cell_of BJ.out (4 + j)
      have f4 := free_of BJ.out (4 + j)
      have hR := H5.out j
      have hN := jC_next a1 m0 y0 e0 V j hlt
      rw [jC_old a1 m0 y0 e0 V j hlt] at e4
      have HR := Lib.hid hR
      have HNX := Lib.hid hN
      clear hR hN
      have e3' : wr.cell? ⟨B, 3, none⟩ = some (.int .i64 e0) := e3.trans rfl
      clear e3
      go_wp2_with fail
      rw [jidx B j wr hlt]
      go_wp2_with fail
      have hx0 : (wr.alloc (.cells #[.pointer (some ⟨B, 4 + j, none⟩), .string (jl j)] 69)).heap[wr.heap.size]? = some (.cells #[.pointer (some ⟨B, 4 + j, none⟩), .string (jl j)] 69 (0, 0)) := heap_alloc_at
      have HX0 := Lib.hid hx0
      have c0 := cell_of hx0 0
      have c1 := cell_of hx0 1
      have hsr : wr.heap.size < (wr.alloc (.cells #[.pointer (some ⟨B, 4 + j, none⟩), .string (jl j)] 69)).heap.size := by simp
      simp only [List.getElem?_toArray, List.getElem?_cons_zero, List.getElem?_cons_succ] at c0 c1
      have ea : (wr.alloc (.cells #[.pointer (some ⟨B, 4 + j, none⟩), .string (jl j)] 69)).cell? ⟨B, 3, none⟩ = some (.int .i64 e0) := (cell_eq (heap_alloc_lt hBr)).trans e3'
      have BA := Lib.hid ((heap_alloc_lt (o := .cells #[.pointer (some ⟨B, 4 + j, none⟩), .string (jl j)] 69) hBr).trans BJ.out)
      have ZA := Lib.hid ((heap_alloc_lt (o := .cells #[.pointer (some ⟨B, 4 + j, none⟩), .string (jl j)] 69) (lt_of_heap Z8.out)).trans Z8.out)
      have TA := Lib.hid (TJ.out.alloc (.cells #[.pointer (some ⟨B, 4 + j, none⟩), .string (jl j)] 69))
      generalize wr.alloc (.cells #[.pointer (some ⟨B, 4 + j, none⟩), .string (jl j)] 69) = wa at *
      generalize wr.heap.size = X at *
      clear hx0 e4 f4 e3' TJ BJ Z8
      refine Mix.wp_region_mix (fun w' => w'.cell? ⟨X, 0, none⟩ = some (.pointer (some ⟨B, 4 + j, none⟩))) (fun i => [0, 1, 0, 0, 8, 0, 32, 0, 252, 511, 1023].getD i 0) (fun i => [1, 1, 2, 2, 2, 2, 2, 2, 0, 2, 3].getD i 0) (by kernel_rfl) ⟨by kernel_rfl, by kernel_rfl, by kernel_rfl, by kernel_rfl, by kernel_rfl⟩ c0 ?_; simp only [Mix.whole, List.getD_cons_zero, List.getD_cons_succ, Nat.reduceAdd]
      repeat (first | (refine Mix.pin_no rfl rfl (fun K hK => ?_); go_step; refine hK _ ?_; clear hK K) | (refine Mix.soft_no rfl rfl ?_; apply Exists.intro; refine ⟨fun w' hS => ?_, fun K hK => ?_⟩; (first | (go_simp; done) | (go_simp; exact rfl)); simp only [List.setIfInBounds_toArray, List.set_cons_zero, List.set_cons_succ]; refine hK _ ?_; clear hK K) | (refine Mix.pin_not rfl rfl rfl rfl (fun K hK => ?_); simp only [List.setIfInBounds_toArray, List.set_cons_zero, List.set_cons_succ]; refine hK _ ?_; clear hK K) | (refine Mix.soft_not rfl rfl rfl rfl (fun K hK => ?_); simp only [List.setIfInBounds_toArray, List.set_cons_zero, List.set_cons_succ]; refine hK _ ?_; clear hK K) | (refine Mix.pin_yes rfl rfl rfl rfl (fun K hK => ?_); go_step; refine hK _ ?_; clear hK K) | (refine Mix.soft_yes rfl rfl rfl rfl ?_; apply Exists.intro; refine ⟨fun w' hS => ?_, fun K hK => ?_⟩; (first | (go_simp; done) | (go_simp; exact rfl)); simp only [List.setIfInBounds_toArray, List.set_cons_zero, List.set_cons_succ]; refine hK _ ?_; clear hK K))
      refine Mix.hard_no rfl (fun K hK => ?_)
      go_step
      refine (HR.out _ TA.out.drew).mono ?_
      rintro e w6 ⟨rfl, t6, k6⟩
      dsimp only
      have hx6 := k6.blk (show wa.drew.heap[X]? = _ from HX0.out) trivial rfl
      have hb6 := k6.blk (show wa.drew.heap[B]? = _ from BA.out) trivial rfl
      have z6 := Lib.hid (k6.blk (show wa.drew.heap[w.heap.size]? = _ from ZA.out) trivial rfl)
      have c6 := cell_of hx6 0
      simp only [List.getElem?_toArray, List.getElem?_cons_zero, List.getElem?_cons_succ] at c6
      refine hK _ _ ⟨c6, ?_⟩
      have g4 := cell_of hb6 (4 + j)
      have g5 := free_of hb6 (4 + j)
      rw [jC_old a1 m0 y0 e0 V j hlt] at g4
      have B6 := Lib.hid hb6
      have T6 := Lib.hid t6
      clear hK K k6 hx6 hb6 t6 c0 c1 ea
      (try simp only [Act.put, List.setIfInBounds_toArray, List.set_cons_zero, List.set_cons_succ])
      repeat (first | (refine Mix.pin_no rfl rfl (fun K hK => ?_); go_step; refine hK _ ?_; clear hK K) | (refine Mix.pin_not rfl rfl rfl rfl (fun K hK => ?_); simp only [List.setIfInBounds_toArray, List.set_cons_zero, List.set_cons_succ]; refine hK _ ?_; clear hK K) | (refine Mix.pin_yes rfl rfl rfl rfl (fun K hK => ?_); go_step; refine hK _ ?_; clear hK K))
      refine Mix.last_no rfl (fun K hK => ?_)
      go_step
      refine hK _ _ ?_
      clear hK K
      refine Mix.walk_nil ?_
      obtain ⟨t7, b7⟩ := T6.out.cellset (i := 4 + j) B6.out rfl hle HW0.out (.int .i64 (V j))
      rw [HNX.out] at b7
      have z7 := (heap_setCell_ne (a := ⟨B, 4 + j, none⟩) (v := .int .i64 (V j)) hne).trans z6.out
      generalize w6.setCell ⟨B, 4 + j, none⟩ (.int .i64 (V j)) = w7 at *
      have HE := Lib.hid (And.intro t7 (And.intro b7 z7))
      clear t7 b7 z7 g4 g5 c6
      go_wp2
      exact ⟨⟨j + 1, by omega, by go_num, HE.out.1, HE.out.2.1, HE.out.2.2⟩, by simp [natAt]; omega⟩
    · have hj9 : j = 9 := by omega
      subst hj9
      have b0 : wr.cell? ⟨B, 0, none⟩ = some (.int .i64 a1) := (cell_of BJ.out 0).trans rfl
      have z0 : wr.cell? ⟨w.heap.size, 0, none⟩ = some (.int .i64 0) := (cell_of Z8.out 0).trans rfl
      have f0 := free_of Z8.out 0
      have b1 : wr.cell? ⟨B, 1, none⟩ = some (.int .i64 m0) := (cell_of BJ.out 1).trans rfl
      have z1 : wr.cell? ⟨w.heap.size, 1, none⟩ = some (.int .i64 0) := (cell_of Z8.out 1).trans rfl
      have f1 := free_of Z8.out 1
      have b2 : wr.cell? ⟨B, 2, none⟩ = some (.int .i64 y0) := (cell_of BJ.out 2).trans rfl
      have z2 : wr.cell? ⟨w.heap.size, 2, none⟩ = some (.int .i64 0) := (cell_of Z8.out 2).trans rfl
      have f2 := free_of Z8.out 2
      have b3 : wr.cell? ⟨B, 3, none⟩ = some (.int .i64 e0) := (cell_of BJ.out 3).trans rfl
      have z3 : wr.cell? ⟨w.heap.size, 3, none⟩ = some (.int .i64 0) := (cell_of Z8.out 3).trans rfl
      have f3 := free_of Z8.out 3
      have b4 : wr.cell? ⟨B, 4, none⟩ = some (.int .i64 (V 0)) := (cell_of BJ.out 4).trans rfl
      have z4 : wr.cell? ⟨w.heap.size, 4, none⟩ = some (.int .i64 0) := (cell_of Z8.out 4).trans rfl
      have f4 := free_of Z8.out 4
      have b5 : wr.cell? ⟨B, 5, none⟩ = some (.int .i64 (V 1)) := (cell_of BJ.out 5).trans rfl
      have z5 : wr.cell? ⟨w.heap.size, 5, none⟩ = some (.int .i64 0) := (cell_of Z8.out 5).trans rfl
      have f5 := free_of Z8.out 5
      have b6 : wr.cell? ⟨B, 6, none⟩ = some (.int .i64 (V 2)) := (cell_of BJ.out 6).trans rfl
      have z6 : wr.cell? ⟨w.heap.size, 6, none⟩ = some (.int .i64 0) := (cell_of Z8.out 6).trans rfl
      have f6 := free_of Z8.out 6
      have b7 : wr.cell? ⟨B, 7, none⟩ = some (.int .i64 (V 3)) := (cell_of BJ.out 7).trans rfl
      have z7 : wr.cell? ⟨w.heap.size, 7, none⟩ = some (.int .i64 0) := (cell_of Z8.out 7).trans rfl
      have f7 := free_of Z8.out 7
      have b8 : wr.cell? ⟨B, 8, none⟩ = some (.int .i64 (V 4)) := (cell_of BJ.out 8).trans rfl
      have z8 : wr.cell? ⟨w.heap.size, 8, none⟩ = some (.int .i64 0) := (cell_of Z8.out 8).trans rfl
      have f8 := free_of Z8.out 8
      have b9 : wr.cell? ⟨B, 9, none⟩ = some (.int .i64 (V 5)) := (cell_of BJ.out 9).trans rfl
      have z9 : wr.cell? ⟨w.heap.size, 9, none⟩ = some (.int .i64 0) := (cell_of Z8.out 9).trans rfl
      have f9 := free_of Z8.out 9
      have b10 : wr.cell? ⟨B, 10, none⟩ = some (.int .i64 (V 6)) := (cell_of BJ.out 10).trans rfl
      have z10 : wr.cell? ⟨w.heap.size, 10, none⟩ = some (.int .i64 0) := (cell_of Z8.out 10).trans rfl
      have f10 := free_of Z8.out 10
      have b11 : wr.cell? ⟨B, 11, none⟩ = some (.int .i64 (V 7)) := (cell_of BJ.out 11).trans rfl
      have z11 : wr.cell? ⟨w.heap.size, 11, none⟩ = some (.int .i64 0) := (cell_of Z8.out 11).trans rfl
      have f11 := free_of Z8.out 11
      have b12 : wr.cell? ⟨B, 12, none⟩ = some (.int .i64 (V 8)) := (cell_of BJ.out 12).trans rfl
      have z12 : wr.cell? ⟨w.heap.size, 12, none⟩ = some (.int .i64 0) := (cell_of Z8.out 12).trans rfl
      have f12 := free_of Z8.out 12
      rw [show ((9 : Nat) : Int) = 9 from rfl]
      go_wp2
      obtain ⟨s0, d0⟩ := TJ.out.cellset (i := 0) Z8.out rfl (Nat.le_refl _) HW0.out (.int .i64 a1)
      obtain ⟨s1, d1⟩ := s0.cellset (i := 1) d0 rfl (Nat.le_refl _) HW0.out (.int .i64 m0)
      obtain ⟨s2, d2⟩ := s1.cellset (i := 2) d1 rfl (Nat.le_refl _) HW0.out (.int .i64 y0)
      obtain ⟨s3, d3⟩ := s2.cellset (i := 3) d2 rfl (Nat.le_refl _) HW0.out (.int .i64 e0)
      obtain ⟨s4, d4⟩ := s3.cellset (i := 4) d3 rfl (Nat.le_refl _) HW0.out (.int .i64 (V 0))
      obtain ⟨s5, d5⟩ := s4.cellset (i := 5) d4 rfl (Nat.le_refl _) HW0.out (.int .i64 (V 1))
      obtain ⟨s6, d6⟩ := s5.cellset (i := 6) d5 rfl (Nat.le_refl _) HW0.out (.int .i64 (V 2))
      obtain ⟨s7, d7⟩ := s6.cellset (i := 7) d6 rfl (Nat.le_refl _) HW0.out (.int .i64 (V 3))
      obtain ⟨s8, d8⟩ := s7.cellset (i := 8) d7 rfl (Nat.le_refl _) HW0.out (.int .i64 (V 4))
      obtain ⟨s9, d9⟩ := s8.cellset (i := 9) d8 rfl (Nat.le_refl _) HW0.out (.int .i64 (V 5))
      obtain ⟨s10, d10⟩ := s9.cellset (i := 10) d9 rfl (Nat.le_refl _) HW0.out (.int .i64 (V 6))
      obtain ⟨s11, d11⟩ := s10.cellset (i := 11) d10 rfl (Nat.le_refl _) HW0.out (.int .i64 (V 7))
      obtain ⟨s12, d12⟩ := s11.cellset (i := 12) d11 rfl (Nat.le_refl _) HW0.out (.int .i64 (V 8))
      simp only [jC, List.setIfInBounds_toArray, List.set_cons_zero, List.set_cons_succ] at d12
      have SZ := Lib.hid s12
      have DZ := Lib.hid d12
      clear s0 s1 s2 s3 s4 s5 s6 s7 s8 s9 s10 s11 s12 d0 d1 d2 d3 d4 d5 d6 d7 d8 d9 d10 d11 d12
      generalize (((((((((((((wr.setCell ⟨w.heap.size, 0, none⟩ (.int .i64 a1)).setCell ⟨w.heap.size, 1, none⟩ (.int .i64 m0)).setCell ⟨w.heap.size, 2, none⟩ (.int .i64 y0)).setCell ⟨w.heap.size, 3, none⟩ (.int .i64 e0)).setCell ⟨w.heap.size, 4, none⟩ (.int .i64 (V 0))).setCell ⟨w.heap.size, 5, none⟩ (.int .i64 (V 1))).setCell ⟨w.heap.size, 6, none⟩ (.int .i64 (V 2))).setCell ⟨w.heap.size, 7, none⟩ (.int .i64 (V 3))).setCell ⟨w.heap.size, 8, none⟩ (.int .i64 (V 4))).setCell ⟨w.heap.size, 9, none⟩ (.int .i64 (V 5))).setCell ⟨w.heap.size, 10, none⟩ (.int .i64 (V 6))).setCell ⟨w.heap.size, 11, none⟩ (.int .i64 (V 7))).setCell ⟨w.heap.size, 12, none⟩ (.int .i64 (V 8))) = wz at *
      refine bodyPost_ret (results_cell_row rfl _ _ w.heap.size 31 #[.int .i64 a1, .int .i64 m0, .int .i64 y0, .int .i64 e0, .int .i64 (V 0), .int .i64 (V 1), .int .i64 (V 2), .int .i64 (V 3), .int .i64 (V 4), .int .i64 (V 5), .int .i64 (V 6), .int .i64 (V 7), .int .i64 (V 8)] (0, 0) _ rfl DZ.out Tryd.underlying31 rfl (by kernel_rfl)) rfl ?_
      exact ⟨rfl, SZ.out.st, SZ.out.below, SZ.out.keep⟩
def schedule_Next.f (s0_0 : TS) (a1 : Int) (a2 : Int) (a3 : Int) (a4 : Int) : Option (Int × Int × Int × Int × Int × Int × Int × Int × Int × Int × Int × Int × Int × TS) := (term_Store_Kdf.f s0_0 (⟨#[106, 111, 105, 110, 101, 114]⟩ : ByteArray) a1 a2).bind fun bt115 => ((schedule_Join.f bt115.2 bt115.1 a3 a4).bind fun bt117 => (some (bt117.1, bt117.2.1, bt117.2.2.1, bt117.2.2.2.1, bt117.2.2.2.2.1, bt117.2.2.2.2.2.1, bt117.2.2.2.2.2.2.1, bt117.2.2.2.2.2.2.2.1, bt117.2.2.2.2.2.2.2.2.1, bt117.2.2.2.2.2.2.2.2.2.1, bt117.2.2.2.2.2.2.2.2.2.2.1, bt117.2.2.2.2.2.2.2.2.2.2.2.1, bt117.2.2.2.2.2.2.2.2.2.2.2.2.1, bt117.2.2.2.2.2.2.2.2.2.2.2.2.2)))
set_option maxHeartbeats 8000000 in
set_option maxRecDepth 100000 in
theorem schedule_Next.calls (g : Nat) (s0_0 : TS) (a1 : Int) (a2 : Int) (a3 : Int) (a4 : Int) (r1 : Int) (r2 : Int) (r3 : Int) (r4 : Int) (r5 : Int) (r6 : Int) (r7 : Int) (r8 : Int) (r9 : Int) (r10 : Int) (r11 : Int) (r12 : Int) (r13 : Int) (r14 : TS) (w0 w : World) (hI : IsS80 w0 w g s0_0) (hB : Below w0.heap.size w0 w) (h : schedule_Next.f s0_0 a1 a2 a3 a4 = some (r1, r2, r3, r4, r5, r6, r7, r8, r9, r10, r11, r12, r13, r14)) :
    Calls Tryd.prog 10 #[.pointer (some ⟨g, 0, none⟩), .int .i64 a1, .int .i64 a2, .int .i64 a3, .int .i64 a4] w fun e w' => e = .returned (.agg #[.int .i64 r1, .int .i64 r2, .int .i64 r3, .int .i64 r4, .int .i64 r5, .int .i64 r6, .int .i64 r7, .int .i64 r8, .int .i64 r9, .int .i64 r10, .int .i64 r11, .int .i64 r12, .int .i64 r13]) ∧ IsS80 w0 w' g r14 ∧ Below w0.heap.size w0 w' ∧ KeepSt w w' w0 := by
  have hu31 := Tryd.underlying31
  have HI0 := Aside0.mk hI
  have HK := Aside0.mk (KeepSt.refl w w0)
  have HL := Aside0.mk hB.size
  clear hI
  have HW0 := Aside0.mk hB.size
  have HB := Aside0.mk hB
  clear hB
  have H : ((term_Store_Kdf.f s0_0 (⟨#[106, 111, 105, 110, 101, 114]⟩ : ByteArray) a1 a2).bind fun bt115 => ((schedule_Join.f bt115.2 bt115.1 a3 a4).bind fun bt117 => (some (bt117.1, bt117.2.1, bt117.2.2.1, bt117.2.2.2.1, bt117.2.2.2.2.1, bt117.2.2.2.2.2.1, bt117.2.2.2.2.2.2.1, bt117.2.2.2.2.2.2.2.1, bt117.2.2.2.2.2.2.2.2.1, bt117.2.2.2.2.2.2.2.2.2.1, bt117.2.2.2.2.2.2.2.2.2.2.1, bt117.2.2.2.2.2.2.2.2.2.2.2.1, bt117.2.2.2.2.2.2.2.2.2.2.2.2.1, bt117.2.2.2.2.2.2.2.2.2.2.2.2.2)))) = some (r1, r2, r3, r4, r5, r6, r7, r8, r9, r10, r11, r12, r13, r14) := h
  clear h
  replace H := Option.bind_eq_some_iff.mp H
  obtain ⟨⟨t115, t116⟩, A60, H⟩ := H
  replace H : ((schedule_Join.f t116 t115 a3 a4).bind fun bt117 => (some (bt117.1, bt117.2.1, bt117.2.2.1, bt117.2.2.2.1, bt117.2.2.2.2.1, bt117.2.2.2.2.2.1, bt117.2.2.2.2.2.2.1, bt117.2.2.2.2.2.2.2.1, bt117.2.2.2.2.2.2.2.2.1, bt117.2.2.2.2.2.2.2.2.2.1, bt117.2.2.2.2.2.2.2.2.2.2.1, bt117.2.2.2.2.2.2.2.2.2.2.2.1, bt117.2.2.2.2.2.2.2.2.2.2.2.2.1, bt117.2.2.2.2.2.2.2.2.2.2.2.2.2))) = some (r1, r2, r3, r4, r5, r6, r7, r8, r9, r10, r11, r12, r13, r14) := H
  have A6 := Aside0.mk A60
  clear A60
  replace H := Option.bind_eq_some_iff.mp H
  obtain ⟨⟨t117, t118, t119, t120, t121, t122, t123, t124, t125, t126, t127, t128, t129, t130⟩, A70, H⟩ := H
  replace H : (some (t117, t118, t119, t120, t121, t122, t123, t124, t125, t126, t127, t128, t129, t130)) = some (r1, r2, r3, r4, r5, r6, r7, r8, r9, r10, r11, r12, r13, r14) := H
  have A7 := Aside0.mk A70
  clear A70
  simp only [Option.some.injEq, Prod.mk.injEq] at H
  obtain ⟨rfl, rfl, rfl, rfl, rfl, rfl, rfl, rfl, rfl, rfl, rfl, rfl, rfl, rfl⟩ := H
  go_enter Tryd.func10, Tryd.ntmps10
  go_wp2_with (first | ((with_reducible refine gate_dst (N := 10) rfl ?_); refine box_event ?hg (N := 10) ?hd (cs := #[.int .i64 0, .int .i64 0, .int .i64 0, .int .i64 0, .int .i64 0, .int .i64 0, .int .i64 0, .int .i64 0, .int .i64 0, .int .i64 0, .int .i64 0, .int .i64 0, .int .i64 0]) (t := 31) ?hr ?_; (case hd => rfl); (case hg => rfl); (case hr => first | (go_simp; done) | (go_simp; rfl)); intro gb114 hg w8 hbox hb; have n0_ := Aside0.mk (IsS80.below (by repeat (first | (with_reducible first | exact HI0.out | apply IsS80.alloc | apply IsS80.drewN | apply IsS80.drew | apply IsS80.set_0) | exact HI0.out)) hb); have n1_ := Aside0.mk (KeepSt.trans (by repeat (first | (with_reducible first | exact HK.out | apply KeepSt.drewN | apply KeepSt.drew | apply KeepSt.alloc) | exact HK.out)) (KeepSt.of_below hb w0)); have n2_ := Aside0.mk (below_step (by repeat (first | (with_reducible first | exact HB.out | apply below_alloc | apply pw_below_drewN | apply below_drew1 | refine below_set ?_ (IsS80.ge HI0.out)) | exact HB.out)) hb); have n3_ := Aside0.mk (hbox); have n4_ := Aside0.mk ((by rw [hg]; exact (KeepSt.size (w := w) (w0 := w0) (by repeat (first | (with_reducible first | exact HK.out | apply KeepSt.drewN | apply KeepSt.drew | apply KeepSt.alloc) | exact HK.out))) : w.heap.size ≤ gb114)); have n5_ := Aside0.mk ((Nat.le_trans HW0.out (by rw [hg]; exact (KeepSt.size (w := w) (w0 := w0) (by repeat (first | (with_reducible first | exact HK.out | apply KeepSt.drewN | apply KeepSt.drew | apply KeepSt.alloc) | exact HK.out))) : w.heap.size ≤ gb114) : w0.heap.size ≤ gb114)); have n6_ := Aside0.mk ((by rw [hg]; exact Nat.ne_of_lt (IsS80.lt (show IsS80 w0 _ g s0_0 from by repeat (first | (with_reducible first | exact HI0.out | apply IsS80.alloc | apply IsS80.drewN | apply IsS80.drew | apply IsS80.set_0) | exact HI0.out))) : g ≠ gb114)); have n7_ := Aside0.mk ((by rw [hg]; exact Nat.ne_of_gt (IsS80.lt (show IsS80 w0 _ g s0_0 from by repeat (first | (with_reducible first | exact HI0.out | apply IsS80.alloc | apply IsS80.drewN | apply IsS80.drew | apply IsS80.set_0) | exact HI0.out))) : gb114 ≠ g)); clear HI0; clear HK; clear HB; have HI0 := n0_; have HK := n1_; have HB := n2_; have BK114 := n3_; have GW114 := n4_; have GE114 := n5_; have NB0_114 := n6_; have NB114_0 := n7_; clear n0_ n1_ n2_ n3_ n4_ n5_ n6_ n7_; clear hb hbox hg) | ((with_reducible refine gate_callee (f := 13) rfl ?_); refine goesL_ (some 15) rfl rfl Tryd.func13 (by kernel_rfl) rfl #[.pointer (some ⟨g, 0, none⟩), .string (⟨#[106, 111, 105, 110, 101, 114]⟩ : ByteArray), .int .i64 a1, .int .i64 a2] rfl (by (try simp only [List.map_toArray, List.map_cons, List.map_nil]); first | done | rfl | (simp only [List.length_drop, List.length_take]; rfl)) ?_; (with_reducible refine (term_Store_Kdf.calls g s0_0 (⟨#[106, 111, 105, 110, 101, 114]⟩ : ByteArray) a1 a2 t115 t116 w0 _ ?side1 ?side2 A6.out).mono ?_); (case side1 => repeat (first | (with_reducible first | exact HI0.out | apply IsS80.alloc | apply IsS80.drewN | apply IsS80.drew | apply IsS80.set_0 | (focus (refine IsS80.far ?_ ?_ _; rotate_left; (focus ((repeat (first | (with_reducible exact Nsty.of BK114.out rfl) | apply Nsty.set | apply Nsty.drewN | apply Nsty.drew | apply Nsty.alloc)); done))))) | exact HI0.out)); (case side2 => repeat (first | (with_reducible first | exact HB.out | apply below_alloc | apply pw_below_drewN | apply below_drew1 | refine below_set ?_ (IsS80.ge HI0.out) | refine below_set ?_ GE114.out) | exact HB.out)); rintro e w9 ⟨rfl, hi, hb, hk⟩; refine ⟨_, rfl, ?_⟩; have n0_ := Aside0.mk (KeepSt.blk hk (g' := gb114) (o := .cells #[.int .i64 0, .int .i64 0, .int .i64 0, .int .i64 0, .int .i64 0, .int .i64 0, .int .i64 0, .int .i64 0, .int .i64 0, .int .i64 0, .int .i64 0, .int .i64 0, .int .i64 0] 31 (0, 0)) (by (with_reducible repeat (first | refine blk_drewN ?_ _ | refine blk_drew ?_ | refine blk_alloc ?_ _)); exact BK114.out) NB114_0.out rfl); have n1_ := Aside0.mk (KeepSt.trans (by repeat (first | (with_reducible first | exact HK.out | apply KeepSt.drewN | apply KeepSt.drew | apply KeepSt.alloc | refine KeepSt.far ?_ GW114.out _) | exact HK.out)) hk); have n2_ := Aside0.mk (hb); have n3_ := Aside0.mk (hi); clear BK114; clear HK; clear HB; clear HI0; have BK114 := n0_; have HK := n1_; have HB := n2_; have HI0 := n3_; clear n0_ n1_ n2_ n3_; (try clear hb); (try clear hb2); (try clear hk); (try clear hi)) | ((with_reducible refine gate_callee (f := 12) rfl ?_); refine goesL_ (some 18) rfl rfl Tryd.func12 (by kernel_rfl) rfl #[.pointer (some ⟨g, 0, none⟩), .int .i64 t115, .int .i64 a3, .int .i64 a4] rfl (by (try simp only [List.map_toArray, List.map_cons, List.map_nil]); first | done | rfl | (simp only [List.length_drop, List.length_take]; rfl)) ?_; (with_reducible refine (schedule_Join.calls g t116 t115 a3 a4 t117 t118 t119 t120 t121 t122 t123 t124 t125 t126 t127 t128 t129 t130 w0 _ ?side1 ?side2 A7.out).mono ?_); (case side1 => repeat (first | (with_reducible first | exact HI0.out | apply IsS80.alloc | apply IsS80.drewN | apply IsS80.drew | apply IsS80.set_0 | (focus (refine IsS80.far ?_ ?_ _; rotate_left; (focus ((repeat (first | (with_reducible exact Nsty.of BK114.out rfl) | apply Nsty.set | apply Nsty.drewN | apply Nsty.drew | apply Nsty.alloc)); done))))) | exact HI0.out)); (case side2 => repeat (first | (with_reducible first | exact HB.out | apply below_alloc | apply pw_below_drewN | apply below_drew1 | refine below_set ?_ (IsS80.ge HI0.out) | refine below_set ?_ GE114.out) | exact HB.out)); rintro e w10 ⟨rfl, hi, hb, hk⟩; refine ⟨_, rfl, ?_⟩; have n0_ := Aside0.mk (KeepSt.blk hk (g' := gb114) (o := .cells #[.int .i64 0, .int .i64 0, .int .i64 0, .int .i64 0, .int .i64 0, .int .i64 0, .int .i64 0, .int .i64 0, .int .i64 0, .int .i64 0, .int .i64 0, .int .i64 0, .int .i64 0] 31 (0, 0)) (by (with_reducible repeat (first | refine blk_drewN ?_ _ | refine blk_drew ?_ | refine blk_alloc ?_ _)); exact BK114.out) NB114_0.out rfl); have n1_ := Aside0.mk (KeepSt.trans (by repeat (first | (with_reducible first | exact HK.out | apply KeepSt.drewN | apply KeepSt.drew | apply KeepSt.alloc | refine KeepSt.far ?_ GW114.out _) | exact HK.out)) hk); have n2_ := Aside0.mk (hb); have n3_ := Aside0.mk (hi); clear BK114; clear HK; clear HB; clear HI0; have BK114 := n0_; have HK := n1_; have HB := n2_; have HI0 := n3_; clear n0_ n1_ n2_ n3_; (try clear hb); (try clear hb2); (try clear hk); (try clear hi); have hnb11 := NB114_0.out; have hnc11 := NB0_114.out; have hcz12_0 : w10.cell? ⟨gb114, 0, none⟩ = some (.int .i64 0) := (blk_cell BK114.out 0).trans rfl; have hcz12_1 : w10.cell? ⟨gb114, 1, none⟩ = some (.int .i64 0) := (blk_cell BK114.out 1).trans rfl; have hcz12_2 : w10.cell? ⟨gb114, 2, none⟩ = some (.int .i64 0) := (blk_cell BK114.out 2).trans rfl; have hcz12_3 : w10.cell? ⟨gb114, 3, none⟩ = some (.int .i64 0) := (blk_cell BK114.out 3).trans rfl; have hcz12_4 : w10.cell? ⟨gb114, 4, none⟩ = some (.int .i64 0) := (blk_cell BK114.out 4).trans rfl; have hcz12_5 : w10.cell? ⟨gb114, 5, none⟩ = some (.int .i64 0) := (blk_cell BK114.out 5).trans rfl; have hcz12_6 : w10.cell? ⟨gb114, 6, none⟩ = some (.int .i64 0) := (blk_cell BK114.out 6).trans rfl; have hcz12_7 : w10.cell? ⟨gb114, 7, none⟩ = some (.int .i64 0) := (blk_cell BK114.out 7).trans rfl; have hcz12_8 : w10.cell? ⟨gb114, 8, none⟩ = some (.int .i64 0) := (blk_cell BK114.out 8).trans rfl; have hcz12_9 : w10.cell? ⟨gb114, 9, none⟩ = some (.int .i64 0) := (blk_cell BK114.out 9).trans rfl; have hcz12_10 : w10.cell? ⟨gb114, 10, none⟩ = some (.int .i64 0) := (blk_cell BK114.out 10).trans rfl; have hcz12_11 : w10.cell? ⟨gb114, 11, none⟩ = some (.int .i64 0) := (blk_cell BK114.out 11).trans rfl; have hcz12_12 : w10.cell? ⟨gb114, 12, none⟩ = some (.int .i64 0) := (blk_cell BK114.out 12).trans rfl; have hfz12_0 := blk_frozen BK114.out 0; have hfz12_1 := blk_frozen BK114.out 1; have hfz12_2 := blk_frozen BK114.out 2; have hfz12_3 := blk_frozen BK114.out 3; have hfz12_4 := blk_frozen BK114.out 4; have hfz12_5 := blk_frozen BK114.out 5; have hfz12_6 := blk_frozen BK114.out 6; have hfz12_7 := blk_frozen BK114.out 7; have hfz12_8 := blk_frozen BK114.out 8; have hfz12_9 := blk_frozen BK114.out 9; have hfz12_10 := blk_frozen BK114.out 10; have hfz12_11 := blk_frozen BK114.out 11; have hfz12_12 := blk_frozen BK114.out 12))
  refine bodyPost_ret (results_cell_row rfl _ _ gb114 31 #[.int .i64 t117, .int .i64 t118, .int .i64 t119, .int .i64 t120, .int .i64 t121, .int .i64 t122, .int .i64 t123, .int .i64 t124, .int .i64 t125, .int .i64 t126, .int .i64 t127, .int .i64 t128, .int .i64 t129] (0, 0) _ rfl (by (with_reducible repeat (first | refine blk_drewN ?_ _ | refine blk_drew ?_ | refine blk_alloc ?_ _)); refine blk_put (cs := #[.int .i64 t117, .int .i64 t118, .int .i64 t119, .int .i64 t120, .int .i64 t121, .int .i64 t122, .int .i64 t123, .int .i64 t124, .int .i64 t125, .int .i64 t126, .int .i64 t127, .int .i64 t128, .int .i64 0]) ?_ 12 _ rfl; (with_reducible repeat (first | refine blk_drewN ?_ _ | refine blk_drew ?_ | refine blk_alloc ?_ _)); refine blk_put (cs := #[.int .i64 t117, .int .i64 t118, .int .i64 t119, .int .i64 t120, .int .i64 t121, .int .i64 t122, .int .i64 t123, .int .i64 t124, .int .i64 t125, .int .i64 t126, .int .i64 t127, .int .i64 0, .int .i64 0]) ?_ 11 _ rfl; (with_reducible repeat (first | refine blk_drewN ?_ _ | refine blk_drew ?_ | refine blk_alloc ?_ _)); refine blk_put (cs := #[.int .i64 t117, .int .i64 t118, .int .i64 t119, .int .i64 t120, .int .i64 t121, .int .i64 t122, .int .i64 t123, .int .i64 t124, .int .i64 t125, .int .i64 t126, .int .i64 0, .int .i64 0, .int .i64 0]) ?_ 10 _ rfl; (with_reducible repeat (first | refine blk_drewN ?_ _ | refine blk_drew ?_ | refine blk_alloc ?_ _)); refine blk_put (cs := #[.int .i64 t117, .int .i64 t118, .int .i64 t119, .int .i64 t120, .int .i64 t121, .int .i64 t122, .int .i64 t123, .int .i64 t124, .int .i64 t125, .int .i64 0, .int .i64 0, .int .i64 0, .int .i64 0]) ?_ 9 _ rfl; (with_reducible repeat (first | refine blk_drewN ?_ _ | refine blk_drew ?_ | refine blk_alloc ?_ _)); refine blk_put (cs := #[.int .i64 t117, .int .i64 t118, .int .i64 t119, .int .i64 t120, .int .i64 t121, .int .i64 t122, .int .i64 t123, .int .i64 t124, .int .i64 0, .int .i64 0, .int .i64 0, .int .i64 0, .int .i64 0]) ?_ 8 _ rfl; (with_reducible repeat (first | refine blk_drewN ?_ _ | refine blk_drew ?_ | refine blk_alloc ?_ _)); refine blk_put (cs := #[.int .i64 t117, .int .i64 t118, .int .i64 t119, .int .i64 t120, .int .i64 t121, .int .i64 t122, .int .i64 t123, .int .i64 0, .int .i64 0, .int .i64 0, .int .i64 0, .int .i64 0, .int .i64 0]) ?_ 7 _ rfl; (with_reducible repeat (first | refine blk_drewN ?_ _ | refine blk_drew ?_ | refine blk_alloc ?_ _)); refine blk_put (cs := #[.int .i64 t117, .int .i64 t118, .int .i64 t119, .int .i64 t120, .int .i64 t121, .int .i64 t122, .int .i64 0, .int .i64 0, .int .i64 0, .int .i64 0, .int .i64 0, .int .i64 0, .int .i64 0]) ?_ 6 _ rfl; (with_reducible repeat (first | refine blk_drewN ?_ _ | refine blk_drew ?_ | refine blk_alloc ?_ _)); refine blk_put (cs := #[.int .i64 t117, .int .i64 t118, .int .i64 t119, .int .i64 t120, .int .i64 t121, .int .i64 0, .int .i64 0, .int .i64 0, .int .i64 0, .int .i64 0, .int .i64 0, .int .i64 0, .int .i64 0]) ?_ 5 _ rfl; (with_reducible repeat (first | refine blk_drewN ?_ _ | refine blk_drew ?_ | refine blk_alloc ?_ _)); refine blk_put (cs := #[.int .i64 t117, .int .i64 t118, .int .i64 t119, .int .i64 t120, .int .i64 0, .int .i64 0, .int .i64 0, .int .i64 0, .int .i64 0, .int .i64 0, .int .i64 0, .int .i64 0, .int .i64 0]) ?_ 4 _ rfl; (with_reducible repeat (first | refine blk_drewN ?_ _ | refine blk_drew ?_ | refine blk_alloc ?_ _)); refine blk_put (cs := #[.int .i64 t117, .int .i64 t118, .int .i64 t119, .int .i64 0, .int .i64 0, .int .i64 0, .int .i64 0, .int .i64 0, .int .i64 0, .int .i64 0, .int .i64 0, .int .i64 0, .int .i64 0]) ?_ 3 _ rfl; (with_reducible repeat (first | refine blk_drewN ?_ _ | refine blk_drew ?_ | refine blk_alloc ?_ _)); refine blk_put (cs := #[.int .i64 t117, .int .i64 t118, .int .i64 0, .int .i64 0, .int .i64 0, .int .i64 0, .int .i64 0, .int .i64 0, .int .i64 0, .int .i64 0, .int .i64 0, .int .i64 0, .int .i64 0]) ?_ 2 _ rfl; (with_reducible repeat (first | refine blk_drewN ?_ _ | refine blk_drew ?_ | refine blk_alloc ?_ _)); refine blk_put (cs := #[.int .i64 t117, .int .i64 0, .int .i64 0, .int .i64 0, .int .i64 0, .int .i64 0, .int .i64 0, .int .i64 0, .int .i64 0, .int .i64 0, .int .i64 0, .int .i64 0, .int .i64 0]) ?_ 1 _ rfl; (with_reducible repeat (first | refine blk_drewN ?_ _ | refine blk_drew ?_ | refine blk_alloc ?_ _)); refine blk_put (cs := #[.int .i64 0, .int .i64 0, .int .i64 0, .int .i64 0, .int .i64 0, .int .i64 0, .int .i64 0, .int .i64 0, .int .i64 0, .int .i64 0, .int .i64 0, .int .i64 0, .int .i64 0]) ?_ 0 _ rfl; (with_reducible repeat (first | refine blk_drewN ?_ _ | refine blk_drew ?_ | refine blk_alloc ?_ _)); exact BK114.out) Tryd.underlying31 rfl (by kernel_rfl)) rfl ?_
  exact ⟨by first | rfl | (simp [errW_none, errW_some] <;> rfl) | (simp [*, errW_none, errW_some] <;> rfl), by repeat (first | (with_reducible first | exact HI0.out | apply IsS80.alloc | apply IsS80.drewN | apply IsS80.drew | apply IsS80.set_0 | (focus (refine IsS80.far ?_ ?_ _; rotate_left; (focus ((repeat (first | (with_reducible exact Nsty.of BK114.out rfl) | apply Nsty.set | apply Nsty.drewN | apply Nsty.drew | apply Nsty.alloc)); done))))) | exact HI0.out), by repeat (first | (with_reducible first | exact HB.out | apply below_alloc | apply pw_below_drewN | apply below_drew1 | refine below_set ?_ (IsS80.ge HI0.out) | refine below_set ?_ GE114.out) | exact HB.out), by repeat (first | (with_reducible first | exact HK.out | apply KeepSt.drewN | apply KeepSt.drew | apply KeepSt.alloc | refine KeepSt.far ?_ GW114.out _) | exact HK.out)⟩
def schedule_Shared.l0 : Nat → Int → List Int → Int → Int → TS → Option (Int × TS)
  | 0, _, _, _, _, _ => none
  | k + 1, x5, x10, x11, x12, x1000 => if x12 < x11 then (if 0 ≤ x12 then (if x12 < (x10.length : Int) then ((term_Store_Kdf.f x1000 (⟨#[112, 115, 107]⟩ : ByteArray) x5 (rd x10 x12)).bind fun bt134 => (schedule_Shared.l0 k bt134.1 x10 x11 (wrap64 (x12 + 1)) bt134.2)) else (none)) else (none)) else (some (x5, x1000))
def schedule_Shared.f (k : Nat) (s0_0 : TS) (l1 : List Int) : Option (Int × TS) := (term_Store_Text.f s0_0 (⟨#[]⟩ : ByteArray)).bind fun bt131 => (schedule_Shared.l0 k bt131.1 l1 (l1.length : Int) 0 bt131.2)
theorem schedule_Shared.mono_l : ∀ k, (∀ y0 y1 y2 y3 y4, LeO (schedule_Shared.l0 k y0 y1 y2 y3 y4) (schedule_Shared.l0 (k + 1) y0 y1 y2 y3 y4))
  | 0 => fun _ _ _ _ _ r h => by simp [schedule_Shared.l0] at h
  | k + 1 => by
    have ih0 := schedule_Shared.mono_l k
    · intro y0 y1 y2 y3 y4
      unfold schedule_Shared.l0
      repeat' first
      | (with_reducible exact ih0 _ _ _ _ _)
      | (with_reducible exact LeO.refl _)
      | (with_reducible exact LeO.none _)
      | (with_reducible refine LeO.ite ?_ ?_)
      | (with_reducible refine LeO.bind ?_ (fun _ => ?_))
      | exact ih0 _ _ _ _ _
      | exact LeO.none _
      | refine LeO.ite ?_ ?_
      | refine LeO.bind ?_ (fun _ => ?_)
theorem schedule_Shared.mono : ∀ a0 a1 k, LeO (schedule_Shared.f k a0 a1) (schedule_Shared.f (k + 1) a0 a1) := by
  intro a0 a1 k
  have ih0 := schedule_Shared.mono_l k
  unfold schedule_Shared.f
  repeat' first
      | (with_reducible exact ih0 _ _ _ _ _)
      | (with_reducible exact LeO.refl _)
      | (with_reducible exact LeO.none _)
      | (with_reducible refine LeO.ite ?_ ?_)
      | (with_reducible refine LeO.bind ?_ (fun _ => ?_))
      | exact ih0 _ _ _ _ _
      | exact LeO.none _
      | refine LeO.ite ?_ ?_
      | refine LeO.bind ?_ (fun _ => ?_)
set_option maxHeartbeats 8000000 in
set_option maxRecDepth 100000 in
theorem schedule_Shared.calls (k : Nat) (g : Nat) (s0_0 : TS) (A1 : Option Addr) (c1 : Nat) (l1 : List Int) (r1 : Int) (r2 : TS) (w0 w : World) (hI : IsS80 w0 w g s0_0) (hB : Below w0.heap.size w0 w) (hr1 : Kd.C (Kd.int .i64) w A1 l1.length l1) (hc1 : l1.length ≤ c1) (hf1 : ∀ ad, A1 = some ad → 0 < l1.length → SepB w0 w ad.block) (h : schedule_Shared.f k s0_0 l1 = some (r1, r2)) :
    Calls Tryd.prog 18 #[.pointer (some ⟨g, 0, none⟩), .slice A1 l1.length c1] w fun e w' => e = .returned (.int .i64 r1) ∧ IsS80 w0 w' g r2 ∧ Below w0.heap.size w0 w' ∧ KeepSt w w' w0 := by
  have HR1 := Aside0.mk hr1
  have HC1 := Aside0.mk hc1
  clear hr1 hc1
  have HI0 := Aside0.mk hI
  have HK := Aside0.mk (KeepSt.refl w w0)
  have HL := Aside0.mk hB.size
  clear hI
  have HW0 := Aside0.mk hB.size
  have HB := Aside0.mk hB
  clear hB
  have H : ((term_Store_Text.f s0_0 (⟨#[]⟩ : ByteArray)).bind fun bt131 => (schedule_Shared.l0 k bt131.1 l1 (l1.length : Int) 0 bt131.2)) = some (r1, r2) := h
  clear h
  replace H := Option.bind_eq_some_iff.mp H
  obtain ⟨⟨t131, t132⟩, A30, H⟩ := H
  replace H : (schedule_Shared.l0 k t131 l1 (l1.length : Int) 0 t132) = some (r1, r2) := H
  have A3 := Aside0.mk A30
  clear A30
  have H' := Aside0.mk H
  clear H
  go_enter Tryd.func18, Tryd.ntmps18
  go_wp2_with (first | ((with_reducible refine gate_callee (f := 11) rfl ?_); refine goesL_ (some 9) rfl rfl Tryd.func11 (by kernel_rfl) rfl #[.pointer (some ⟨g, 0, none⟩), .string (⟨#[]⟩ : ByteArray)] rfl (by (try simp only [List.map_toArray, List.map_cons, List.map_nil]); first | done | rfl | (simp only [List.length_drop, List.length_take]; rfl)) ?_; (with_reducible refine (term_Store_Text.calls g s0_0 (⟨#[]⟩ : ByteArray) t131 t132 w0 _ ?side1 ?side2 A3.out).mono ?_); (case side1 => repeat (first | (with_reducible first | exact HI0.out | apply IsS80.alloc | apply IsS80.drewN | apply IsS80.drew | apply IsS80.set_0) | exact HI0.out)); (case side2 => repeat (first | (with_reducible first | exact HB.out | apply below_alloc | apply pw_below_drewN | apply below_drew1 | refine below_set ?_ (IsS80.ge HI0.out)) | exact HB.out)); rintro e w4 ⟨rfl, hi, hb, hk⟩; refine ⟨_, rfl, ?_⟩; have n0_ := Aside0.mk (KeepSt.trans (by repeat (first | (with_reducible first | exact HK.out | apply KeepSt.drewN | apply KeepSt.drew | apply KeepSt.alloc) | exact HK.out)) hk); have n1_ := Aside0.mk (hb); have n2_ := Aside0.mk (hi); clear HK; clear HB; clear HI0; have HK := n0_; have HB := n1_; have HI0 := n2_; clear n0_ n1_ n2_; (try clear hb); (try clear hb2); (try clear hk); (try clear hi)))
  go_loopg [5, 12] k (fun kq v5 v12 w' => ∃ (x5_1 : Int) (x12_1 : Int) (x1000_1 : TS), v5 = .int .i64 x5_1 ∧ v12 = .int .i64 x12_1 ∧ Aside0 (schedule_Shared.l0 kq x5_1 l1 (l1.length : Int) x12_1 x1000_1 = some (r1, r2)) ∧ Aside0 (kq ≤ k) ∧ Aside0 (IsS80 w0 w' g x1000_1) ∧ Aside0 (KeepSt w w' w0) ∧ Aside0 (Below w0.heap.size w0 w'))
  case atStart => exact ⟨(t131), (0), (t132), (by first | rfl | (simp; done) | (simp [*]; done)), (by first | rfl | (simp; done) | (simp [*]; done)), H', ⟨Nat.le_refl _⟩, ⟨by repeat (first | (with_reducible first | exact HI0.out | apply IsS80.alloc | apply IsS80.drewN | apply IsS80.drew | apply IsS80.set_0) | exact HI0.out)⟩, ⟨by repeat (first | (with_reducible first | exact HK.out | apply KeepSt.drewN | apply KeepSt.drew | apply KeepSt.alloc) | exact HK.out)⟩, ⟨by repeat (first | (with_reducible first | exact HB.out | apply below_alloc | apply pw_below_drewN | apply below_drew1 | refine below_set ?_ (IsS80.ge HI0.out)) | exact HB.out)⟩⟩
  case round =>
    clear H'
    try clear c1
    try clear p2
    obtain ⟨x5_1, x12_1, x1000_1, rfl, rfl, HA, HK1, HI0, HK, HB⟩ := hrel
    cases gk with
    | zero => exact absurd HA.out (by simp [schedule_Shared.l0])
    | succ k1 =>
      have H := HA.out
      clear HA
      simp only [schedule_Shared.l0] at H
      by_cases c5 : x12_1 < (l1.length : Int)
      · rw [if_pos c5] at H
        have c5b0 : decide (x12_1 < (l1.length : Int)) = true := decide_eq_true c5
        clear c5
        by_cases c6 : 0 ≤ x12_1
        · rw [if_pos c6] at H
          have c6b0 : decide (0 ≤ x12_1) = true := decide_eq_true c6
          clear c6
          by_cases c7 : x12_1 < (l1.length : Int)
          · rw [if_pos c7] at H
            have c7b0 : decide (x12_1 < (l1.length : Int)) = true := decide_eq_true c7
            clear c7
            replace H := Option.bind_eq_some_iff.mp H
            obtain ⟨⟨t134, t135⟩, A80, H⟩ := H
            replace H : (schedule_Shared.l0 k1 t134 l1 (l1.length : Int) (wrap64 (x12_1 + 1)) t135) = some (r1, r2) := H
            have A8 := Aside0.mk A80
            clear A80
            have H' := Aside0.mk H
            clear H
            have p133 : 0 ≤ (x12_1 : Int) := of_decide_eq_true (by first | (with_reducible assumption) | assumption)
            have q133 : x12_1 < (l1.length : Int) := of_decide_eq_true (by first | (with_reducible assumption) | assumption)
            obtain ⟨ad133, e133, hx133_0⟩ := Kd.at_int HR1.out x12_1 p133 q133
            cases e133
            replace hx133_0 := KeepSt.cell HK.out hx133_0 (by first | (rw [add_block]; exact hf1 _ rfl (by omega)) | exact hf1 _ rfl (by omega) | exact hf1 ad133 rfl (by omega))
            replace p133 := eq_true p133
            replace q133 := eq_true q133
            go_wp2_with (first | ((with_reducible refine gate_callee (f := 13) rfl ?_); refine goesL_ (some 19) rfl rfl Tryd.func13 (by kernel_rfl) rfl #[.pointer (some ⟨g, 0, none⟩), .string (⟨#[112, 115, 107]⟩ : ByteArray), .int .i64 x5_1, .int .i64 (rd l1 x12_1)] rfl (by (try simp only [List.map_toArray, List.map_cons, List.map_nil]); first | done | rfl | (simp only [List.length_drop, List.length_take]; rfl)) ?_; (with_reducible refine (term_Store_Kdf.calls g x1000_1 (⟨#[112, 115, 107]⟩ : ByteArray) x5_1 (rd l1 x12_1) t134 t135 w0 _ ?side1 ?side2 A8.out).mono ?_); (case side1 => repeat (first | (with_reducible first | exact HI0.out | apply IsS80.alloc | apply IsS80.drewN | apply IsS80.drew | apply IsS80.set_0) | exact HI0.out)); (case side2 => repeat (first | (with_reducible first | exact HB.out | apply below_alloc | apply pw_below_drewN | apply below_drew1 | refine below_set ?_ (IsS80.ge HI0.out)) | exact HB.out)); rintro e w9 ⟨rfl, hi, hb, hk⟩; refine ⟨_, rfl, ?_⟩; have n0_ := Aside0.mk (KeepSt.trans (by repeat (first | (with_reducible first | exact HK.out | apply KeepSt.drewN | apply KeepSt.drew | apply KeepSt.alloc) | exact HK.out)) hk); have n1_ := Aside0.mk (hb); have n2_ := Aside0.mk (hi); clear HK; clear HB; clear HI0; have HK := n0_; have HB := n1_; have HI0 := n2_; clear n0_ n1_ n2_; (try clear hb); (try clear hb2); (try clear hk); (try clear hi)))
            go_roundg k1
            case measure => have := HK1.out; omega
            case rel => exact ⟨(t134), (wrap64 (x12_1 + 1)), (t135), (by first | rfl | (simp; done) | (simp [*]; done)), (by first | rfl | (simp; done) | (simp [*]; done)), H', ⟨by have := HK1.out; omega⟩, ⟨by repeat (first | (with_reducible first | exact HI0.out | apply IsS80.alloc | apply IsS80.drewN | apply IsS80.drew | apply IsS80.set_0) | exact HI0.out)⟩, ⟨by repeat (first | (with_reducible first | exact HK.out | apply KeepSt.drewN | apply KeepSt.drew | apply KeepSt.alloc) | exact HK.out)⟩, ⟨by repeat (first | (with_reducible first | exact HB.out | apply below_alloc | apply pw_below_drewN | apply below_drew1 | refine below_set ?_ (IsS80.ge HI0.out)) | exact HB.out)⟩⟩
          · rw [if_neg c7] at H
            exact absurd H (by simp)
        · rw [if_neg c6] at H
          exact absurd H (by simp)
      · rw [if_neg c5] at H
        have c5b0 : decide (x12_1 < (l1.length : Int)) = false := decide_eq_false c5
        clear c5
        simp only [Option.some.injEq, Prod.mk.injEq] at H
        obtain ⟨rfl, rfl⟩ := H
        go_wp2
        go_ret
        exact ⟨by first | rfl | (simp [errW_none, errW_some] <;> rfl) | (simp [*, errW_none, errW_some] <;> rfl), by repeat (first | (with_reducible first | exact HI0.out | apply IsS80.alloc | apply IsS80.drewN | apply IsS80.drew | apply IsS80.set_0) | exact HI0.out), by repeat (first | (with_reducible first | exact HB.out | apply below_alloc | apply pw_below_drewN | apply below_drew1 | refine below_set ?_ (IsS80.ge HI0.out)) | exact HB.out), by repeat (first | (with_reducible first | exact HK.out | apply KeepSt.drewN | apply KeepSt.drew | apply KeepSt.alloc) | exact HK.out)⟩
end Go.Proofs.YteoamlnnaabomaaDoor.PSb
