/- The document's example begins: the anchor of the statements on terms. -/
import Derived.Test.YtlppagjnnlmnmaaTermE
set_option linter.unusedVariables false
set_option linter.unusedSimpArgs false
namespace Go.Proofs.Ytlppagjnnlmnmaa
open Go.RowKit

def ta : ByteArray := ⟨#[97]⟩
def A1 : List Nd := [⟨1, ByteArray.empty, 1, 0⟩]
def A2 : List Nd := A1 ++ [⟨2, ta, 0, 0⟩]
def A3 : List Nd := A2 ++ [⟨6, ByteArray.empty, 1, 0⟩]
def A4 : List Nd := A3 ++ [⟨8, ByteArray.empty, 3, 2⟩]
def A5 : List Nd := A4 ++ [⟨3, ByteArray.empty, 1, 2⟩]

theorem anc1 : mkT [] (freshN 0) = 1 ∧ mkL [] (freshN 0) = A1 ∧ freshD [] 0 = 1 := by decide +kernel
theorem anc2 : mkT A1 ⟨2, ta, 0, 0⟩ = 2 ∧ mkL A1 ⟨2, ta, 0, 0⟩ = A2 := by decide +kernel
theorem anc3 : mkT A2 ⟨6, ByteArray.empty, 1, 0⟩ = 3 ∧ mkL A2 ⟨6, ByteArray.empty, 1, 0⟩ = A3 := by decide +kernel
theorem anc4 : mkT A3 ⟨8, ByteArray.empty, 3, 2⟩ = 4 ∧ mkL A3 ⟨8, ByteArray.empty, 3, 2⟩ = A4 := by decide +kernel
theorem anc5 : mkT A4 ⟨3, ByteArray.empty, 1, 2⟩ = 5 ∧ mkL A4 ⟨3, ByteArray.empty, 1, 2⟩ = A5 := by decide +kernel
theorem anc6 : mkT A5 ⟨3, ByteArray.empty, 1, 2⟩ = 5 ∧ mkL A5 ⟨3, ByteArray.empty, 1, 2⟩ = A5 := by decide +kernel
theorem anc7 : mkT A5 ⟨8, ByteArray.empty, 2, 2⟩ = 0 ∧ mkL A5 ⟨8, ByteArray.empty, 2, 2⟩ = A5 := by decide +kernel
theorem anc8 : unboxOf (knownB A4.length 4) (getN A4 4) (getN A4 (getN A4 4).a) 1 = (2, true) := by decide +kernel

/-- The blocks of X are as they were; besides there may be new ones and others. -/
structure Kept (X : Nat → Prop) (w w' : World) : Prop where
  os : w'.os = w.os
  tape : w'.tape = w.tape
  output : w'.output = w.output
  size : w.heap.size ≤ w'.heap.size
  block : ∀ k, X k → w'.heap[k]? = w.heap[k]?

theorem Kept.refl (X : Nat → Prop) (w : World) : Kept X w w := ⟨rfl, rfl, rfl, Nat.le_refl _, fun _ _ => rfl⟩
theorem Kept.trans {X Y : Nat → Prop} {a b c : World} (h : Kept X a b) (k : Kept Y b c) (hX : ∀ i, X i → Y i) : Kept X a c :=
  ⟨k.os.trans h.os, k.tape.trans h.tape, k.output.trans h.output, Nat.le_trans h.size k.size, fun i hi => (k.block i (hX i hi)).trans (h.block i hi)⟩
theorem Kept.mono {X Y : Nat → Prop} {a b : World} (h : Kept Y a b) (hX : ∀ i, X i → Y i) : Kept X a b := ⟨h.os, h.tape, h.output, h.size, fun i hi => h.block i (hX i hi)⟩
theorem Chg.kept {a b : World} (h : Chg none_ a b) {X : Nat → Prop} (hX : ∀ i, X i → i < a.heap.size) : Kept X a b := ⟨h.os, h.tape, h.output, h.size, fun i hi => h.block i (hX i hi) (fun h => h)⟩
theorem Kept.drew {X : Nat → Prop} {a b : World} (h : Kept X a b) : Kept X a b.drew := ⟨h.os, h.tape, h.output, h.size, h.block⟩
theorem Kept.alloc {X : Nat → Prop} {a b : World} (h : Kept X a b) (hX : ∀ i, X i → i < b.heap.size) (o : Obj) : Kept X a (b.alloc o) :=
  ⟨h.os, h.tape, h.output, by simp; have := h.size; omega, fun i hi => (heap_alloc_lt (hX i hi)).trans (h.block i hi)⟩
theorem Kept.cells {X : Nat → Prop} {a b : World} (h : Kept X a b) : (∀ k o, X k → b.cell? ⟨k, o, none⟩ = a.cell? ⟨k, o, none⟩) ∧ (∀ k o, X k → b.frozen? ⟨k, o, none⟩ = a.frozen? ⟨k, o, none⟩) :=
  ⟨fun k o hk => cell_eq (h.block k hk), fun k o hk => frozen_eq (h.block k hk)⟩
theorem Kept.below {X : Nat → Prop} {a b : World} (h : Kept X a b) {B : Nat} (hX : ∀ k, k < B → X k) : Below B a b := ⟨h.os, h.tape, h.output, h.size, fun k hk => h.block k (hX k hk)⟩
theorem Kept.row {X : Nat → Prop} {a b : World} (h : Kept X a b) {base : Nat} {e : TypeId} {size n : Nat} {v : Value} {xs : List Value} (hr : a.ownsRow base e size v n xs) (hX : ∀ k, v.ownBlock = some k → X k) : b.ownsRow base e size v n xs :=
  row_keep hr fun k hk => h.block k (hX k hk)

/-- The store at p, with these nodes; none of its blocks is one of X. -/
structure Own (X : Nat → Prop) (w : World) (p : Nat) (l : List Nd) (d : Int) : Prop where
  out : ∃ m sl, StoreAt w ⟨p, m, sl, l, d⟩ ∧ ∀ k, St.own ⟨p, m, sl, l, d⟩ k → ¬ X k
  lt : ∀ k, X k → k < w.heap.size

theorem Own.nodup {X w p l d} (h : Own X w p l d) : l.Nodup := by obtain ⟨⟨m, sl, h1, _⟩, _⟩ := h; exact h1.nodup
theorem Own.len_le {X w p l d} (h : Own X w p l d) : l.length ≤ 262144 := by obtain ⟨⟨m, sl, h1, _⟩, _⟩ := h; exact h1.len
theorem Own.wf {X w p l d} (h : Own X w p l d) : WF l := by obtain ⟨⟨m, sl, h1, _⟩, _⟩ := h; exact h1.wf
theorem Own.drawn {X w p l d} (h : Own X w p l d) : 0 ≤ d ∧ d ≤ 1099511627776 := by obtain ⟨⟨m, sl, h1, _⟩, _⟩ := h; exact ⟨h1.drawn0, h1.drawn1⟩

theorem Own.mono {X Y : Nat → Prop} {w p l d} (h : Own Y w p l d) (hX : ∀ k, X k → Y k) : Own X w p l d := by
  obtain ⟨⟨m, sl, h1, h2⟩, h3⟩ := h
  exact ⟨⟨m, sl, h1, fun k hk hx => h2 k hk (hX k hx)⟩, fun k hk => h3 k (hX k hk)⟩
theorem Own.drew {X w p l d} (h : Own X w p l d) : Own X w.drew p l d := by
  obtain ⟨⟨m, sl, h1, h2⟩, h3⟩ := h; exact ⟨⟨m, sl, h1.drew, h2⟩, h3⟩
/-- A new block is none of the store's. -/
theorem Own.alloc {X w p l d} (h : Own X w p l d) (o : Obj) : Own (fun k => X k ∨ k = w.heap.size) (w.alloc o) p l d := by
  obtain ⟨⟨m, sl, h1, h2⟩, h3⟩ := h
  refine ⟨⟨m, sl, h1.alloc o, fun k hk hx => ?_⟩, fun k hk => ?_⟩
  · rcases hx with hx | rfl
    · exact h2 k hk hx
    · exact absurd (h1.own_lt hk) (by simp)
  · rcases hk with hk | rfl
    · have := h3 k hk; simp; omega
    · simp
/-- What comes while the store's own blocks stay as they are. -/
theorem Own.chg {X w w' p l d} {M : Nat → Prop} (h : Own X w p l d) (hc : Chg M w w') (hM : ∀ k, M k → X k) : Own (fun k => X k ∨ (w.heap.size ≤ k ∧ k < w'.heap.size)) w' p l d := by
  obtain ⟨⟨m, sl, h1, h2⟩, h3⟩ := h
  refine ⟨⟨m, sl, h1.chg hc (fun k hk hm => h2 k hk (hM k hm)), fun k hk hx => ?_⟩, fun k hk => ?_⟩
  · rcases hx with hx | hx
    · exact h2 k hk hx
    · have := h1.own_lt hk; omega
  · rcases hk with hk | hk
    · have := h3 k hk; have := hc.size; omega
    · exact hk.2

theorem Own.next {X : Nat → Prop} {w w' : World} {s : St} {l : List Nd} {d : Int} (hs : ∀ k, s.own k → ¬ X k) (hx : ∀ k, X k → k < w.heap.size) (h : Next s w l d w') : Own X w' s.p l d ∧ Kept X w w' := by
  obtain ⟨m', sl', h1, h2, h3⟩ := h.get
  refine ⟨⟨⟨m', sl', h1, fun k hk hX => ?_⟩, fun k hk => Nat.lt_of_lt_of_le (hx k hk) h3.size⟩, ⟨h3.os, h3.tape, h3.output, h3.size, fun k hk => h3.block k (hx k hk) (fun ho => hs k ho hk)⟩⟩
  rcases h2 k hk with h | h
  · exact hs k h hX
  · have := hx k hX; omega

theorem own_new {w w' : World} {s : St} (h1 : StoreAt w' s) (h2 : s.nodes = []) (h3 : s.drawn = 0) (h4 : ∀ k, s.own k → w.heap.size ≤ k) (h5 : Chg none_ w w') : Own (fun k => k < w.heap.size) w' s.p [] 0 := by
  obtain ⟨p, m, sl, l, d⟩ := s
  dsimp only at h2 h3
  subst h2 h3
  exact ⟨⟨m, sl, h1, fun k hk hx => by have := h4 k hk; omega⟩, fun k hk => Nat.lt_of_lt_of_le hk h5.size⟩

/-- A contract of a call that makes, over 'Own'. -/
theorem Own.makes {X : Nat → Prop} {w : World} {p : Nat} {l l' : List Nd} {d d' : Int} (h : Own X w p l d) {f : FuncId} {args : Array Value} {e0 : Ending}
    (hc : ∀ s : St, s.p = p → s.nodes = l → s.drawn = d → StoreAt w s → Calls Try.prog f args w fun e w' => e = e0 ∧ Next s w l' d' w') : Calls Try.prog f args w fun e w' => e = e0 ∧ Own X w' p l' d' ∧ Kept X w w' := by
  obtain ⟨⟨m, sl, h1, h2⟩, h3⟩ := h
  exact (hc _ rfl rfl rfl h1).mono fun e w' ⟨he, hn⟩ => ⟨he, Own.next h2 h3 hn⟩

theorem Own.looks {X : Nat → Prop} {w : World} {p : Nat} {l : List Nd} {d : Int} (h : Own X w p l d) {f : FuncId} {args : Array Value} {e0 : Ending}
    (hc : ∀ s : St, s.p = p → s.nodes = l → s.drawn = d → StoreAt w s → Calls Try.prog f args w fun e w' => e = e0 ∧ Chg none_ w w') : Calls Try.prog f args w fun e w' => e = e0 ∧ Own X w' p l d ∧ Kept X w w' := by
  have h0 := h
  obtain ⟨⟨m, sl, h1, h2⟩, h3⟩ := h
  exact (hc _ rfl rfl rfl h1).mono fun e w' ⟨he, hn⟩ => ⟨he, (h0.chg hn (fun _ h => h.elim)).mono (fun k hk => .inl hk), hn.kept h3⟩

theorem Own.len {X : Nat → Prop} {w : World} {p : Nat} {l : List Nd} {d : Int} (h : Own X w p l d) : Calls Try.prog 12 #[.pointer (some ⟨p, 0, none⟩)] w fun e w' => e = .returned (.int .i64 l.length) ∧ w' = w := by
  obtain ⟨⟨m, sl, h1, h2⟩, h3⟩ := h
  exact len_calls h1

theorem Own.fresh {X : Nat → Prop} {w : World} {p : Nat} {l : List Nd} {d : Int} (h : Own X w p l d) : Calls Try.prog 15 #[.pointer (some ⟨p, 0, none⟩)] w fun e w' => e = .returned (.int .i64 (mkT l (freshN d))) ∧ Own X w' p (mkL l (freshN d)) (freshD l d) ∧ Kept X w w' :=
  h.makes fun s hp hl hd hs => by subst hp hl hd; exact fresh_calls hs
theorem Own.text {X : Nat → Prop} {w : World} {p : Nat} {l : List Nd} {d : Int} (h : Own X w p l d) (lab : ByteArray) : Calls Try.prog 16 #[.pointer (some ⟨p, 0, none⟩), .string lab] w fun e w' => e = .returned (.int .i64 (mkT l ⟨2, lab, 0, 0⟩)) ∧ Own X w' p (mkL l ⟨2, lab, 0, 0⟩) d ∧ Kept X w w' :=
  h.makes fun s hp hl hd hs => by subst hp hl hd; exact text_calls hs lab
theorem Own.pair {X : Nat → Prop} {w : World} {p : Nat} {l : List Nd} {d : Int} (h : Own X w p l d) (a b : Int) : Calls Try.prog 27 #[.pointer (some ⟨p, 0, none⟩), .int .i64 a, .int .i64 b] w fun e w' => e = .returned (.int .i64 (mkT l ⟨3, ByteArray.empty, a, b⟩)) ∧ Own X w' p (mkL l ⟨3, ByteArray.empty, a, b⟩) d ∧ Kept X w w' :=
  h.makes fun s hp hl hd hs => by subst hp hl hd; exact pair_calls hs a b
theorem Own.pub {X : Nat → Prop} {w : World} {p : Nat} {l : List Nd} {d : Int} (h : Own X w p l d) (a : Int) : Calls Try.prog 17 #[.pointer (some ⟨p, 0, none⟩), .int .i64 a] w fun e w' => e = .returned (.int .i64 (mkT l ⟨6, ByteArray.empty, a, 0⟩)) ∧ Own X w' p (mkL l ⟨6, ByteArray.empty, a, 0⟩) d ∧ Kept X w w' :=
  h.makes fun s hp hl hd hs => by subst hp hl hd; exact pub_calls hs a
theorem Own.seal_ {X : Nat → Prop} {w : World} {p : Nat} {l : List Nd} {d : Int} (h : Own X w p l d) (a b : Int) : Calls Try.prog 18 #[.pointer (some ⟨p, 0, none⟩), .int .i64 a, .int .i64 b] w fun e w' => e = .returned (.int .i64 (mkT l ⟨7, ByteArray.empty, a, b⟩)) ∧ Own X w' p (mkL l ⟨7, ByteArray.empty, a, b⟩) d ∧ Kept X w w' :=
  h.makes fun s hp hl hd hs => by subst hp hl hd; exact seal_calls hs a b
theorem Own.box {X : Nat → Prop} {w : World} {p : Nat} {l : List Nd} {d : Int} (h : Own X w p l d) (a b : Int) : Calls Try.prog 19 #[.pointer (some ⟨p, 0, none⟩), .int .i64 a, .int .i64 b] w fun e w' => e = .returned (.int .i64 (mkT l ⟨8, ByteArray.empty, a, b⟩)) ∧ Own X w' p (mkL l ⟨8, ByteArray.empty, a, b⟩) d ∧ Kept X w w' :=
  h.makes fun s hp hl hd hs => by subst hp hl hd; exact box_calls hs a b
theorem Own.sign {X : Nat → Prop} {w : World} {p : Nat} {l : List Nd} {d : Int} (h : Own X w p l d) (a b : Int) : Calls Try.prog 20 #[.pointer (some ⟨p, 0, none⟩), .int .i64 a, .int .i64 b] w fun e w' => e = .returned (.int .i64 (mkT l ⟨9, ByteArray.empty, a, b⟩)) ∧ Own X w' p (mkL l ⟨9, ByteArray.empty, a, b⟩) d ∧ Kept X w w' :=
  h.makes fun s hp hl hd hs => by subst hp hl hd; exact sign_calls hs a b
theorem Own.make {X : Nat → Prop} {w : World} {p : Nat} {l : List Nd} {d : Int} (h : Own X w p l d) (n : Nd) : Calls Try.prog 13 #[.pointer (some ⟨p, 0, none⟩), .agg #[.int .i64 n.kind, .string n.label, .int .i64 n.a, .int .i64 n.b]] w fun e w' => e = .returned (.tuple #[.int .i64 (mkT l n), .int .i64 (mkE l n)]) ∧ Own X w' p (mkL l n) d ∧ Kept X w w' :=
  h.makes fun s hp hl hd hs => by subst hp hl hd; exact make_calls hs n
theorem Own.get {X : Nat → Prop} {w : World} {p : Nat} {l : List Nd} {d : Int} (h : Own X w p l d) (t : Int) : Calls Try.prog 14 #[.pointer (some ⟨p, 0, none⟩), .int .i64 t] w fun e w' => e = .returned (.tuple #[.agg #[.int .i64 (getN l t).kind, .string (getN l t).label, .int .i64 (getN l t).a, .int .i64 (getN l t).b], .bool (knownB l.length t)]) ∧ Own X w' p l d ∧ Kept X w w' :=
  h.looks fun s hp hl hd hs => by subst hp hl hd; exact get_calls hs t
theorem Own.open_ {X : Nat → Prop} {w : World} {p : Nat} {l : List Nd} {d : Int} (h : Own X w p l d) (key t : Int) : Calls Try.prog 21 #[.pointer (some ⟨p, 0, none⟩), .int .i64 key, .int .i64 t] w fun e w' => e = .returned (.tuple #[.int .i64 (openOf (knownB l.length t) (getN l t) key).1, .bool (openOf (knownB l.length t) (getN l t) key).2]) ∧ Own X w' p l d ∧ Kept X w w' :=
  h.looks fun s hp hl hd hs => by subst hp hl hd; exact open_calls hs key t
theorem Own.unbox {X : Nat → Prop} {w : World} {p : Nat} {l : List Nd} {d : Int} (h : Own X w p l d) (key t : Int) : Calls Try.prog 22 #[.pointer (some ⟨p, 0, none⟩), .int .i64 key, .int .i64 t] w fun e w' => e = .returned (.tuple #[.int .i64 (unboxOf (knownB l.length t) (getN l t) (getN l (getN l t).a) key).1, .bool (unboxOf (knownB l.length t) (getN l t) (getN l (getN l t).a) key).2]) ∧ Own X w' p l d ∧ Kept X w w' :=
  h.looks fun s hp hl hd hs => by subst hp hl hd; exact unbox_calls hs key t
theorem Own.verify {X : Nat → Prop} {w : World} {p : Nat} {l : List Nd} {d : Int} (h : Own X w p l d) (pub text sig : Int) : Calls Try.prog 23 #[.pointer (some ⟨p, 0, none⟩), .int .i64 pub, .int .i64 text, .int .i64 sig] w fun e w' => e = .returned (.bool (verifyOf (knownB l.length sig) (knownB l.length pub) (getN l sig) (getN l pub) text)) ∧ Own X w' p l d ∧ Kept X w w' :=
  h.looks fun s hp hl hd hs => by subst hp hl hd; exact verify_calls hs pub text sig

theorem new_own (w : World) : Calls Try.prog 11 #[] w fun e w' => ∃ p, e = .returned (.pointer (some ⟨p, 0, none⟩)) ∧ Own (fun k => k < w.heap.size) w' p [] 0 ∧ Chg none_ w w' :=
  (new_calls w).mono fun e w' ⟨s, he, h1, h2, h3, h4, h5⟩ => ⟨s.p, he, own_new h1 h2 h3 h4 h5, h5⟩

set_option maxHeartbeats 4000000 in
theorem anchor_calls (w : World) : Calls Try.prog 10 #[] w fun e w' => e = .returned (.bool true) ∧ Chg none_ w w' := by
  go_enter Try.func10, Try.ntmps10
  go_wp2_with (go_at_call 11; refine (new_own _).mono ?_; rintro e w1 ⟨p, rfl, O0, K0⟩)
  go_wp2_with (go_at_call 15; refine (O0.fresh).mono ?_; rintro e w2 ⟨rfl, O1, K1⟩; rw [anc1.2.1, anc1.2.2] at O1; simp only [anc1.1])
  go_wp2_with (go_at_call 16; refine (O1.text ta).mono ?_; rintro e w3 ⟨rfl, O2, K2⟩; rw [anc2.2] at O2; simp only [anc2.1])
  go_wp2_with (go_at_call 17; refine (O2.pub 1).mono ?_; rintro e w4 ⟨rfl, O3, K3⟩; rw [anc3.2] at O3; simp only [anc3.1])
  go_wp2_with (go_at_call 19; refine (O3.box 3 2).mono ?_; rintro e w5 ⟨rfl, O4, K4⟩; rw [anc4.2] at O4; simp only [anc4.1])
  go_wp2_with (go_at_call 22; refine (O4.unbox 1 4).mono ?_; rintro e w6 ⟨rfl, O5, K5⟩; simp only [anc8])
  go_wp2_with (go_at_call 27; refine (O5.pair 1 2).mono ?_; rintro e w7 ⟨rfl, O6, K6⟩; rw [anc5.2] at O6; simp only [anc5.1])
  go_wp2_with (go_at_call 27; refine (O6.pair 1 2).mono ?_; rintro e w8 ⟨rfl, O7, K7⟩; rw [anc6.2] at O7; simp only [anc6.1])
  go_wp2_with (go_at_call 19; refine (O7.box 2 2).mono ?_; rintro e w9 ⟨rfl, O8, K8⟩; rw [anc7.2] at O8; simp only [anc7.1])
  go_wp2_with (go_at_call 12; refine (O8.len).mono ?_; rintro e w10 ⟨rfl, rfl⟩)
  go_ret
  have i (k : Nat) (h : k < w.heap.size) := h
  have KK := ((((((((K0.kept (X := fun k => k < w.heap.size) (fun _ h => h)).trans K1 i).trans K2 i).trans K3 i).trans K4 i).trans K5 i).trans K6 i).trans K7 i).trans K8 i
  exact ⟨rfl, KK.os, KK.tape, KK.output, KK.size, fun k hk _ => KK.block k hk⟩

end Go.Proofs.Ytlppagjnnlmnmaa
