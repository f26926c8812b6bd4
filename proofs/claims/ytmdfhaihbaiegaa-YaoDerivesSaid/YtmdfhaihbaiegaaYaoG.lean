/- Minds: made, and taught, in the words of what can be derived. -/
import Derived.Test.YtmdfhaihbaiegaaYaoF
set_option linter.unusedVariables false
set_option linter.unusedSimpArgs false
namespace Go.Proofs.Ytmdfhaihbaiegaa
open Go.RowKit Go.MapKept

/-- The mind knows just what can be derived from S over the terms N. -/
structure Knows (N : List Nd) (S : Int → Prop) (q : Mind) : Prop where
  len : q.can.length = N.length + 1
  ks : ∀ t, t ∈ q.ks ↔ KnD N S t
  can : ∀ t, knownB N.length t = true → (cbI q.can t = true ↔ CanD N S t)
  none : q.can.getD 0 false = false

theorem Knows.canT {N : List Nd} {S : Int → Prop} {q : Mind} (h : Knows N S q) (hw : WF N) (t : Int) : canT q.can t = true ↔ CanD N S t := by
  unfold Go.Proofs.Ytmdfhaihbaiegaa.canT
  simp only [Bool.and_eq_true, decide_eq_true_eq]
  constructor
  · rintro ⟨⟨h1, h2⟩, h3⟩
    exact (h.can t (knownB_iff.2 ⟨h1, by have := h.len; omega⟩)).1 h3
  · intro hc
    have hk := hc.range hw
    have hk' := knownB_iff.1 hk
    exact ⟨⟨hk'.1, by have := h.len; omega⟩, (h.can t hk).2 hc⟩

theorem CanD.congr {N : List Nd} {S S' : Int → Prop} (h : ∀ x, knownB N.length x = true → (S x ↔ S' x)) (t : Int) : CanD N S t ↔ CanD N S' t :=
  ⟨fun hc => hc.sub fun x hx hk => (closedD N S').given x ((h x hk).1 hx) hk, fun hc => hc.sub fun x hx hk => (closedD N S).given x ((h x hk).2 hx) hk⟩
theorem KnD.congr {N : List Nd} {S S' : Int → Prop} (h : ∀ x, knownB N.length x = true → (S x ↔ S' x)) (t : Int) : KnD N S t ↔ KnD N S' t :=
  ⟨fun hc => hc.sub fun x hx hk => (closedD N S').given x ((h x hk).1 hx) hk, fun hc => hc.sub fun x hx hk => (closedD N S).given x ((h x hk).2 hx) hk⟩

theorem Knows.congr {N : List Nd} {S S' : Int → Prop} {q : Mind} (h : ∀ x, knownB N.length x = true → (S x ↔ S' x)) (k : Knows N S q) : Knows N S' q :=
  ⟨k.len, fun t => (k.ks t).trans (KnD.congr h t), fun t ht => (k.can t ht).trans (CanD.congr h t), k.none⟩

/-- What Learn did, in these words. -/
theorem Learnt.knows {W w' : World} {q0 : Mind} {s : St} {l : List Int} {N0 : List Nd} {S0 : Int → Prop} (h : Learnt W q0 s l w') (k : Knows N0 S0 q0) (hw : WF N0) (hp : N0 <+: s.nodes) (hS : ∀ t, S0 t → knownB N0.length t = true) :
    ∃ q, MindAt w' q ∧ q.p = q0.p ∧ q.sp = s.p ∧ (∀ b, q.own b → q0.own b ∨ W.heap.size ≤ b) ∧ Chg q0.own W w' ∧ Knows s.nodes (fun t => S0 t ∨ t ∈ l) q := by
  obtain ⟨q, hL, hl, h1, h2⟩ := h
  have hws := hL.st.wf
  have hup : ∀ x, KnD N0 S0 x → KnD s.nodes (fun t => S0 t ∨ t ∈ l) x := fun x hx => hx.grow hw hp fun y hy hk => (closedD _ _).given y (.inl hy) (by rw [knownB_iff] at *; have := hp.length_le; omega)
  have hC : ∀ t, CanD s.nodes (LS q0 l) t ↔ CanD s.nodes (fun t => S0 t ∨ t ∈ l) t := fun t => ⟨fun hc => hc.sub fun x hx hk => hx.elim (fun e => hup x ((k.ks x).1 e)) (fun e => (closedD _ _).given x (.inr e) hk),
    fun hc => hc.sub fun x hx hk => (closedD _ _).given x (hx.imp (fun e => (k.ks x).2 ((closedD _ _).given x e (hS x e))) id) hk⟩
  have hK : ∀ t, KnD s.nodes (LS q0 l) t ↔ KnD s.nodes (fun t => S0 t ∨ t ∈ l) t := fun t => ⟨fun hc => hc.sub fun x hx hk => hx.elim (fun e => hup x ((k.ks x).1 e)) (fun e => (closedD _ _).given x (.inr e) hk),
    fun hc => hc.sub fun x hx hk => (closedD _ _).given x (hx.imp (fun e => (k.ks x).2 ((closedD _ _).given x e (hS x e))) id) hk⟩
  refine ⟨q, hL.mind, hL.hp, hL.hsp, fun b hb => hL.own hb, hL.chg, hl, fun t => (h1 t).trans (hK t), fun t ht => (h2 t ht).trans (hC t), ?_⟩
  rw [← Bool.not_eq_true]
  intro e
  have := (hL.cc 0 e).range hws
  rw [knownB_iff] at this
  omega

theorem Knows.pay {N0 N : List Nd} {S0 : Int → Prop} {q0 : Mind} {l : List Int} (k : Knows N0 S0 q0) (hw : WF N0) (hp : N0 <+: N) (hS : ∀ t, S0 t → knownB N0.length t = true) :
    q0.can.length ≤ N.length + 1 ∧ (∀ i : Nat, q0.can.getD i false = true → CanD N (LS q0 l) i) ∧ ∀ t ∈ q0.ks, knownB N.length t = true := by
  have hle := hp.length_le
  have hk : ∀ t ∈ q0.ks, knownB N.length t = true := fun t ht => by
    have := ((k.ks t).1 ht).range hw
    rw [knownB_iff] at *
    omega
  refine ⟨by rw [k.len]; omega, fun i hi => ?_, hk⟩
  have hi0 : i ≠ 0 := by rintro rfl; rw [k.none] at hi; cases hi
  have hil : i < q0.can.length := by
    rcases Nat.lt_or_ge i q0.can.length with h | h
    · exact h
    · rw [List.getD_eq_getElem?_getD, List.getElem?_eq_none h] at hi; cases hi
  have hkn : knownB N0.length (i : Int) = true := by rw [knownB_iff]; have := k.len; omega
  have hc := (k.can i hkn).1 (by unfold cbI; simpa using hi)
  exact hc.grow hw hp fun x hx hk' => (closedD _ _).given x (.inl ((k.ks x).2 ((closedD _ _).given x hx hk'))) (by rw [knownB_iff] at *; omega)

/-- Learn. -/
theorem learn_knows {W : World} {q0 : Mind} {s : St} {a : Option Addr} {l : List Int} {cap : Nat} {N0 : List Nd} {S0 : Int → Prop} (hq : MindAt W q0) (hst : StoreAt W s) (hsp : q0.sp = s.p) (sep : Sep q0 s) (hin : InI W a l) (hne : l ≠ [] → ∀ b off, a = some ⟨b, off, none⟩ → ¬ q0.own b) (hll : l.length ≤ 1000000)
    (k : Knows N0 S0 q0) (hw : WF N0) (hp : N0 <+: s.nodes) (hS : ∀ t, S0 t → knownB N0.length t = true) :
    Calls Try.prog 12 #[q0.ptr, .slice a l.length cap] W fun e w' => e = .returned (.tuple #[]) ∧ ∃ q, MindAt w' q ∧ q.p = q0.p ∧ q.sp = s.p ∧ (∀ b, q.own b → q0.own b ∨ W.heap.size ≤ b) ∧ Chg q0.own W w' ∧ Knows s.nodes (fun t => S0 t ∨ t ∈ l) q := by
  obtain ⟨h1, h2, h3⟩ := k.pay (l := l) hw hp hS
  exact (learn_calls hq hst hsp sep hin hne hll h1 h2 h3).mono fun e w' ⟨he, hl⟩ => ⟨he, hl.knows k hw hp hS⟩

theorem mind_made (w : World) (sp : Nat) : MindAt ((w.alloc (.map #[] 0)).alloc (.cells #[.pointer (some ⟨sp, 0, none⟩), .map (some w.heap.size), .slice none 0 0] 55)) ⟨w.heap.size + 1, w.heap.size, .slice none 0 0, sp, [], [], #[], 0⟩ := by
  have e : (w.alloc (.map #[] 0)).heap.size = w.heap.size + 1 := by simp
  refine ⟨?_, ⟨?_, rfl, by simp, ?_⟩, World.ownsRow_nil _ _ _ _⟩
  · show _ = some _
    rw [← e]; exact heap_alloc_at
  · rw [heap_alloc_lt (by simp)]; exact heap_alloc_at
  · exact stamped_empty 0

set_option maxHeartbeats 2000000 in
/-- New. -/
theorem newmind_calls {W : World} {s : St} {a : Option Addr} {l : List Int} {cap : Nat} (hst : StoreAt W s) (hin : InI W a l) (hll : l.length ≤ 1000000) :
    Calls Try.prog 9 #[s.ptr, .slice a l.length cap] W fun e w' => ∃ q, e = .returned q.ptr ∧ MindAt w' q ∧ q.sp = s.p ∧ (∀ b, q.own b → W.heap.size ≤ b) ∧ Chg none_ W w' ∧ Knows s.nodes (fun t => t ∈ l ∧ knownB s.nodes.length t = true) q := by
  have hm := mind_made W s.p
  have hmm := @run_makeMap Try.prog
  have hc : Chg none_ W ((W.alloc (.map #[] 0)).alloc (.cells #[.pointer (some ⟨s.p, 0, none⟩), .map (some W.heap.size), .slice none 0 0] 55)) := ((Chg.refl _ _).alloc _).alloc _
  have hS2 := hst.chg hc (fun _ _ h => h)
  have hI2 : InI ((W.alloc (.map #[] 0)).alloc (.cells #[.pointer (some ⟨s.p, 0, none⟩), .map (some W.heap.size), .slice none 0 0] 55)) a l := by
    rcases hin with h | ⟨b, off, h1, h2, h3⟩
    · exact .inl h
    · exact .inr ⟨b, off, h1, Nat.lt_of_lt_of_le h2 hc.size, fun i hi => (cell_eq (hc.block b h2 (fun h => h))).trans (h3 i hi)⟩
  have sep : Sep ⟨W.heap.size + 1, W.heap.size, .slice none 0 0, s.p, [], [], #[], 0⟩ s := by
    rintro k (rfl | rfl | h) hk
    · have h1 : W.heap.size + 1 < W.heap.size := hst.own_lt hk
      omega
    · have h1 : W.heap.size < W.heap.size := hst.own_lt hk
      omega
    · simp [Value.ownBlock] at h
  have hne : l ≠ [] → ∀ b off, a = some ⟨b, off, none⟩ → ¬ Mind.own ⟨W.heap.size + 1, W.heap.size, .slice none 0 0, s.p, [], [], #[], 0⟩ b := by
    rintro hl b off rfl h
    rcases hin with h0 | ⟨b', off', h1, h2, _⟩
    · exact hl h0
    · injection h1 with h1
      injection h1 with h1
      subst h1
      rcases h with h | h | h
      · have h' : b = W.heap.size + 1 := h
        omega
      · have h' : b = W.heap.size := h
        omega
      · simp [Value.ownBlock] at h
  have hL := learn_calls (cap := cap) hm hS2 rfl sep hI2 hne hll (Nat.zero_le _) (fun i h => by simp at h) (fun t h => by simp at h)
  have hfin : ∀ w', Learnt ((W.alloc (.map #[] 0)).alloc (.cells #[.pointer (some ⟨s.p, 0, none⟩), .map (some W.heap.size), .slice none 0 0] 55)) ⟨W.heap.size + 1, W.heap.size, .slice none 0 0, s.p, [], [], #[], 0⟩ s l w' →
      ∃ q, q.p = W.heap.size + 1 ∧ MindAt w' q ∧ q.sp = s.p ∧ (∀ b, q.own b → W.heap.size ≤ b) ∧ Chg none_ W w' ∧ Knows s.nodes (fun t => t ∈ l ∧ knownB s.nodes.length t = true) q := by
    rintro w' ⟨q, h1, h2, h3, h4⟩
    have hown : ∀ b, Mind.own ⟨W.heap.size + 1, W.heap.size, .slice none 0 0, s.p, [], [], #[], 0⟩ b → W.heap.size ≤ b := by
      rintro b (rfl | rfl | h)
      · show W.heap.size ≤ W.heap.size + 1; omega
      · exact Nat.le_refl _
      · simp [Value.ownBlock] at h
    have k1 : Knows s.nodes (LS ⟨W.heap.size + 1, W.heap.size, .slice none 0 0, s.p, [], [], #[], 0⟩ l) q := ⟨h2, h3, h4, by
      rw [← Bool.not_eq_true]
      intro e
      have := (h1.cc 0 e).range h1.st.wf
      rw [knownB_iff] at this
      omega⟩
    refine ⟨q, h1.hp, h1.mind, h1.hsp, fun b hb => ?_, ?_, k1.congr fun x hk => ⟨fun h => ⟨h.resolve_left (by simp), hk⟩, fun h => .inr h.1⟩⟩
    · rcases h1.own hb with h | h
      · exact hown b h
      · simp at h; omega
    · refine ⟨h1.chg.os.trans hc.os, h1.chg.tape.trans hc.tape, h1.chg.output.trans hc.output, Nat.le_trans hc.size h1.chg.size, fun k hk hn => (h1.chg.block k (Nat.lt_of_lt_of_le hk hc.size) fun h => by have := hown k h; omega).trans (hc.block k hk hn)⟩
  have HL := Lib.hid hL
  have HF := Lib.hid hfin
  clear hL hfin hne sep hI2 hS2 hc hm hst hin
  go_enter Try.func9, Try.ntmps9
  go_wp2_with (go_at_call 12; refine HL.out.mono ?_; rintro e w1 ⟨rfl, hl⟩)
  obtain ⟨q, e1, h⟩ := HF.out _ hl
  have HE := Lib.hid (And.intro e1 h)
  clear e1 h hl HL HF
  go_ret
  exact ⟨q, by rw [Mind.ptr, HE.out.1]; rfl, HE.out.2⟩

end Go.Proofs.Ytmdfhaihbaiegaa
