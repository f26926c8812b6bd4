/- What holds at each of Learn's loops. -/
import Derived.Test.YtmdfhaihbaiegaaYaoD
import Derived.Test.YtmdfhaihbaiegaaAppend
import Derived.Deep.Light
import Derived.Deep.DeepCutAuto
set_option linter.unusedVariables false
set_option linter.unusedSimpArgs false
namespace Go.Proofs.Ytmdfhaihbaiegaa
open Go.RowKit

/-! ### the plain part -/
theorem learn_exact {l : List Nd} (hwf : WF l) {S : Int → Prop} {ks : List Int} {c : Int → Bool} (ck : ∀ t ∈ ks, KnD l S t) (cc : ∀ t, knownB l.length t = true → c t = true → CanD l S t)
    (hS : ∀ t, S t → knownB l.length t = true → t ∈ ks) (h1 : ∀ t, knownB l.length t = true → (t ∈ ks → c t = true) ∧ (MadeP (fun x => c x = true) (getN l t) → c t = true))
    (h2 : ∀ t ∈ ks, ∀ x, ApartP l (fun x => c x = true) (getN l t) x → x ∈ ks) : (∀ t, t ∈ ks ↔ KnD l S t) ∧ ∀ t, knownB l.length t = true → (c t = true ↔ CanD l S t) := by
  have H : Closed l S (fun t => t ∈ ks) (fun t => knownB l.length t = true ∧ c t = true) :=
    ⟨hS, fun t ht => ⟨(ck t ht).range hwf, (h1 t ((ck t ht).range hwf)).1 ht⟩, fun t hk hm => ⟨hk, (h1 t hk).2 (hm.mono fun _ h => h.2)⟩, fun t x ht ha => h2 t ht x (ha.mono fun _ h => h.2)⟩
  exact ⟨fun t => ⟨ck t, fun h => h _ _ H⟩, fun t hk => ⟨cc t hk, fun h => (h _ _ H).2⟩⟩

/-- Behind the pass over the terms below j. -/
def Pass (l : List Nd) (ks : List Int) (c : List Bool) (j : Nat) : Prop :=
  ∀ t, knownB l.length t = true → t < j → (t ∈ ks → cbI c t = true) ∧ (MadeP (fun x => cbI c x = true) (getN l t) → cbI c t = true)

theorem cbI_set {c : List Bool} {j : Nat} {x : Bool} {t : Int} (h0 : 0 ≤ t) (h : t ≠ j) : cbI (c.set j x) t = cbI c t := by
  unfold cbI
  rw [List.getD_eq_getElem?_getD, List.getD_eq_getElem?_getD, List.getElem?_set, if_neg (by omega)]
theorem cbI_set_at {c : List Bool} {j : Nat} {x : Bool} (h : j < c.length) : cbI (c.set j x) j = x := by
  unfold cbI
  rw [Int.toNat_natCast, List.getD_eq_getElem?_getD, List.getElem?_set, if_pos rfl, if_pos h]
  rfl

theorem MadeP.parts {l : List Nd} (hwf : WF l) {C C' : Int → Prop} {t : Int} (hk : knownB l.length t = true) (h : MadeP C (getN l t)) (hC : ∀ x, 1 ≤ x → x < t → C x → C' x) : MadeP C' (getN l t) := by
  obtain ⟨w1, w2, _⟩ := wf_parts hwf hk
  rcases h with h | ⟨h, h1⟩ | ⟨h, h1, h2⟩
  · exact .inl h
  · exact .inr (.inl ⟨h, hC _ (w2 h).1 (w2 h).2 h1⟩)
  · exact .inr (.inr ⟨h, hC _ (w1 h).1.1 (w1 h).1.2 h1, hC _ (w1 h).2.1 (w1 h).2.2 h2⟩)

theorem Pass.start (l : List Nd) (ks : List Int) (c : List Bool) : Pass l ks c 1 := fun t hk ht => by
  have := knownB_iff.1 hk
  omega

theorem Pass.step {l : List Nd} (hwf : WF l) {ks : List Int} {c : List Bool} {j : Nat} (h : Pass l ks c j) (hj : knownB l.length (j : Int) = true) (hl : j < c.length) :
    Pass l ks (c.set j (c.getD j false || (decide ((j : Int) ∈ ks) || madeB (cbI c) (getN l j)))) (j + 1) := by
  intro t hk ht
  have hk' := knownB_iff.1 hk
  generalize hx : (c.getD j false || (decide ((j : Int) ∈ ks) || madeB (cbI c) (getN l j))) = x
  by_cases e : t = j
  · subst e
    rw [cbI_set_at hl, ← hx]
    refine ⟨fun hm => by simp [hm], fun hm => ?_⟩
    have : MadeP (fun x => cbI c x = true) (getN l (j : Int)) := hm.parts hwf hk fun y h1 h2 h3 => by rw [cbI_set (by omega) (by omega)] at h3; exact h3
    rw [← madeB_iff] at this
    simp [this]
  · obtain ⟨p1, p2⟩ := h t hk (by omega)
    rw [cbI_set (by omega) e]
    refine ⟨p1, fun hm => p2 (hm.parts hwf hk fun y h1 h2 h3 => ?_)⟩
    rw [cbI_set (by omega) (by omega)] at h3
    exact h3

theorem pass_sound {l : List Nd} {S : Int → Prop} {ks : List Int} {c : List Bool} {j : Nat} (hj : knownB l.length (j : Int) = true) (hwf : WF l) (ck : ∀ t ∈ ks, KnD l S t) (cc : ∀ i : Nat, c.getD i false = true → CanD l S i)
    (h : (c.getD j false || (decide ((j : Int) ∈ ks) || madeB (cbI c) (getN l j))) = true) : CanD l S j := by
  simp only [Bool.or_eq_true, decide_eq_true_eq] at h
  rcases h with h | h | h
  · exact cc j h
  · exact (closedD l S).kc _ (ck _ h)
  · rw [madeB_iff] at h
    refine (closedD l S).made _ hj (h.parts hwf hj fun y h1 h2 h3 => ?_)
    have := cc y.toNat h3
    rw [show ((y.toNat : Nat) : Int) = y by omega] at this
    exact this

theorem partsIn_of {l : List Nd} (hwf : WF l) {t : Int} (hk : knownB l.length t = true) {n : Nat} (hn : n = l.length + 1) : PartsIn n (getN l t) := by
  obtain ⟨w1, w2, w3⟩ := wf_parts hwf hk
  have hk' := knownB_iff.1 hk
  refine ⟨fun h => ?_, fun h => ?_⟩
  · have := w1 h; omega
  · have := w2 h; omega

/-! ### the walk -/
def InI (W : World) (a : Option Addr) (l : List Int) : Prop :=
  l = [] ∨ ∃ b off, a = some ⟨b, off, none⟩ ∧ b < W.heap.size ∧ ∀ i (h : i < l.length), W.cell? ⟨b, off + i, none⟩ = some (.int .i64 l[i])

abbrev LS (q0 : Mind) (l : List Int) : Int → Prop := fun t => t ∈ q0.ks ∨ t ∈ l

/-- While the numbers that are handed in are laid into the map. -/
def Rel1 (W : World) (q0 : Mind) (s : St) (l : List Int) (i : Value) (wr : World) : Prop :=
  ∃ (k : Nat) (q : Mind), k ≤ l.length ∧ i = .int .i64 k ∧ Lrn W q0 s (LS q0 l) q wr ∧ q.can.length = s.nodes.length + 1 ∧ (∀ t ∈ q0.ks, t ∈ q.ks) ∧ ∀ t ∈ l.take k, knownB s.nodes.length t = true → t ∈ q.ks

theorem lrn_first {W wa : World} {q0 : Mind} {s : St} {S : Int → Prop} {v' : Value} {m : Nat} (hq : MindAt W q0) (hst : StoreAt W s) (hsp : q0.sp = s.p) (sep : Sep q0 s) (hS : ∀ t ∈ q0.ks, S t) (hks : ∀ t ∈ q0.ks, knownB s.nodes.length t = true)
    (hcc : ∀ i : Nat, q0.can.getD i false = true → CanD s.nodes S i) (hown : wa.ownsRow 0 4 1 v' (q0.can.length + m) ((q0.can ++ List.replicate m false).map Value.bool)) (hg : W.drew.grownBy wa q0.sl.ownBlock)
    (hat : v'.ownBlock = q0.sl.ownBlock ∨ v'.ownBlock = some W.drew.heap.size) : Lrn W q0 s S { q0 with sl := v', can := q0.can ++ List.replicate m false } (wa.setCell ⟨q0.p, 2, none⟩ v') := by
  have hc : Chg (fun k => q0.sl.ownBlock = some k) W wa := ⟨hg.os, hg.tape, hg.output, hg.size, fun k hk hn => hg.block k hk (fun e => hn e.symm)⟩
  have hc2 : Chg q0.own W (wa.setCell ⟨q0.p, 2, none⟩ v') := (hc.mono (fun k _ h => .inr (.inr h))).setCell (.inl (.inl rfl)) _
  have hobj := (hc.block q0.p hq.p_lt (fun e => hq.row_ne_p e rfl)).trans hq.obj
  have hpr : ∀ b, v'.ownBlock = some b → b ≠ q0.p := by
    rintro b hb rfl
    rcases hat with h | h
    · exact hq.row_ne_p (h ▸ hb) rfl
    · have := hq.p_lt; rw [h] at hb; simp at hb; omega
  have hmap := hq.map.keep (hc.block q0.m hq.m_lt (fun e => hq.row_ne_m e rfl))
  refine ⟨⟨?_, hmap.keep (heap_setCell_ne hq.p_ne_m.symm), ?_⟩, hst.chg hc2 (fun k hk hm => sep k hm hk), rfl, rfl, hsp, ?_, hc2, fun t ht => (closedD _ S).given t (hS t ht) (hks t ht), ?_⟩
  · rw [heap_setCell_at hobj]; rfl
  · have e : (q0.can ++ List.replicate m false).length = q0.can.length + m := by simp
    show World.ownsRow _ 0 4 1 v' (q0.can ++ List.replicate m false).length _
    rw [e]
    exact row_keep hown fun b hb => heap_setCell_ne (hpr b hb)
  · intro b hb
    rcases hat with h | h
    · exact .inl (h ▸ hb)
    · right
      have hb' : v'.ownBlock = some b := hb
      rw [h] at hb'
      simp at hb'
      omega
  · intro i hi
    rw [List.getD_eq_getElem?_getD] at hi
    rcases Nat.lt_or_ge i q0.can.length with h1 | h1
    · rw [List.getElem?_append_left h1, ← List.getD_eq_getElem?_getD] at hi
      exact hcc i hi
    · rw [List.getElem?_append_right h1, List.getElem?_replicate] at hi
      split at hi <;> simp at hi

theorem mem_ins {x t : Int} {ks : List Int} : t ∈ (if x ∈ ks then ks else ks ++ [x]) ↔ t ∈ ks ∨ t = x := by
  split
  · exact ⟨.inl, fun h => h.elim id (fun e => e ▸ ‹_›)⟩
  · simp

/-- A number more is known. -/
theorem Rel1.more {W wr : World} {q0 q : Mind} {s : St} {l : List Int} {k : Nat} {x : Int} {es' : Array MapEntry} {ck' : Nat} (hst : StoreAt W s) (sep : Sep q0 s) (hk : k < l.length) (h : Lrn W q0 s (LS q0 l) q wr) (hx : q.can.length = s.nodes.length + 1 ∧ (∀ t ∈ q0.ks, t ∈ q.ks) ∧ ∀ t ∈ l.take k, knownB s.nodes.length t = true → t ∈ q.ks)
    (htk : l.take (k + 1) = l.take k ++ [x]) (hmem : x ∈ l) (hkx : knownB s.nodes.length x = true) (hm : MapAt (putObj wr q.m (.map es' ck')) q.m es' ck' (if x ∈ q.ks then q.ks else q.ks ++ [x])) : Rel1 W q0 s l (.int .i64 ((k + 1 : Nat) : Int)) (putObj wr q0.m (.map es' ck')) := by
  have HT := h.turned (fun k hk => hst.own_lt hk) sep hm (fun t ht => by
    rcases mem_ins.1 ht with h1 | rfl
    · exact h.ck t h1
    · exact (closedD _ _).given _ (.inr hmem) hkx)
  rw [h.hm] at HT
  refine ⟨k + 1, _, hk, rfl, HT, hx.1, fun t ht => mem_ins.2 (.inl (hx.2.1 t ht)), fun t ht hkt => mem_ins.2 ?_⟩
  rw [htk, List.mem_append, List.mem_singleton] at ht
  exact ht.imp (fun h1 => hx.2.2 t h1 hkt) id

theorem Rel1.same {W wr : World} {q0 q : Mind} {s : St} {l : List Int} {k : Nat} {x : Int} (hk : k < l.length) (h : Lrn W q0 s (LS q0 l) q wr) (hx : q.can.length = s.nodes.length + 1 ∧ (∀ t ∈ q0.ks, t ∈ q.ks) ∧ ∀ t ∈ l.take k, knownB s.nodes.length t = true → t ∈ q.ks)
    (htk : l.take (k + 1) = l.take k ++ [x]) (hkx : knownB s.nodes.length x = false) : Rel1 W q0 s l (.int .i64 ((k + 1 : Nat) : Int)) wr := by
  refine ⟨k + 1, q, hk, rfl, h, hx.1, hx.2.1, fun t ht hkt => ?_⟩
  rw [htk, List.mem_append, List.mem_singleton] at ht
  rcases ht with h1 | rfl
  · exact hx.2.2 t h1 hkt
  · rw [hkx] at hkt; cases hkt

/-- The outer loop: what is known and what can be made, and whether to go on. -/
def Rel2 (W : World) (q0 : Mind) (s : St) (l : List Int) (v : Value) (wr : World) : Prop :=
  ∃ (ag : Bool) (q : Mind), v = .bool ag ∧ Lrn W q0 s (LS q0 l) q wr ∧ q.can.length = s.nodes.length + 1 ∧ (∀ t, LS q0 l t → knownB s.nodes.length t = true → t ∈ q.ks) ∧
    (ag = false → Pass s.nodes q.ks q.can (s.nodes.length + 1) ∧ ∀ t ∈ q.ks, ∀ x, ApartP s.nodes (fun x => cbI q.can x = true) (getN s.nodes t) x → x ∈ q.ks)

/-- Behind Learn. -/
def Learnt (W : World) (q0 : Mind) (s : St) (l : List Int) (w' : World) : Prop :=
  ∃ q, Lrn W q0 s (LS q0 l) q w' ∧ q.can.length = s.nodes.length + 1 ∧ (∀ t, t ∈ q.ks ↔ KnD s.nodes (LS q0 l) t) ∧ ∀ t, knownB s.nodes.length t = true → (cbI q.can t = true ↔ CanD s.nodes (LS q0 l) t)

theorem Learnt.of {W wr : World} {q0 q : Mind} {s : St} {l : List Int} (h : Lrn W q0 s (LS q0 l) q wr) (hl : q.can.length = s.nodes.length + 1) (hS : ∀ t, LS q0 l t → knownB s.nodes.length t = true → t ∈ q.ks)
    (hf : Pass s.nodes q.ks q.can (s.nodes.length + 1) ∧ ∀ t ∈ q.ks, ∀ x, ApartP s.nodes (fun x => cbI q.can x = true) (getN s.nodes t) x → x ∈ q.ks) : Learnt W q0 s l wr := by
  obtain ⟨e1, e2⟩ := learn_exact h.st.wf h.ck (fun t hk hc => by
    have := h.cc t.toNat hc
    have hk' := knownB_iff.1 hk
    rw [show ((t.toNat : Nat) : Int) = t by omega] at this
    exact this) hS (fun t hk => hf.1 t hk (by have := knownB_iff.1 hk; omega)) hf.2
  exact ⟨q, h, hl, e1, e2⟩

def mapCount (w : World) (m : Nat) : Nat := match w.heap[m]? with | some (.map es _) => es.size | _ => 0
def ag1 : Value → Nat | .bool true => 1 | _ => 0

theorem MapAt.count {w : World} {m : Nat} {es : Array MapEntry} {clock : Nat} {ks : List Int} (h : MapAt w m es clock ks) : mapCount w m = ks.length := by
  unfold mapCount
  rw [h.obj]
  have := congrArg List.length h.keys
  simpa using this

/-- The pass over all terms. -/
def Rel4 (W : World) (q0 : Mind) (s : St) (l : List Int) (ks : List Int) (i : Value) (wr : World) : Prop :=
  ∃ (j : Nat) (q : Mind), 1 ≤ j ∧ j ≤ s.nodes.length + 1 ∧ i = .int .i64 j ∧ Lrn W q0 s (LS q0 l) q wr ∧ q.can.length = s.nodes.length + 1 ∧ q.ks = ks ∧ Pass s.nodes q.ks q.can j

theorem Rel4.step {W wz : World} {q0 q : Mind} {s : St} {l : List Int} {ks : List Int} {g j : Nat} {x : Bool} (hst : StoreAt W s) (sep : Sep q0 s) (h : Lrn W q0 s (LS q0 l) q wz) (hg : q.sl.ownBlock = some g) (hj : knownB s.nodes.length (j : Int) = true) (hcl : q.can.length = s.nodes.length + 1)
    (hks : q.ks = ks) (hp : Pass s.nodes q.ks q.can j) (hx : x = (q.can.getD j false || (decide ((j : Int) ∈ q.ks) || madeB (cbI q.can) (getN s.nodes j)))) : Rel4 W q0 s l ks (.int .i64 ((j + 1 : Nat) : Int)) (wz.setCell ⟨g, j, none⟩ (.bool x)) := by
  have hj' := knownB_iff.1 hj
  have hjl : j < q.can.length := by omega
  have hw := h.st.wf
  subst hx
  exact ⟨j + 1, _, by omega, by omega, rfl, h.setCan (fun k hk => hst.own_lt hk) sep hg hjl (fun e => pass_sound hj hw h.ck h.cc e), by show (q.can.set j _).length = _; rw [List.length_set]; exact hcl, hks, hp.step hw hj hjl⟩

/-! ### the loop over the map -/
theorem Lrn.iter {W w w1 : World} {q0 q : Mind} {s : St} {S : Int → Prop} {r since c0 : Nat} {seen : Array Nat} {m : Option Nat} (hst : StoreAt W s) (h : Lrn W q0 s S q w) (hr : w.heap[r]? = some (.mapIter m since seen c0)) (hW : W.heap.size ≤ r) (hw : w1 = w ∨ w1 = w.drew) (o : Obj) : Lrn W q0 s S q (putObj w1 r o) := by
  have h1 : Lrn W q0 s S q w1 := by rcases hw with rfl | rfl; exact h; exact h.drew
  have hr1 : w1.heap[r]? = some (.mapIter m since seen c0) := by rcases hw with rfl | rfl <;> exact hr
  have hc : Chg (fun k => k = r) w1 (putObj w1 r o) := (Chg.refl (fun k => k = r) w1).putObj (.inl rfl) _
  refine { h1 with mind := h1.mind.chg hc ?_, st := h1.st.chg hc ?_, chg := ?_ }
  · rintro k (rfl | rfl | hk) rfl
    · rw [h1.mind.obj] at hr1; cases hr1
    · rw [h1.mind.map.obj] at hr1; cases hr1
    · obtain ⟨cap, cur, _, h3, _⟩ := own_row h1.mind.row hk; rw [h3] at hr1; cases hr1
  · intro k hk e
    have : k < W.heap.size := hst.own_lt hk
    omega
  · exact ⟨h1.chg.os, h1.chg.tape, h1.chg.output, by rw [size_putObj]; exact h1.chg.size, fun k hk hn => by rw [heap_putObj_ne (by omega)]; exact h1.chg.block k hk hn⟩

structure R6 (W : World) (q0 : Mind) (s : St) (l : List Int) (ks1 : List Int) (can1 : List Bool) (r since : Nat) (ag : Bool) (q : Mind) (seen : Array Nat) (c0 : Nat) (wr : World) : Prop where
  L : Lrn W q0 s (LS q0 l) q wr
  can : q.can = can1
  it : wr.heap[r]? = some (.mapIter (some q0.m) since seen c0)
  rW : W.heap.size ≤ r
  nd : seen.toList.Nodup
  sub : ∀ b ∈ seen.toList, b ∈ q.es.toList.map (·.born)
  ne : seen.isEmpty = false → ∃ x ∈ q.es.toList, x.born < c0
  mono : ∀ t ∈ ks1, t ∈ q.ks
  up : ag = true → ks1.length < q.ks.length
  dn : ag = false → q.ks = ks1 ∧ (∀ e ∈ q.es.toList, e.born < since) ∧ ∀ e ∈ q.es.toList, seen.contains e.born = true → ∀ k, e.key = .int .i64 k → ∀ x, ApartP s.nodes (fun x => cbI can1 x = true) (getN s.nodes k) x → x ∈ ks1

def Rel6 (W : World) (q0 : Mind) (s : St) (l : List Int) (ks1 : List Int) (can1 : List Bool) (r since : Nat) (v : Value) (wr : World) : Prop := ∃ ag q seen c0, v = .bool ag ∧ R6 W q0 s l ks1 can1 r since ag q seen c0 wr

def iterSeen (w : World) (r : Nat) : Nat := match w.heap[r]? with | some (.mapIter _ _ seen _) => seen.size | _ => 0

theorem iterSeen_eq {w : World} {r since c0 : Nat} {m : Option Nat} {seen : Array Nat} (h : w.heap[r]? = some (.mapIter m since seen c0)) : iterSeen w r = seen.size := by unfold iterSeen; rw [h]

theorem R6.seen_le {W wr : World} {q0 q : Mind} {s : St} {l ks1 : List Int} {can1 : List Bool} {r since c0 : Nat} {ag : Bool} {seen : Array Nat} (h : R6 W q0 s l ks1 can1 r since ag q seen c0 wr) : seen.size ≤ s.nodes.length ∧ q.ks.length ≤ s.nodes.length := by
  have h1 := nodup_len seen.toList _ h.nd h.sub
  have h2 := congrArg List.length h.L.mind.map.keys
  have h3 := known_len h.L.mind.map.nodup (fun t ht => (h.L.ck t ht).range h.L.st.wf)
  simp only [List.length_map, Array.length_toList] at h1 h2
  omega

/-- A step of the loop over the map, seen from inside. -/
structure R8 (W : World) (q0 : Mind) (s : St) (l : List Int) (ks1 : List Int) (can1 : List Bool) (r since : Nat) (ag0 : Bool) (q1 : Mind) (seen1 : Array Nat) (c1 : Nat) (sl : Option Addr) (xs : List Int) (ag : Bool) (q : Mind) (j : Nat) (wr : World) : Prop where
  L : Lrn W q0 s (LS q0 l) q wr
  can : q.can = can1
  it : wr.heap[r]? = some (.mapIter (some q0.m) since seen1 c1)
  pre : q1.es.toList <+: q.es.toList
  mono : ∀ t ∈ q1.ks, t ∈ q.ks
  up : ag = true → ks1.length < q.ks.length
  dn : ag = false → ag0 = false ∧ q.ks = q1.ks ∧ q.es = q1.es
  got : ∀ i (h : i < xs.length), i < j → xs[i] ∈ q.ks
  fr : FreshI 0 wr sl xs

def Rel8 (W : World) (q0 : Mind) (s : St) (l : List Int) (ks1 : List Int) (can1 : List Bool) (r since : Nat) (ag0 : Bool) (q1 : Mind) (seen1 : Array Nat) (c1 : Nat) (sl : Option Addr) (xs : List Int) (v i : Value) (wr : World) : Prop :=
  ∃ ag q j, j ≤ xs.length ∧ v = .bool ag ∧ i = .int .i64 (j : Nat) ∧ R8 W q0 s l ks1 can1 r since ag0 q1 seen1 c1 sl xs ag q j wr

theorem map_inj_of_nodup {α β : Type} {f : α → β} : ∀ {l : List α}, (l.map f).Nodup → ∀ {a b : α}, a ∈ l → b ∈ l → f a = f b → a = b
  | x :: l, h, a, b, ha, hb, he => by
    obtain ⟨h1, h2⟩ := List.nodup_cons.1 h
    rcases List.mem_cons.1 ha with ea | ha2
    · rcases List.mem_cons.1 hb with eb | hb2
      · rw [ea, eb]
      · exact absurd (by rw [← ea, he]; exact List.mem_map_of_mem hb2) h1
    · rcases List.mem_cons.1 hb with eb | hb2
      · exact absurd (by rw [← eb, ← he]; exact List.mem_map_of_mem ha2) h1
      · exact map_inj_of_nodup h2 ha2 hb2 he

theorem Lrn.sound {W w : World} {q0 q : Mind} {s : St} {S : Int → Prop} (h : Lrn W q0 s S q w) {t : Int} (ht : cbI q.can t = true) : CanD s.nodes S t := by
  have h1 := h.cc t.toNat ht
  by_cases h0 : 0 ≤ t
  · rw [show ((t.toNat : Nat) : Int) = t by omega] at h1; exact h1
  · rw [show t.toNat = 0 by omega] at h1
    have := h1.range h.st.wf
    rw [knownB_iff] at this
    omega

theorem FreshI.keep {b : Nat} {w w' : World} {sl : Option Addr} {xs : List Int} (h : FreshI b w sl xs) (hw : ∀ g, b ≤ g → sl = some ⟨g, 0, none⟩ → xs ≠ [] → w'.heap[g]? = w.heap[g]?) : FreshI b w' sl xs := by
  rcases h with h | ⟨g, rfl, h0, h1, h2⟩
  · exact .inl h
  · by_cases hx : xs = []
    · exact .inl hx
    · have he := hw g h0 rfl hx
      refine .inr ⟨g, rfl, h0, ?_, fun i hi => (cell_eq he).trans (h2 i hi)⟩
      have : w.heap[g]? ≠ none := by rw [Array.getElem?_eq_getElem h1]; simp
      rw [← he] at this
      exact Nat.lt_of_not_le fun h3 => this (Array.getElem?_eq_none h3)

/-- A key more out of what a known term comes apart to; or none. -/
theorem R8.more {W wr : World} {q0 q1 q : Mind} {s : St} {l ks1 xs : List Int} {can1 : List Bool} {r since c1 j : Nat} {ag0 ag : Bool} {seen1 : Array Nat} {sl : Option Addr} {x : Int} (hst : StoreAt W s) (sep : Sep q0 s) (h : R8 W q0 s l ks1 can1 r since ag0 q1 seen1 c1 sl xs ag q j wr)
    (h00 : ag0 = false → q1.ks = ks1) (hj : j < xs.length) (hxj : xs[j] = x) (hx : x ∉ q.ks) (hxk : KnD s.nodes (LS q0 l) x)
    (hm : MapAt (putObj wr q.m (.map (q.es.push { key := .int .i64 x, val := .bool true, born := q.clock }) (q.clock + 1))) q.m (q.es.push { key := .int .i64 x, val := .bool true, born := q.clock }) (q.clock + 1) (q.ks ++ [x])) :
    Rel8 W q0 s l ks1 can1 r since ag0 q1 seen1 c1 sl xs (.bool true) (.int .i64 ((j + 1 : Nat) : Int)) (putObj wr q0.m (.map (q.es.push { key := .int .i64 x, val := .bool true, born := q.clock }) (q.clock + 1))) := by
  have HT := h.L.turned (fun k hk => hst.own_lt hk) sep hm (fun t ht => by
    rcases List.mem_append.1 ht with h1 | h1
    · exact h.L.ck t h1
    · simp at h1; exact h1 ▸ hxk)
  have hmob := h.L.mind.map.obj
  rw [h.L.hm] at HT hmob
  refine ⟨true, _, j + 1, hj, rfl, rfl, HT, h.can, ?_, ?_, fun t ht => List.mem_append_left _ (h.mono t ht), fun _ => ?_, fun e => (by cases e), fun i hi hij => ?_, h.fr.keep fun g _ hg hne => ?_⟩
  · rw [heap_putObj_ne]
    · exact h.it
    · intro e; have h1 := h.it; rw [e, hmob] at h1; cases h1
  · show q1.es.toList <+: (q.es.push _).toList
    rw [Array.toList_push]
    exact h.pre.trans (List.prefix_append _ _)
  · show ks1.length < (q.ks ++ [x]).length
    cases ag with
    | true => have := h.up rfl; simp; omega
    | false => obtain ⟨e1, e2, _⟩ := h.dn rfl; rw [e2, h00 e1]; simp
  · by_cases e : i = j
    · subst e; rw [hxj]; exact List.mem_append_right _ (by simp)
    · exact List.mem_append_left _ (h.got i hi (by omega))
  · apply heap_putObj_ne
    rintro rfl
    rcases h.fr with h1 | ⟨g', hg', _, _, h3⟩
    · exact hne h1
    · rw [hg] at hg'
      injection hg' with hg'
      injection hg' with hg'
      subst hg'
      have := h3 j hj
      simp [World.cell?, hmob] at this

theorem R8.same {W wr : World} {q0 q1 q : Mind} {s : St} {l ks1 xs : List Int} {can1 : List Bool} {r since c1 j : Nat} {ag0 ag : Bool} {seen1 : Array Nat} {sl : Option Addr} {x : Int} (h : R8 W q0 s l ks1 can1 r since ag0 q1 seen1 c1 sl xs ag q j wr)
    (hj : j < xs.length) (hxj : xs[j] = x) (hx : x ∈ q.ks) : Rel8 W q0 s l ks1 can1 r since ag0 q1 seen1 c1 sl xs (.bool ag) (.int .i64 ((j + 1 : Nat) : Int)) wr := by
  refine ⟨ag, q, j + 1, hj, rfl, rfl, h.L, h.can, h.it, h.pre, h.mono, h.up, h.dn, fun i hi hij => ?_, h.fr⟩
  by_cases e : i = j
  · subst e; rw [hxj]; exact hx
  · exact h.got i hi (by omega)

/-- From the inside of a step back to the loop. -/
theorem R8.back {W w0 wr : World} {q0 q1 q : Mind} {s : St} {l ks1 xs : List Int} {can1 : List Bool} {r since c0 j : Nat} {ag0 ag : Bool} {seen : Array Nat} {sl : Option Addr} {e : MapEntry} {k : Int} (h0 : R6 W q0 s l ks1 can1 r since ag0 q1 seen c0 w0) (he : e ∈ q1.es.toList) (hs : seen.contains e.born = false) (hk : e.key = .int .i64 k)
    (hxs : ∀ x, ApartP s.nodes (fun x => cbI can1 x = true) (getN s.nodes k) x → x ∈ xs) (h : R8 W q0 s l ks1 can1 r since ag0 q1 (seen.push e.born) q1.clock sl xs ag q j wr) (hj : j = xs.length) : R6 W q0 s l ks1 can1 r since ag q (seen.push e.born) q1.clock wr := by
  have hsub : ∀ x ∈ q1.es.toList, x ∈ q.es.toList := fun x hx => h.pre.subset hx
  have hns : e.born ∉ seen.toList := by
    intro hm
    have : seen.contains e.born = true := by simpa using hm
    rw [hs] at this
    cases this
  refine ⟨h.L, h.can, h.it, h0.rW, ?_, ?_, fun _ => ⟨e, hsub e he, h0.L.mind.map.stamped.1 e he⟩, fun t ht => h.mono t (h0.mono t ht), h.up, fun ha => ?_⟩
  · rw [Array.toList_push, List.nodup_append]
    refine ⟨h0.nd, by simp, fun a ha b hb => ?_⟩
    simp at hb
    subst hb
    rintro rfl
    exact hns ha
  · intro b hb
    rw [Array.toList_push, List.mem_append, List.mem_singleton] at hb
    rcases hb with hb | rfl
    · obtain ⟨x, hx, rfl⟩ := List.mem_map.1 (h0.sub b hb)
      exact List.mem_map_of_mem (hsub x hx)
    · exact List.mem_map_of_mem (hsub e he)
  · obtain ⟨ha0, hks, hes⟩ := h.dn ha
    obtain ⟨d1, d2, d3⟩ := h0.dn ha0
    rw [hes, hks]
    refine ⟨d1, d2, fun e' he' hc k' hk' x hx => ?_⟩
    by_cases hsb : e'.born = e.born
    · have hee : e' = e := by
        have hnd := h0.L.mind.map.stamped.2.1
        exact map_inj_of_nodup hnd he' he hsb
      subst hee
      rw [hk] at hk'
      injection hk' with _ hk'
      subst hk'
      have hm := hxs x hx
      obtain ⟨i, hi, rfl⟩ := List.getElem_of_mem hm
      have := h.got i hi (by omega)
      rw [hks, d1] at this
      exact this
    · refine d3 e' he' ?_ k' hk' x hx
      have hc' : e'.born ∈ seen.push e.born := by simpa using hc
      rw [Array.mem_push] at hc'
      rcases hc' with h1 | h1
      · simpa using h1
      · exact absurd h1 hsb

/-- The loop over the map is done. -/
theorem R6.done {W wr w1 : World} {q0 q : Mind} {s : St} {l ks1 : List Int} {can1 : List Bool} {r since c0 : Nat} {ag : Bool} {seen : Array Nat} (h : R6 W q0 s l ks1 can1 r since ag q seen c0 wr) (hw : w1 = wr ∨ w1 = wr.drew) (hcl : can1.length = s.nodes.length + 1) (hS : ∀ t, LS q0 l t → knownB s.nodes.length t = true → t ∈ ks1)
    (hps : Pass s.nodes ks1 can1 (s.nodes.length + 1)) (hall : ∀ x ∈ q.es.toList, x.born < since → seen.contains x.born = true) : Rel2 W q0 s l (.bool ag) w1 ∧ mapCount w1 q0.m = q.ks.length := by
  have hL : Lrn W q0 s (LS q0 l) q w1 := by rcases hw with rfl | rfl; exact h.L; exact h.L.drew
  have hcan := h.can
  refine ⟨⟨ag, q, rfl, hL, by rw [hcan]; exact hcl, fun t ht hk => h.mono t (hS t ht hk), fun ha => ?_⟩, ?_⟩
  · obtain ⟨d1, d2, d3⟩ := h.dn ha
    rw [d1, hcan]
    refine ⟨hps, fun t ht x hx => ?_⟩
    have ht' : t ∈ q.ks := by rw [d1]; exact ht
    obtain ⟨e, he, hek⟩ := h.L.mind.map.mem.1 ht'
    exact d3 e he (hall e he (d2 e he)) t hek x hx
  · have := hL.mind.map.count
    rw [hL.hm] at this
    exact this

end Go.Proofs.Ytmdfhaihbaiegaa
