/- What this claim reaches of a longer text of this session. -/
import Derived.Test.YteljmaebhjhedaaDoorTermE
import Derived.Test.YteljmaebhjhedaaDoorRef
import Derived.Test.YteljmaebhjhedaaDoorWWords
import Derived.Test.YteljmaebhjhedaaDoorWLast
import Derived.Test.YteljmaebhjhedaaDoorWApart
import Derived.Test.YteljmaebhjhedaaDoorWFoot
import Derived.Test.YteljmaebhjhedaaDoorWN
import Derived.Test.YteljmaebhjhedaaDoorWMore
set_option linter.unusedVariables false
set_option linter.unusedSimpArgs false
namespace Go.Proofs.YteljmaebhjhedaaDoor
open Go.RowKit Go.Proofs.YteljmaebhjhedaaDoorW.PrintWords Go.Proofs.YteljmaebhjhedaaDoorW.PrintLast
structure TS where
  nodes : List Nd
  drawn : Int
structure T2 where
  p : TS
  r : TS
def Sty (w : World) (k : Nat) : Prop := (∃ es c, w.heap[k]? = some (.map es c)) ∨ ∃ cs t f, w.heap[k]? = some (.cells cs t f) ∧ (t = 60 ∨ (t = 40 ∧ 8 ≤ cs.size) ∨ t = 52)
def SepB (w0 w : World) (k : Nat) : Prop := k < w0.heap.size ∨ ¬ Sty w k
theorem Sty.heap {w w' : World} {k : Nat} (h : Sty w k) (e : w'.heap[k]? = w.heap[k]?) : Sty w' k := by unfold Sty; rw [e]; exact h
theorem nsty_cells {w : World} {k : Nat} {cs : Array Value} {t : TypeId} {f : Nat × Nat} (h : w.heap[k]? = some (.cells cs t f)) (ht : t ≠ 60 ∧ t ≠ 40 ∧ t ≠ 52) : ¬ Sty w k := by
  rintro (⟨es, c, e⟩ | ⟨cs', t', f', e, ht'⟩)
  · rw [h] at e; cases e
  · rw [h] at e; cases e; rcases ht' with rfl | ht' | rfl
    · exact ht.1 rfl
    · exact ht.2.1 ht'.1
    · exact ht.2.2 rfl
structure KeepSt (w W w0 : World) : Prop where
  sz : w.heap.size ≤ W.heap.size
  block : ∀ k, k < w.heap.size → SepB w0 w k → W.heap[k]? = w.heap[k]?
section
variable {w0 w W w1 w2 : World}
theorem KeepSt.refl (w w0 : World) : KeepSt w w w0 := ⟨Nat.le_refl _, fun _ _ _ => rfl⟩
theorem SepB.heap {k : Nat} (h : SepB w0 w k) (e : W.heap[k]? = w.heap[k]?) : SepB w0 W k := h.imp id fun hn hs => hn (hs.heap e.symm)
theorem KeepSt.trans (h : KeepSt w W w0) (k : KeepSt W w2 w0) : KeepSt w w2 w0 :=
  ⟨Nat.le_trans h.sz k.sz, fun i hi hs => (k.block i (Nat.lt_of_lt_of_le hi h.sz) (hs.heap (h.block i hi hs))).trans (h.block i hi hs)⟩
theorem KeepSt.of_below (h : Below w.heap.size w W) (w0 : World) : KeepSt w W w0 := ⟨h.size, fun i hi _ => h.block i hi⟩
theorem KeepSt.grown {row : Option Nat} (h : KeepSt w W w0) (hg : W.grownBy w1 row) (hr : row = none ∨ ∃ b, row = some b ∧ w.heap.size ≤ b) : KeepSt w w1 w0 :=
  ⟨Nat.le_trans h.sz hg.size, fun i hi hs => (hg.block i (Nat.lt_of_lt_of_le hi h.sz) (by
    rintro rfl
    rcases hr with e | ⟨b, e, hb⟩
    · cases e
    · cases e; omega)).trans (h.block i hi hs)⟩
theorem KeepSt.drewN (h : KeepSt w W w0) (m : Nat) : KeepSt w (W.drewN m) w0 := ⟨h.sz, h.block⟩
theorem KeepSt.drew (h : KeepSt w W w0) : KeepSt w W.drew w0 := ⟨h.sz, h.block⟩
theorem KeepSt.alloc (h : KeepSt w W w0) (o : Obj) : KeepSt w (W.alloc o) w0 := h.trans (.of_below ((Below.refl _ W).alloc (Nat.le_refl _) o) w0)
theorem KeepSt.far {p : Addr} (h : KeepSt w W w0) (hp : w.heap.size ≤ p.block) (u : Value) : KeepSt w (W.setCell p u) w0 :=
  ⟨by simpa using h.sz, fun i hi hs => (Below.heap_setCell W p u i (by omega)).trans (h.block i hi hs)⟩
theorem KeepSt.size (h : KeepSt w W w0) : w.heap.size ≤ W.heap.size := h.sz
theorem KeepSt.cell (h : KeepSt w W w0) {a : Addr} {v : Value} (hc : w.cell? a = some v) (hne : SepB w0 w a.block) : W.cell? a = some v := by
  have := h.block a.block (World.block_lt_of_cell? w a hc) hne
  simpa [World.cell?, this] using hc
def Osty : Obj → Bool
  | .cells cs t _ => t == 60 || (t == 40 && Nat.ble 8 cs.size) || t == 52
  | .map _ _ => true
  | _ => false
theorem nsty_obj {k : Nat} {o : Obj} (h : w.heap[k]? = some o) (ht : Osty o = false) : ¬ Sty w k := by
  rintro (⟨es, c, e⟩ | ⟨cs', t', f', e, ht'⟩) <;> rw [h] at e <;> cases e
  · simp [Osty] at ht
  · rcases ht' with rfl | ⟨rfl, h8⟩ | rfl
    · simp [Osty] at ht
    · simp [Osty, Nat.ble_eq_true_of_le h8] at ht
    · simp [Osty] at ht
theorem KeepSt.blk (h : KeepSt w W w0) {g' : Nat} {o : Obj} (hb : w.heap[g']? = some o) {P : Prop} (_ : P) (ht : Osty o = false) : W.heap[g']? = some o :=
  (h.block g' (Array.getElem?_eq_some_iff.1 hb).1 (.inr (nsty_obj hb ht))).trans hb
def Nsty (w : World) (k : Nat) : Prop := k < w.heap.size ∧ ¬ Sty w k
theorem Nsty.of {k : Nat} {o : Obj} (h : w.heap[k]? = some o) (ht : Osty o = false) : Nsty w k := ⟨(Array.getElem?_eq_some_iff.1 h).1, nsty_obj h ht⟩
theorem Nsty.drew {k : Nat} (h : Nsty w k) : Nsty w.drew k := h
theorem Nsty.drewN {k : Nat} (h : Nsty w k) (m : Nat) : Nsty (w.drewN m) k := h
theorem Nsty.heap {k : Nat} (h : Nsty w k) (hs : w.heap.size ≤ W.heap.size) (e : W.heap[k]? = w.heap[k]?) : Nsty W k := ⟨Nat.lt_of_lt_of_le h.1 hs, fun q => h.2 (by unfold Sty at *; rw [← e]; exact q)⟩
theorem Nsty.alloc {k : Nat} (h : Nsty w k) (o : Obj) : Nsty (w.alloc o) k := h.heap (by simp) (Below.heap_alloc w o k h.1)
theorem Nsty.set {k : Nat} (h : Nsty w k) (p : Addr) (u : Value) : Nsty (w.setCell p u) k := by
  refine ⟨by simpa using h.1, ?_⟩
  by_cases hp : k = p.block
  · obtain ⟨o, ho⟩ : ∃ o, w.heap[k]? = some o := ⟨w.heap[k]'h.1, Array.getElem?_eq_getElem h.1⟩
    subst hp
    intro q
    refine h.2 ?_
    simp only [Sty, World.setCell, Array.getElem?_modify, if_true, ho, Option.map_some] at q ⊢
    cases o with
    | cells c t f =>
      simp at q ⊢
      obtain ⟨cs, t1, ⟨e1, e2⟩, e3⟩ := q
      exact ⟨c, t1, ⟨rfl, e2⟩, by rw [← e1] at e3; split at e3 <;> simpa using e3⟩
    | map es c => simp
    | _ => simp at q
  · exact fun q => h.2 (by unfold Sty at *; rw [Below.heap_setCell w p u k hp] at q; exact q)
end
end Go.Proofs.YteljmaebhjhedaaDoor
namespace Go.Proofs.YteljmaebhjhedaaDoorW.PrintWords.Kd
open Go.Proofs.YteljmaebhjhedaaDoor Go.RowKit
section
variable {α : Type} {d : Kd α} {w0 w w1 W : World} {e base : Nat} {ok : Nat → Prop} {v : Value} {xs : List α} {A : Option Addr} {n c : Nat}
theorem R_keepSt (h : d.R e w base ok v xs) (hk : KeepSt w w1 w0) (hok : ∀ k, ok k → ¬ Sty w k) : d.R e w1 base ok v xs := R_step h (fun k ho hlt => hk.block k hlt (.inr (hok k ho)))
theorem C_ltS (h : d.C w A n xs) (hs : 0 < d.sz) : ∀ ad, A = some ad → 0 < n → ad.block < w.heap.size := by
  rintro ad rfl hn
  obtain ⟨ad', e', hc⟩ := h.2.2 hn
  cases e'
  have hl : 0 < xs.length := by have := h.1; omega
  obtain ⟨cs, hcs, _, hcell⟩ := hc 0 _ (List.getElem?_eq_getElem hl)
  have := World.block_lt_of_cell? w _ (hcell 0 (cs[0]'(by omega)) (List.getElem?_eq_getElem (by omega)))
  rwa [add_block] at this
theorem far_CS (h : d.C w A n xs) (hs : 0 < d.sz := by decide) : ∀ ad, A = some ad → 0 < n → SepB w W ad.block := fun ad ha hn => .inl (C_ltS h hs ad ha hn)
theorem far_R (ho : d.R e W base ok (.slice A n c) xs) (ht : e ≠ 60 ∧ e ≠ 40 ∧ e ≠ 52) : ∀ ad, A = some ad → 0 < n → SepB w0 W ad.block := by
  rintro ad rfl _
  obtain ⟨inner, hown⟩ := R_own ho
  obtain ⟨cells, hc⟩ := own_typed hown ad.block (by simp [Value.ownBlock])
  exact .inr (nsty_cells hc ht)
end
end Go.Proofs.YteljmaebhjhedaaDoorW.PrintWords.Kd
namespace Go.Proofs.YteljmaebhjhedaaDoor
open Go.RowKit Go.Proofs.YteljmaebhjhedaaDoorW.PrintWords Go.Proofs.YteljmaebhjhedaaDoorW.PrintLast
def IsS60 (w0 W : World) (g : Nat) (f0 : T2) : Prop := ∃ m sl rs, StoreAt W ⟨g, m, sl, f0.p.nodes, f0.p.drawn⟩ ∧ RefAt W ⟨g + 1, rs, f0.r.nodes, f0.r.drawn⟩ ∧
  (∀ k, St.own ⟨g, m, sl, f0.p.nodes, f0.p.drawn⟩ k → ¬ Rf.own ⟨g + 1, rs, f0.r.nodes, f0.r.drawn⟩ k) ∧
  (∀ k, St.own ⟨g, m, sl, f0.p.nodes, f0.p.drawn⟩ k → w0.heap.size ≤ k) ∧ (∀ k, Rf.own ⟨g + 1, rs, f0.r.nodes, f0.r.drawn⟩ k → w0.heap.size ≤ k) ∧ 2 ≤ f0.p.nodes.length ∧ 2 ≤ f0.r.nodes.length
namespace IsS60
abbrev Is := IsS60
section
variable {w0 W W1 w' : World} {g : Nat} {f0 : T2}
theorem row_big {w : World} {v : Value} {n k : Nat} {xs : List Value} (h : w.ownsRow 0 40 4 v n xs) (hn : 2 ≤ n) (hk : v.ownBlock = some k) : ∃ cs, w.heap[k]? = some (.cells cs 40 (0, 0)) ∧ 8 ≤ cs.size := by
  rcases h.2 with ⟨_, h0⟩ | ⟨g, cap, cur, hv, _, h1, h2, h3, h4, _⟩
  · omega
  · subst hv
    simp [Value.ownBlock] at hk
    subst hk
    exact ⟨cur, h1, by omega⟩
theorem own_sty {s : St} {W : World} (h : StoreAt W s) (h2 : 2 ≤ s.nodes.length) {k : Nat} (hk : s.own k) : Sty W k := by
  rcases hk with rfl | rfl | hk
  · exact .inr ⟨_, _, _, h.obj, .inl rfl⟩
  · exact .inl ⟨_, _, h.map⟩
  · obtain ⟨cells, hc, h8⟩ := row_big h.arr h2 hk
    exact .inr ⟨_, _, _, hc, .inr (.inl ⟨rfl, h8⟩)⟩
theorem rown_sty {s : Rf} {W : World} (h : RefAt W s) (h2 : 2 ≤ s.nodes.length) {k : Nat} (hk : s.own k) : Sty W k := by
  rcases hk with rfl | hk
  · exact .inr ⟨_, _, _, h.obj, .inr (.inr rfl)⟩
  · obtain ⟨cells, hc, h8⟩ := row_big h.arr h2 hk
    exact .inr ⟨_, _, _, hc, .inr (.inl ⟨rfl, h8⟩)⟩
theorem stay (h : Is w0 W g f0) (hm : ∀ k, w0.heap.size ≤ k → Sty W k → W1.heap[k]? = W.heap[k]?) : Is w0 W1 g f0 := by
  obtain ⟨m, sl, rs, hs, hr, hd, hg, hq, hp2, hr2⟩ := h
  exact ⟨m, sl, rs, hs.keep fun k hk => hm k (hg k hk) (own_sty hs hp2 hk), hr.keep fun k hk => hm k (hq k hk) (rown_sty hr hr2 hk), hd, hg, hq, hp2, hr2⟩
theorem sty_lt {k : Nat} (h : Sty W k) : k < W.heap.size := by
  rcases h with ⟨_, _, e⟩ | ⟨_, _, _, e, _⟩ <;> exact (Array.getElem?_eq_some_iff.1 e).1
theorem grown {row : Option Nat} (h : Is w0 W g f0) (hw : W.grownBy W1 row) (hne : ∀ k, row = some k → ¬ Sty W k) : Is w0 W1 g f0 := h.stay fun k _ hs => hw.block k (sty_lt hs) fun e => hne k e.symm hs
theorem below (h : Is w0 W g f0) (hw : Below W.heap.size W W1) : Is w0 W1 g f0 := h.stay fun k _ hs => hw.block k (sty_lt hs)
theorem alloc (h : Is w0 W g f0) (o : Obj) : Is w0 (W.alloc o) g f0 := h.below (below_alloc (Below.refl _ _) o)
theorem drewN (h : Is w0 W g f0) (m : Nat) : Is w0 (W.drewN m) g f0 := h.stay fun _ _ _ => rfl
theorem drew (h : Is w0 W g f0) : Is w0 W.drew g f0 := h.stay fun _ _ _ => rfl
theorem at_ {m : Nat} (hq : W.drewN m = w') (h : Is w0 W g f0) : Is w0 w' g f0 := by subst hq; exact h.drewN m
theorem lt (h : Is w0 W g f0) : g < W.heap.size := by obtain ⟨m, sl, rs, hs, _⟩ := h; exact hs.p_lt
theorem ge (h : Is w0 W g f0) : w0.heap.size ≤ g := by obtain ⟨m, sl, rs, hs, hr, hd, hg, hq, _⟩ := h; exact hg g (.inl rfl)
theorem far {p : Addr} (h : Is w0 W g f0) (hne : Nsty W p.block) (u : Value) : Is w0 (W.setCell p u) g f0 := h.stay fun k _ hs => Below.heap_setCell W p u k (by rintro rfl; exact hne.2 hs)
theorem ne_blk {a : Nat} {cs : Array Value} {t : TypeId} {fr : Nat × Nat} (h : Is w0 W g f0) (hb2 : W.heap[a]? = some (.cells cs t fr)) (ht : t ≠ 60) : g ≠ a := by
  obtain ⟨m, sl, rs, hs, _⟩ := h
  rintro rfl
  have hb := hs.obj
  rw [hb2] at hb
  cases hb
  exact ht rfl
theorem apart {α : Type} {d : Kd α} {e : Nat} {base : Nat} {ok : Nat → Prop} {v : Value} {xs : List α} (h : Is w0 W g f0) (ho : d.R e W base ok v xs) (ht : ∀ q, q ∈ e :: d.E → q ≠ 60 ∧ q ≠ 40 ∧ q ≠ 52) : d.R e W base (fun k => ok k ∧ ¬ Sty W k) v xs :=
  Kd.R_mono (Kd.R_bound ho) (fun k hk => ⟨hk.1, by
    obtain ⟨_, _, _, q, hq, cells, hc⟩ := hk
    exact nsty_cells hc (ht q hq)⟩)
theorem own_ne {α : Type} {d : Kd α} {e : Nat} {base : Nat} {ok : Nat → Prop} {v : Value} {xs : List α} (h : Is w0 W g f0) (ho : d.R e W base ok v xs) (ht : e ≠ 60 ∧ e ≠ 40 ∧ e ≠ 52) : ∀ k, v.ownBlock = some k → ¬ Sty W k := fun k hk => by
  obtain ⟨inner, hown⟩ := Kd.R_own ho
  obtain ⟨cells, hc⟩ := own_typed hown k hk
  exact nsty_cells hc ht
theorem lt2 (h : Is w0 W g f0) : g + 1 < W.heap.size := by obtain ⟨m, sl, rs, hs, hr, _⟩ := h; exact hr.p_lt
theorem next {s : St} {q : Rf} {w w' : World} {l : List Nd} {d : Int} (h : StoreAt w s) (hr : RefAt w q) (hp : q.p = s.p + 1) (hd : ∀ k, s.own k → ¬ q.own k) (hg : ∀ k, s.own k → w0.heap.size ≤ k) (hq : ∀ k, q.own k → w0.heap.size ≤ k)
    (hp2 : 2 ≤ s.nodes.length) (hl : s.nodes.length ≤ l.length) (hr2 : 2 ≤ q.nodes.length)
    (hB : Below w0.heap.size w0 w) (hn : Next s w l d w') :
    Is w0 w' s.p ⟨⟨l, d⟩, ⟨q.nodes, q.drawn⟩⟩ ∧ Below w0.heap.size w0 w' ∧ KeepSt w w' w0 := by
  obtain ⟨m', sl', h1, h2, h3⟩ := hn.get
  obtain ⟨qp, qsl, qn, qd⟩ := q
  dsimp only at hp
  subst hp
  refine ⟨⟨m', sl', qsl, h1, hr.chg h3 fun k hk ho => hd k ho hk, fun k hk hb => ?_, fun k hk => ?_, hq, Nat.le_trans hp2 hl, hr2⟩, hB.trans ⟨h3.os, h3.tape, h3.output, h3.size, fun k hk => h3.block k (Nat.lt_of_lt_of_le hk hB.size) (fun ho => by have := hg k ho; omega)⟩, ⟨h3.size, fun k hk hs => h3.block k hk (fun ho => ?_)⟩⟩
  · rcases h2 k hk with h | h
    · exact hd k h hb
    · have := hr.own_lt hb; omega
  · rcases h2 k hk with h | h
    · exact hg k h
    · exact Nat.le_trans hB.size h
  · rcases hs with hs | hs
    · have := hg k ho; omega
    · exact hs (own_sty h hp2 ho)
theorem nextR {s : St} {q : Rf} {w w' : World} {l : List Nd} {d : Int} (h : StoreAt w s) (hr : RefAt w q) (hp : q.p = s.p + 1) (hd : ∀ k, s.own k → ¬ q.own k) (hg : ∀ k, s.own k → w0.heap.size ≤ k) (hq : ∀ k, q.own k → w0.heap.size ≤ k)
    (hp2 : 2 ≤ s.nodes.length) (hr2 : 2 ≤ q.nodes.length) (hl : q.nodes.length ≤ l.length)
    (hB : Below w0.heap.size w0 w) (hn : RNext q w l d w') :
    Is w0 w' s.p ⟨⟨s.nodes, s.drawn⟩, ⟨l, d⟩⟩ ∧ Below w0.heap.size w0 w' ∧ KeepSt w w' w0 := by
  obtain ⟨sl', h1, h2, h3⟩ := hn.get
  obtain ⟨qp, qsl, qn, qd⟩ := q
  dsimp only at hp
  subst hp
  obtain ⟨sp, sm, ssl, sn, sd⟩ := s
  refine ⟨⟨sm, ssl, sl', h.chg h3 fun k hk ho => hd k hk ho, h1, fun k hk hb => ?_, hg, fun k hk => ?_, hp2, Nat.le_trans hr2 hl⟩, hB.trans ⟨h3.os, h3.tape, h3.output, h3.size, fun k hk => h3.block k (Nat.lt_of_lt_of_le hk hB.size) (fun ho => by have := hq k ho; omega)⟩, ⟨h3.size, fun k hk hs => h3.block k hk (fun ho => ?_)⟩⟩
  · rcases h2 k hb with h' | h'
    · exact hd k hk h'
    · have := h.own_lt hk; omega
  · rcases h2 k hk with h' | h'
    · exact hq k h'
    · exact Nat.le_trans hB.size h'
  · rcases hs with hs | hs
    · have := hq k ho; omega
    · exact hs (rown_sty hr hr2 ho)
end
end IsS60
end Go.Proofs.YteljmaebhjhedaaDoor
