/- What this claim reaches of a longer text of this session. -/
import Derived.Test.YteljmaebhjhedaaDoorTermE
import Derived.Test.YteljmaebhjhedaaDoorWWords
import Derived.Test.YteljmaebhjhedaaDoorWLast
import Derived.Test.YteljmaebhjhedaaDoorWApart
import Derived.Test.YteljmaebhjhedaaDoorWFoot
import Derived.Test.YteljmaebhjhedaaDoorWN
import Derived.Test.YteljmaebhjhedaaDoorWMore
set_option linter.unusedVariables false
set_option linter.unusedSimpArgs false
namespace Go.Proofs.YteljmaebhjhedaaDoor
open Go.RowKit Go.Proofs.YteljmaebhjhedaaDoorW.PrintWords Go.Proofs.YteljmaebhjhedaaDoorW.PrintLast
structure TS where
  nodes : List Nd
  drawn : Int
def Sty (w : World) (k : Nat) : Prop := (∃ es c, w.heap[k]? = some (.map es c)) ∨ ∃ cs t f, w.heap[k]? = some (.cells cs t f) ∧ (t = 60 ∨ t = 40)
def SepB (w0 w : World) (k : Nat) : Prop := k < w0.heap.size ∨ ¬ Sty w k
theorem Sty.heap {w w' : World} {k : Nat} (h : Sty w k) (e : w'.heap[k]? = w.heap[k]?) : Sty w' k := by unfold Sty; rw [e]; exact h
theorem nsty_cells {w : World} {k : Nat} {cs : Array Value} {t : TypeId} {f : Nat × Nat} (h : w.heap[k]? = some (.cells cs t f)) (ht : t ≠ 60 ∧ t ≠ 40) : ¬ Sty w k := by
  rintro (⟨es, c, e⟩ | ⟨cs', t', f', e, ht'⟩)
  · rw [h] at e; cases e
  · rw [h] at e; cases e; rcases ht' with rfl | rfl
    · exact ht.1 rfl
    · exact ht.2 rfl
structure KeepSt (w W w0 : World) : Prop where
  sz : w.heap.size ≤ W.heap.size
  block : ∀ k, k < w.heap.size → SepB w0 w k → W.heap[k]? = w.heap[k]?
section
variable {w0 w W w1 w2 : World}
theorem KeepSt.refl (w w0 : World) : KeepSt w w w0 := ⟨Nat.le_refl _, fun _ _ _ => rfl⟩
theorem SepB.heap {k : Nat} (h : SepB w0 w k) (e : W.heap[k]? = w.heap[k]?) : SepB w0 W k := h.imp id fun hn hs => hn (hs.heap e.symm)
theorem KeepSt.trans (h : KeepSt w W w0) (k : KeepSt W w2 w0) : KeepSt w w2 w0 :=
  ⟨Nat.le_trans h.sz k.sz, fun i hi hs => (k.block i (Nat.lt_of_lt_of_le hi h.sz) (hs.heap (h.block i hi hs))).trans (h.block i hi hs)⟩
theorem KeepSt.of_below (h : Below w.heap.size w W) (w0 : World) : KeepSt w W w0 := ⟨h.size, fun i hi _ => h.block i hi⟩
theorem KeepSt.drewN (h : KeepSt w W w0) (m : Nat) : KeepSt w (W.drewN m) w0 := ⟨h.sz, h.block⟩
theorem KeepSt.drew (h : KeepSt w W w0) : KeepSt w W.drew w0 := ⟨h.sz, h.block⟩
theorem KeepSt.alloc (h : KeepSt w W w0) (o : Obj) : KeepSt w (W.alloc o) w0 := h.trans (.of_below ((Below.refl _ W).alloc (Nat.le_refl _) o) w0)
theorem KeepSt.far {p : Addr} (h : KeepSt w W w0) (hp : w.heap.size ≤ p.block) (u : Value) : KeepSt w (W.setCell p u) w0 :=
  ⟨by simpa using h.sz, fun i hi hs => (Below.heap_setCell W p u i (by omega)).trans (h.block i hi hs)⟩
theorem KeepSt.size (h : KeepSt w W w0) : w.heap.size ≤ W.heap.size := h.sz
theorem KeepSt.cell (h : KeepSt w W w0) {a : Addr} {v : Value} (hc : w.cell? a = some v) (hne : SepB w0 w a.block) : W.cell? a = some v := by
  have := h.block a.block (World.block_lt_of_cell? w a hc) hne
  simpa [World.cell?, this] using hc
def Osty : Obj → Bool
  | .cells _ t _ => t == 60 || t == 40
  | .map _ _ => true
  | _ => false
theorem nsty_obj {k : Nat} {o : Obj} (h : w.heap[k]? = some o) (ht : Osty o = false) : ¬ Sty w k := by
  rintro (⟨es, c, e⟩ | ⟨cs', t', f', e, ht'⟩) <;> rw [h] at e <;> cases e
  · simp [Osty] at ht
  · rcases ht' with rfl | rfl <;> simp [Osty] at ht
theorem KeepSt.blk (h : KeepSt w W w0) {g' : Nat} {o : Obj} (hb : w.heap[g']? = some o) {P : Prop} (_ : P) (ht : Osty o = false) : W.heap[g']? = some o :=
  (h.block g' (Array.getElem?_eq_some_iff.1 hb).1 (.inr (nsty_obj hb ht))).trans hb
def Nsty (w : World) (k : Nat) : Prop := k < w.heap.size ∧ ¬ Sty w k
theorem Nsty.of {k : Nat} {o : Obj} (h : w.heap[k]? = some o) (ht : Osty o = false) : Nsty w k := ⟨(Array.getElem?_eq_some_iff.1 h).1, nsty_obj h ht⟩
theorem Nsty.drew {k : Nat} (h : Nsty w k) : Nsty w.drew k := h
theorem Nsty.drewN {k : Nat} (h : Nsty w k) (m : Nat) : Nsty (w.drewN m) k := h
theorem Nsty.heap {k : Nat} (h : Nsty w k) (hs : w.heap.size ≤ W.heap.size) (e : W.heap[k]? = w.heap[k]?) : Nsty W k := ⟨Nat.lt_of_lt_of_le h.1 hs, fun q => h.2 (by unfold Sty at *; rw [← e]; exact q)⟩
theorem Nsty.alloc {k : Nat} (h : Nsty w k) (o : Obj) : Nsty (w.alloc o) k := h.heap (by simp) (Below.heap_alloc w o k h.1)
theorem Nsty.set {k : Nat} (h : Nsty w k) (p : Addr) (u : Value) : Nsty (w.setCell p u) k := by
  refine ⟨by simpa using h.1, ?_⟩
  by_cases hp : k = p.block
  · obtain ⟨o, ho⟩ : ∃ o, w.heap[k]? = some o := ⟨w.heap[k]'h.1, Array.getElem?_eq_getElem h.1⟩
    subst hp
    intro q
    refine h.2 ?_
    simp only [Sty, World.setCell, Array.getElem?_modify, if_true, ho, Option.map_some] at q ⊢
    cases o with
    | cells c t f =>
      simp at q ⊢
      obtain ⟨cs, t1, ⟨e1, e2⟩, e3⟩ := q
      exact ⟨c, t1, ⟨rfl, e2⟩, e3⟩
    | map es c => simp
    | _ => simp at q
  · exact fun q => h.2 (by unfold Sty at *; rw [Below.heap_setCell w p u k hp] at q; exact q)
end
end Go.Proofs.YteljmaebhjhedaaDoor
namespace Go.Proofs.YteljmaebhjhedaaDoorW.PrintWords.Kd
open Go.Proofs.YteljmaebhjhedaaDoor Go.RowKit
section
variable {α : Type} {d : Kd α} {w0 w w1 W : World} {e base : Nat} {ok : Nat → Prop} {v : Value} {xs : List α} {A : Option Addr} {n c : Nat}
theorem R_keepSt (h : d.R e w base ok v xs) (hk : KeepSt w w1 w0) (hok : ∀ k, ok k → ¬ Sty w k) : d.R e w1 base ok v xs := R_step h (fun k ho hlt => hk.block k hlt (.inr (hok k ho)))
theorem far_R (ho : d.R e W base ok (.slice A n c) xs) (ht : e ≠ 60 ∧ e ≠ 40) : ∀ ad, A = some ad → 0 < n → SepB w0 W ad.block := by
  rintro ad rfl _
  obtain ⟨inner, hown⟩ := R_own ho
  obtain ⟨cells, hc⟩ := own_typed hown ad.block (by simp [Value.ownBlock])
  exact .inr (nsty_cells hc ht)
end
end Go.Proofs.YteljmaebhjhedaaDoorW.PrintWords.Kd
namespace Go.Proofs.YteljmaebhjhedaaDoor
open Go.RowKit Go.Proofs.YteljmaebhjhedaaDoorW.PrintWords Go.Proofs.YteljmaebhjhedaaDoorW.PrintLast
def IsS60 (w0 W : World) (g : Nat) (f0 : TS) : Prop := ∃ m sl, StoreAt W ⟨g, m, sl, f0.nodes, f0.drawn⟩ ∧ ∀ k, St.own ⟨g, m, sl, f0.nodes, f0.drawn⟩ k → w0.heap.size ≤ k
namespace IsS60
abbrev Is := IsS60
section
variable {w0 W W1 w' : World} {g : Nat} {f0 : TS}
theorem own_sty {s : St} {W : World} (h : StoreAt W s) {k : Nat} (hk : s.own k) : Sty W k := by
  rcases hk with rfl | rfl | hk
  · exact .inr ⟨_, _, _, h.obj, .inl rfl⟩
  · exact .inl ⟨_, _, h.map⟩
  · obtain ⟨cells, hc⟩ := own_typed h.arr k hk
    exact .inr ⟨_, _, _, hc, .inr rfl⟩
theorem stay (h : Is w0 W g f0) (hm : ∀ k, w0.heap.size ≤ k → Sty W k → W1.heap[k]? = W.heap[k]?) : Is w0 W1 g f0 := by
  obtain ⟨m, sl, hs, hg⟩ := h
  exact ⟨m, sl, hs.keep fun k hk => hm k (hg k hk) (own_sty hs hk), hg⟩
theorem sty_lt {k : Nat} (h : Sty W k) : k < W.heap.size := by
  rcases h with ⟨_, _, e⟩ | ⟨_, _, _, e, _⟩ <;> exact (Array.getElem?_eq_some_iff.1 e).1
theorem below (h : Is w0 W g f0) (hw : Below W.heap.size W W1) : Is w0 W1 g f0 := h.stay fun k _ hs => hw.block k (sty_lt hs)
theorem alloc (h : Is w0 W g f0) (o : Obj) : Is w0 (W.alloc o) g f0 := h.below (below_alloc (Below.refl _ _) o)
theorem drewN (h : Is w0 W g f0) (m : Nat) : Is w0 (W.drewN m) g f0 := h.stay fun _ _ _ => rfl
theorem drew (h : Is w0 W g f0) : Is w0 W.drew g f0 := h.stay fun _ _ _ => rfl
theorem at_ {m : Nat} (hq : W.drewN m = w') (h : Is w0 W g f0) : Is w0 w' g f0 := by subst hq; exact h.drewN m
theorem lt (h : Is w0 W g f0) : g < W.heap.size := by obtain ⟨m, sl, hs, _⟩ := h; exact hs.p_lt
theorem ge (h : Is w0 W g f0) : w0.heap.size ≤ g := by obtain ⟨m, sl, hs, hg⟩ := h; exact hg g (.inl rfl)
theorem far {p : Addr} (h : Is w0 W g f0) (hne : Nsty W p.block) (u : Value) : Is w0 (W.setCell p u) g f0 := h.stay fun k _ hs => Below.heap_setCell W p u k (by rintro rfl; exact hne.2 hs)
theorem ne_blk {a : Nat} {cs : Array Value} {t : TypeId} {fr : Nat × Nat} (h : Is w0 W g f0) (hb2 : W.heap[a]? = some (.cells cs t fr)) (ht : t ≠ 60) : g ≠ a := by
  obtain ⟨m, sl, hs, _⟩ := h
  rintro rfl
  have hb := hs.obj
  rw [hb2] at hb
  cases hb
  exact ht rfl
theorem apart {α : Type} {d : Kd α} {e : Nat} {base : Nat} {ok : Nat → Prop} {v : Value} {xs : List α} (h : Is w0 W g f0) (ho : d.R e W base ok v xs) (ht : ∀ q, q ∈ e :: d.E → q ≠ 60 ∧ q ≠ 40) : d.R e W base (fun k => ok k ∧ ¬ Sty W k) v xs :=
  Kd.R_mono (Kd.R_bound ho) (fun k hk => ⟨hk.1, by
    obtain ⟨_, _, _, q, hq, cells, hc⟩ := hk
    exact nsty_cells hc (ht q hq)⟩)
theorem own_ne {α : Type} {d : Kd α} {e : Nat} {base : Nat} {ok : Nat → Prop} {v : Value} {xs : List α} (h : Is w0 W g f0) (ho : d.R e W base ok v xs) (ht : e ≠ 60 ∧ e ≠ 40) : ∀ k, v.ownBlock = some k → ¬ Sty W k := fun k hk => by
  obtain ⟨inner, hown⟩ := Kd.R_own ho
  obtain ⟨cells, hc⟩ := own_typed hown k hk
  exact nsty_cells hc ht
theorem next {s : St} {w w' : World} {l : List Nd} {d : Int} (h : StoreAt w s) (hg : ∀ k, s.own k → w0.heap.size ≤ k) (hB : Below w0.heap.size w0 w) (hn : Next s w l d w') :
    Is w0 w' s.p ⟨l, d⟩ ∧ Below w0.heap.size w0 w' ∧ KeepSt w w' w0 := by
  obtain ⟨m', sl', h1, h2, h3⟩ := hn.get
  refine ⟨⟨m', sl', h1, fun k hk => ?_⟩, hB.trans ⟨h3.os, h3.tape, h3.output, h3.size, fun k hk => h3.block k (Nat.lt_of_lt_of_le hk hB.size) (fun ho => by have := hg k ho; omega)⟩, ⟨h3.size, fun k hk hs => h3.block k hk (fun ho => ?_)⟩⟩
  · rcases h2 k hk with h | h
    · exact hg k h
    · exact Nat.le_trans hB.size h
  · rcases hs with hs | hs
    · have := hg k ho; omega
    · exact hs (own_sty h ho)
end
end IsS60
end Go.Proofs.YteljmaebhjhedaaDoor
