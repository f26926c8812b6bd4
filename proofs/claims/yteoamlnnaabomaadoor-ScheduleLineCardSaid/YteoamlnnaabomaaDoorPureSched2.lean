/- An epoch's secrets, plainly. -/
import Derived.Test.YteoamlnnaabomaaDoorPureSched
set_option linter.unusedVariables false
set_option linter.unusedSimpArgs false
namespace Go.Proofs.YteoamlnnaabomaaDoor.Pure
open Go.RowKit Go.Proofs.YteoamlnnaabomaaDoor Go.Proofs.YteoamlnnaabomaaDoor.PSc Go.Proofs.YteoamlnnaabomaaDoorW.PrintWords

/-- The secrets of an epoch in a store: what each stands for. m, w, x: member, welcome, secret; v: the others. -/
structure Ep (s : TS) (j sh c m w x : Int) (v : Nat → Int) (e : Int) : Prop where
  none : Has s e ⟨2, ⟨#[]⟩, 0, 0⟩
  member : Has s m ⟨5, ⟨#[109, 101, 109, 98, 101, 114]⟩, j, sh⟩
  welcome : Has s w ⟨5, ⟨#[119, 101, 108, 99, 111, 109, 101]⟩, m, e⟩
  secret : Has s x ⟨5, ⟨#[101, 112, 111, 99, 104]⟩, m, c⟩
  each : ∀ i, i < 9 → Has s (v i) ⟨5, jl i, x, e⟩
theorem Ep.grow {s s' : TS} {k : Nat} {j sh c m w x e : Int} {v : Nat → Int} (h : Ep s j sh c m w x v e) (g : Grow s s' k) : Ep s' j sh c m w x v e :=
  ⟨g.has h.none, g.has h.member, g.has h.welcome, g.has h.secret, fun i hi => g.has (h.each i hi)⟩
theorem jl_size (i : Nat) : (jl i).size ≤ 32 := by
  unfold jl jlab
  rcases Nat.lt_or_ge i 9 with h | h
  · obtain rfl | rfl | rfl | rfl | rfl | rfl | rfl | rfl | rfl : i = 0 ∨ i = 1 ∨ i = 2 ∨ i = 3 ∨ i = 4 ∨ i = 5 ∨ i = 6 ∨ i = 7 ∨ i = 8 := by omega
    all_goals decide
  · rw [List.getD_eq_getElem?_getD, List.getElem?_eq_none (by simpa using h)]; decide
theorem jS_ok {s : TS} {x e : Int} (hg : Good s) (hx : knownB s.nodes.length x = true) (he : knownB s.nodes.length e = true) (hl : s.nodes.length < 262000) : ∀ j, j ≤ 9 → Grow s (jS s x e j) j ∧ ∀ i, i < j → Has (jS s x e j) (jV s x e i) ⟨5, jl i, x, e⟩
  | 0, _ => ⟨.refl hg, fun i hi => absurd hi (Nat.not_lt_zero _)⟩
  | j + 1, hj => by
    obtain ⟨g, h⟩ := jS_ok hg hx he hl j (by omega)
    obtain ⟨g1, h1⟩ := kdf_ok g.good (jl j) x e (jl_size j) (g.known hx) (g.known he) (by have := g.len; omega)
    refine ⟨g.trans g1, fun i hi => ?_⟩
    rcases Nat.lt_or_ge i j with q | q
    · exact g1.has (h i q)
    · obtain rfl : i = j := by omega
      exact h1
/-- What Join answers. -/
theorem join_ok {s : TS} {j sh c : Int} (hg : Good s) (hj : knownB s.nodes.length j = true) (hs : knownB s.nodes.length sh = true) (hc : knownB s.nodes.length c = true) (hl : s.nodes.length < 200000) :
    ∃ (m w x : Int) (v : Nat → Int) (e : Int) (s' : TS), schedule_Join.f s j sh c = some (j, m, w, x, v 0, v 1, v 2, v 3, v 4, v 5, v 6, v 7, v 8, s') ∧ Grow s s' 13 ∧ Ep s' j sh c m w x v e := by
  obtain ⟨g1, h1⟩ := text_ok hg ⟨#[]⟩ (by decide) (by omega)
  obtain ⟨g2, h2⟩ := kdf_ok g1.good ⟨#[109, 101, 109, 98, 101, 114]⟩ j sh (by decide) (g1.known hj) (g1.known hs) (by have := g1.len; omega)
  have k2 := g1.trans g2
  obtain ⟨g3, h3⟩ := kdf_ok g2.good ⟨#[119, 101, 108, 99, 111, 109, 101]⟩ _ _ (by decide) h2.1 (g2.known h1.1) (by have := k2.len; omega)
  have k3 := k2.trans g3
  obtain ⟨g4, h4⟩ := kdf_ok g3.good ⟨#[101, 112, 111, 99, 104]⟩ _ c (by decide) (g3.known h2.1) (k3.known hc) (by have := k3.len; omega)
  have k4 := k3.trans g4
  obtain ⟨g5, h5⟩ := jS_ok (x := (jE s j sh c).1) (e := (jA s).1) g4.good h4.1 (g4.known (g3.known (g2.known h1.1))) (by have := k4.len; omega) 9 (Nat.le_refl _)
  exact ⟨_, _, _, jV (jE s j sh c).2 (jE s j sh c).1 (jA s).1, _, _, rfl, k4.trans g5, ⟨g5.has (g4.has (g3.has (g2.has h1))), g5.has (g4.has (g3.has h2)), g5.has (g4.has h3), g5.has h4, h5⟩⟩
/-- What Next answers. -/
theorem next_ok {s : TS} {a b sh c : Int} (hg : Good s) (ha : knownB s.nodes.length a = true) (hb : knownB s.nodes.length b = true) (hs : knownB s.nodes.length sh = true) (hc : knownB s.nodes.length c = true) (hl : s.nodes.length < 100000) :
    ∃ (j m w x : Int) (v : Nat → Int) (e : Int) (s' : TS), schedule_Next.f s a b sh c = some (j, m, w, x, v 0, v 1, v 2, v 3, v 4, v 5, v 6, v 7, v 8, s') ∧ Grow s s' 14 ∧ Has s' j ⟨5, ⟨#[106, 111, 105, 110, 101, 114]⟩, a, b⟩ ∧ Ep s' j sh c m w x v e := by
  obtain ⟨g1, h1⟩ := kdf_ok hg ⟨#[106, 111, 105, 110, 101, 114]⟩ a b (by decide) ha hb (by omega)
  obtain ⟨m, w, x, v, e, s', hj, g2, h2⟩ := join_ok g1.good h1.1 (g1.known hs) (g1.known hc) (by have := g1.len; omega)
  refine ⟨_, m, w, x, v, e, s', ?_, g1.trans g2, g2.has h1, h2⟩
  unfold schedule_Next.f term_Store_Kdf.f
  rw [Option.bind_some, hj, Option.bind_some]
/-- All secrets of one epoch are unlike. -/
theorem jl_inj : ∀ i j, i < 9 → j < 9 → jl i = jl j → i = j := by
  have : ∀ i j : Fin 9, jl i = jl j → i = j := by decide +kernel
  intro i j hi hj h
  have := this ⟨i, hi⟩ ⟨j, hj⟩ h
  exact Fin.mk.inj this
/-- The list that 'all' tells. -/
def allL (j m w x : Int) (v : Nat → Int) : List Int := [j, m, w, x, v 0, v 1, v 2, v 3, v 4, v 5, v 6, v 7, v 8]
def labs : List ByteArray := [⟨#[106, 111, 105, 110, 101, 114]⟩, ⟨#[109, 101, 109, 98, 101, 114]⟩, ⟨#[119, 101, 108, 99, 111, 109, 101]⟩, ⟨#[101, 112, 111, 99, 104]⟩, jl 0, jl 1, jl 2, jl 3, jl 4, jl 5, jl 6, jl 7, jl 8]
theorem labs_inj : ∀ i j : Fin 13, labs[i]'i.2 = labs[j]'j.2 → i = j := by decide +kernel
/-- The k-th secret is a derivation under the k-th label. -/
theorem all_has {s : TS} {a b sh c j m w x e : Int} {v : Nat → Int} (hj : Has s j ⟨5, ⟨#[106, 111, 105, 110, 101, 114]⟩, a, b⟩) (h : Ep s j sh c m w x v e) (k : Nat) (hk : k < 13) :
    Has s ((allL j m w x v)[k]'hk) ⟨5, labs[k]'hk, [a, j, m, m, x, x, x, x, x, x, x, x, x][k]'hk, [b, sh, e, c, e, e, e, e, e, e, e, e, e][k]'hk⟩ := by
  obtain rfl | rfl | rfl | rfl | rfl | rfl | rfl | rfl | rfl | rfl | rfl | rfl | rfl : k = 0 ∨ k = 1 ∨ k = 2 ∨ k = 3 ∨ k = 4 ∨ k = 5 ∨ k = 6 ∨ k = 7 ∨ k = 8 ∨ k = 9 ∨ k = 10 ∨ k = 11 ∨ k = 12 := by omega
  · exact hj
  · exact h.member
  · exact h.welcome
  · exact h.secret
  · exact h.each 0 (by decide)
  · exact h.each 1 (by decide)
  · exact h.each 2 (by decide)
  · exact h.each 3 (by decide)
  · exact h.each 4 (by decide)
  · exact h.each 5 (by decide)
  · exact h.each 6 (by decide)
  · exact h.each 7 (by decide)
  · exact h.each 8 (by decide)
theorem all_apart {s : TS} (hg : Good s) {a b sh c j m w x e : Int} {v : Nat → Int} (hj : Has s j ⟨5, ⟨#[106, 111, 105, 110, 101, 114]⟩, a, b⟩) (h : Ep s j sh c m w x v e) {i k : Nat} (hi : i < 13) (hk : k < 13) (he : (allL j m w x v)[i]'hi = (allL j m w x v)[k]'hk) : i = k := by
  have h1 := all_has hj h i hi
  have h2 := all_has hj h k hk
  rw [he] at h1
  have := congrArg Nd.label (h1.node h2)
  exact Fin.mk.inj (labs_inj ⟨i, hi⟩ ⟨k, hk⟩ this)
end Go.Proofs.YteoamlnnaabomaaDoor.Pure
