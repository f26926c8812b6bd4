/- Rows of vertices, as they come in. -/
import Derived.Test.YtbblomnhobodkaaDoorPTvx11
import Derived.Deep.Slices
import Derived.Deep.Fields
import Derived.ChangeSame
import Derived.DataShut
set_option linter.unusedVariables false
set_option linter.unusedSimpArgs false
namespace Go.Proofs.YtbblomnhobodkaaDoor
open Go.ChangeShapes Go.WideShapes Go.Deep Go.RowKit Go.Proofs.YtbblomnhobodkaaDoorW.PrintWords Go.Proofs.YtbblomnhobodkaaDoor.PTv
section
variable {H : Type} {enc : TypeId × Value → H} {P : Program} {w : World} {base : Nat} {spare : Nat → Bool} {held : Bool}
theorem open_slice_fields {t e : TypeId} {fs : Array Field} {fuel : Nat} {cs : List Value} {x : DataW H × List MemPlace} (ht : P.underlying t = some (.slice e)) (he : P.underlying e = some (.struct fs))
    (hone : oneCellFields P fs = true) (hC : P.cellsOf e = fs.size) (h : DataW.trod enc P w base spare held fuel t cs = some x) :
    (cs = [.slice none 0 0] ∧ x = (.nil, [])) ∨
    ∃ (a : Addr) (len cap m : Nat) (D : Nat → DataW H) (Pl : Nat → List MemPlace), cs = [.slice (some a) len cap] ∧ base ≤ a.block ∧ len ≤ cap ∧ cap ≤ maxLen ∧ m = (if spare a.block then cap else len) ∧
      x = (.slice ((List.range len).map D) ((List.range (m - len)).map fun j => D (len + j)), MemPlace.row a (m * fs.size) ++ (List.range m).flatMap Pl) ∧
      ∀ i, i < m → ∃ (ys : List (DataW H × List MemPlace)) (n : Nat), D i = .agg (ys.map (·.1)) ∧ Pl i = ys.flatMap (·.2) ∧ ys.length = fs.size ∧
        ∀ (j : Nat) (f : Field), fs[j]? = some f → ∃ (v : Value) (y : DataW H × List MemPlace), w.cell? (a.add (i * fs.size + j)) = some v ∧ ys[j]? = some y ∧ DataW.trod enc P w base spare held n f.type [v] = some y := by
  rcases open_slice ht h with h0 | ⟨a, len, cap, m, n, D, Pl, hcs, hb, hl, hm, hmm, hx, hi⟩
  · exact .inl h0
  · refine .inr ⟨a, len, cap, m, D, Pl, hcs, hb, hl, hm, hmm, by rw [hC] at hx; exact hx, fun i him => ?_⟩
    obtain ⟨cs', hc, ht'⟩ := hi i him
    rw [hC] at hc
    obtain ⟨ys, n', hn', hy, hlen, hyl, hf⟩ := DataW.trod_struct he ht'
    obtain ⟨_, hcl, hat⟩ := World.cells?_some hc
    simp only [Prod.mk.injEq] at hy
    refine ⟨ys, n', hy.1, hy.2, hyl, fun j f hj => ?_⟩
    obtain ⟨ho, hk⟩ := hone_of hone j f hj
    have hjl : j < fs.size := (Array.getElem?_eq_some_iff.1 hj).1
    have hcell := hat j hjl
    have hv : cs'[j]? = some (cs'[j]'(by omega)) := List.getElem?_eq_getElem (by omega)
    have h1 := hf j f hj
    rw [ho, hk] at h1
    have hone' : (cs'.drop j).take 1 = [cs'[j]'(by omega)] := by
      rw [List.drop_eq_getElem_cons (by omega)]
      rfl
    rw [hone'] at h1
    have hys : ys[j]? = some (ys[j]'(by omega)) := List.getElem?_eq_getElem (by omega)
    refine ⟨_, _, ?_, hys, h1.trans hys⟩
    rw [← Go.Deep.add_add, hcell, hv]
end

section
variable {H : Type} {enc : TypeId × Value → H} {W : World}
theorem inner_ints {n : Nat} {v : Value} {y : DataW H × List MemPlace} (h : DataW.trod enc Tryd.prog W 0 (fun _ => true) true n 27 [v] = some y) :
    ∃ (A : Option Addr) (c : Nat) (l : List Int), v = .slice A l.length c ∧ l.length ≤ c ∧ (Kd.int .i64).C W A l.length l ∧ l.length ≤ maxLen ∧ ∀ x ∈ l, (Lit.int .i64 x).wf = true := by
  obtain ⟨A, L, c, zs, rfl, hw⟩ : ∃ A L c zs, v = .slice A L c ∧ ((A = none ∧ L = 0 ∧ c = 0 ∧ zs = []) ∨ ∃ x, A = some x ∧ L ≤ c ∧ c ≤ maxLen ∧ zs.length = c ∧ (∀ i, i < zs.length → W.cell? (x.add i) = some (.int .i64 (zs.getD i 0))) ∧ ∀ n ∈ zs, (Lit.int .i64 n).wf = true) := by
    rcases open_ints Tryd.underlying27 Tryd.underlying3 (by kernel_rfl) h with ⟨hcs, _⟩ | ⟨x, l, c, zs, hcs, _, hl, hm, hz, _, hcell, hwz⟩
    · simp at hcs
      exact ⟨none, 0, 0, [], hcs, .inl ⟨rfl, rfl, rfl, rfl⟩⟩
    · simp at hcs
      exact ⟨some x, l, c, zs, hcs, .inr ⟨_, rfl, hl, hm, by simpa using hz, hcell, hwz⟩⟩
  obtain ⟨l, rfl, h1, h2, h3, h4⟩ := ReadsInt.ofRowC hw
  exact ⟨A, c, l, rfl, h4, Kd.C_of_reads (d := (0 : Int)) (h1 := fun _ => rfl) h1, h2, h3⟩
theorem open_vertices {fuel : Nat} {A : Option Addr} {len cap : Nat} {x : DataW H × List MemPlace} (h : DataW.trod enc Tryd.prog W 0 (fun _ => true) true fuel 22 (Value.cells (.slice A len cap)).toList = some x) :
    ∃ z : List S29, len = z.length ∧ Kd.C k29 W A z.length z ∧ WfV z ∧ z.length ≤ cap := by
  rcases open_slice_fields Tryd.underlying22 Tryd.underlying29 (by kernel_rfl) (by kernel_rfl) h with ⟨hcs, _⟩ | ⟨a, l, c, m, D, Pl, hcs, _, hl, hm, hmm, _, hi⟩
  · simp [Value.cells] at hcs
    obtain ⟨rfl, rfl, rfl⟩ := hcs
    exact ⟨[], rfl, Kd.C_nil _ _, ⟨by simp, fun v hv => by cases hv⟩, by simp⟩
  · simp [Value.cells] at hcs
    obtain ⟨rfl, rfl, rfl⟩ := hcs
    simp only [if_true] at hmm
    subst hmm
    have each : ∀ i, i < len → ∃ (v : S29) (cs : List Value), cs.length = 6 ∧ k29.K W v cs ∧ (∀ j u, cs[j]? = some u → W.cell? (a.add (i * 6 + j)) = some u) ∧
        (Lit.int .i64 v.f1).wf = true ∧ (Lit.int .i64 v.f2).wf = true ∧ (Lit.int .i64 v.f3).wf = true ∧ (Lit.int .i64 v.f4).wf = true ∧ v.f5.length ≤ maxLen ∧ ∀ x ∈ v.f5, (Lit.int .i64 x).wf = true := by
      intro i hil
      obtain ⟨ys, n, _, _, _, hf⟩ := hi i (by omega)
      obtain ⟨v0, y0, c0, _, t0⟩ := hf 0 _ rfl
      obtain ⟨v1, y1, c1, _, t1⟩ := hf 1 _ rfl
      obtain ⟨v2, y2, c2, _, t2⟩ := hf 2 _ rfl
      obtain ⟨v3, y3, c3, _, t3⟩ := hf 3 _ rfl
      obtain ⟨v4, y4, c4, _, t4⟩ := hf 4 _ rfl
      obtain ⟨v5, y5, c5, _, t5⟩ := hf 5 _ rfl
      obtain ⟨b, hb, _⟩ := DataW.trod_bool Tryd.underlying4 t0
      obtain ⟨n1, h1, _, w1⟩ := DataW.trod_int Tryd.underlying3 t1
      obtain ⟨n2, h2, _, w2⟩ := DataW.trod_int Tryd.underlying3 t2
      obtain ⟨n3, h3, _, w3⟩ := DataW.trod_int Tryd.underlying3 t3
      obtain ⟨n4, h4, _, w4⟩ := DataW.trod_int Tryd.underlying3 t4
      obtain ⟨A5, k5, l5, rfl, hle, hc5, hm5, hw5⟩ := inner_ints t5
      simp at hb h1 h2 h3 h4
      subst hb h1 h2 h3 h4
      refine ⟨⟨b, n1, n2, n3, n4, l5⟩, [.bool b, .int .i64 n1, .int .i64 n2, .int .i64 n3, .int .i64 n4, .slice A5 l5.length k5], rfl, k29_mk W ⟨b, n1, n2, n3, n4, l5⟩ hle hc5, fun j u hu => ?_, w1, w2, w3, w4, hm5, hw5⟩
      match j, hu with
      | 0, hu => cases hu; exact c0
      | 1, hu => cases hu; exact c1
      | 2, hu => cases hu; exact c2
      | 3, hu => cases hu; exact c3
      | 4, hu => cases hu; exact c4
      | 5, hu => cases hu; exact c5
      | j + 6, hu => simp at hu
    let f : Nat → S29 := fun i => if h : i < len then (each i h).choose else z29
    have hf : ∀ i (h : i < len), f i = (each i h).choose := fun i h => by simp only [f, h, dif_pos]
    have hmax : len ≤ 9223372036854775807 := by unfold maxLen at hm; omega
    refine ⟨(List.range len).map f, by simp, ⟨by simp, by simpa using hmax, fun hn => ⟨a, rfl, fun j p hj => ?_⟩⟩, ⟨by simpa using hmax, fun v hv => ?_⟩, by simpa using hl⟩
    · rw [List.getElem?_map] at hj
      have hjl : j < len := by
        rcases Nat.lt_or_ge j len with h | h
        · exact h
        · rw [List.getElem?_eq_none (by simpa using h)] at hj; cases hj
      rw [List.getElem?_range hjl, Option.map_some] at hj
      cases hj
      rw [hf j hjl]
      obtain ⟨cs, q1, q2, q3, _⟩ := (each j hjl).choose_spec
      exact ⟨cs, q1, q2, fun i u hu => q3 i u hu⟩
    · rw [List.mem_map] at hv
      obtain ⟨j, hj, rfl⟩ := hv
      have hjl : j < len := List.mem_range.1 hj
      rw [hf j hjl]
      obtain ⟨cs, _, _, _, q⟩ := (each j hjl).choose_spec
      exact q
end
end Go.Proofs.YtbblomnhobodkaaDoor
