/- What this claim reaches of a longer text of this session. -/
import Derived.Test.YtbblomnhobodkaaDoorRowG
import Derived.Test.YtbblomnhobodkaaDoorPTwx24
set_option linter.unusedVariables false
set_option linter.unusedSimpArgs false
namespace Go.Proofs.YtbblomnhobodkaaDoor
open Go.ChangeShapes Go.WideShapes Go.Deep Go.RowKit Go.Proofs.YtbblomnhobodkaaDoorW.PrintWords Go.Proofs.YtbblomnhobodkaaDoor.PTw
def WfX (v : S29) : Prop := (Lit.int .i64 v.f1).wf = true ∧ (Lit.int .i64 v.f2).wf = true ∧ (Lit.int .i64 v.f3).wf = true ∧ (Lit.int .i64 v.f4).wf = true ∧ v.f5.length ≤ maxLen ∧ ∀ x ∈ v.f5, (Lit.int .i64 x).wf = true
theorem nine {α : Type} : ∀ (l : List α), l.length = 9 → ∃ a b c d e f g h i, l = [a, b, c, d, e, f, g, h, i]
  | [a, b, c, d, e, f, g, h, i], _ => ⟨a, b, c, d, e, f, g, h, i, rfl⟩
section
variable {H : Type} {enc : TypeId × Value → H} {W : World}
theorem some_at {α β : Type} {ys : List β} {j : Nat} {o : Option β} (h : o = ys[j]?) (hj : j < ys.length) : ∃ y, o = some y := ⟨_, h.trans (List.getElem?_eq_getElem hj)⟩
theorem vertex_cells {n : Nat} {c0 c1 c2 c3 c4 c5 : Value} {y : DataW H × List MemPlace} (h : DataW.trod enc Tryd.prog W 0 (fun _ => true) true n 29 [c0, c1, c2, c3, c4, c5] = some y) :
    ∃ v : S29, k29.K W v [c0, c1, c2, c3, c4, c5] ∧ WfX v := by
  obtain ⟨ys, n', _, _, _, hyl, hf⟩ := DataW.trod_struct Tryd.underlying29 h
  have e3 : Tryd.prog.cellsOf 3 = 1 := by kernel_rfl
  have e4 : Tryd.prog.cellsOf 4 = 1 := by kernel_rfl
  have eI : Tryd.prog.cellsOf 27 = 1 := by kernel_rfl
  have u0 : DataW.trod enc Tryd.prog W 0 (fun _ => true) true n' 4 [c0] = ys[0]? := by
    have h_ : DataW.trod enc Tryd.prog W 0 (fun _ => true) true n' 4 (([c0, c1, c2, c3, c4, c5].drop 0).take (Tryd.prog.cellsOf 4)) = ys[0]? := hf 0 _ rfl
    rw [e4] at h_
    exact h_
  have u1 : DataW.trod enc Tryd.prog W 0 (fun _ => true) true n' 3 [c1] = ys[1]? := by
    have h_ : DataW.trod enc Tryd.prog W 0 (fun _ => true) true n' 3 (([c0, c1, c2, c3, c4, c5].drop 1).take (Tryd.prog.cellsOf 3)) = ys[1]? := hf 1 _ rfl
    rw [e3] at h_
    exact h_
  have u2 : DataW.trod enc Tryd.prog W 0 (fun _ => true) true n' 3 [c2] = ys[2]? := by
    have h_ : DataW.trod enc Tryd.prog W 0 (fun _ => true) true n' 3 (([c0, c1, c2, c3, c4, c5].drop 2).take (Tryd.prog.cellsOf 3)) = ys[2]? := hf 2 _ rfl
    rw [e3] at h_
    exact h_
  have u3 : DataW.trod enc Tryd.prog W 0 (fun _ => true) true n' 3 [c3] = ys[3]? := by
    have h_ : DataW.trod enc Tryd.prog W 0 (fun _ => true) true n' 3 (([c0, c1, c2, c3, c4, c5].drop 3).take (Tryd.prog.cellsOf 3)) = ys[3]? := hf 3 _ rfl
    rw [e3] at h_
    exact h_
  have u4 : DataW.trod enc Tryd.prog W 0 (fun _ => true) true n' 3 [c4] = ys[4]? := by
    have h_ : DataW.trod enc Tryd.prog W 0 (fun _ => true) true n' 3 (([c0, c1, c2, c3, c4, c5].drop 4).take (Tryd.prog.cellsOf 3)) = ys[4]? := hf 4 _ rfl
    rw [e3] at h_
    exact h_
  have u5 : DataW.trod enc Tryd.prog W 0 (fun _ => true) true n' 27 [c5] = ys[5]? := by
    have h_ : DataW.trod enc Tryd.prog W 0 (fun _ => true) true n' 27 (([c0, c1, c2, c3, c4, c5].drop 5).take (Tryd.prog.cellsOf 27)) = ys[5]? := hf 5 _ rfl
    rw [eI] at h_
    exact h_
  have hy : ys.length = 6 := hyl
  obtain ⟨y0, t0⟩ := some_at (α := Nat) u0 (by omega)
  obtain ⟨y1, t1⟩ := some_at (α := Nat) u1 (by omega)
  obtain ⟨y2, t2⟩ := some_at (α := Nat) u2 (by omega)
  obtain ⟨y3, t3⟩ := some_at (α := Nat) u3 (by omega)
  obtain ⟨y4, t4⟩ := some_at (α := Nat) u4 (by omega)
  obtain ⟨y5, t5⟩ := some_at (α := Nat) u5 (by omega)
  obtain ⟨b, hb, _⟩ := DataW.trod_bool Tryd.underlying4 t0
  obtain ⟨n1, h1, _, w1⟩ := DataW.trod_int Tryd.underlying3 t1
  obtain ⟨n2, h2, _, w2⟩ := DataW.trod_int Tryd.underlying3 t2
  obtain ⟨n3, h3, _, w3⟩ := DataW.trod_int Tryd.underlying3 t3
  obtain ⟨n4, h4, _, w4⟩ := DataW.trod_int Tryd.underlying3 t4
  obtain ⟨A5, k5, l5, rfl, hle, hc5, hm5, hw5⟩ := inner_ints t5
  simp at hb h1 h2 h3 h4
  subst hb h1 h2 h3 h4
  exact ⟨⟨b, n1, n2, n3, n4, l5⟩, k29_mk W ⟨b, n1, n2, n3, n4, l5⟩ hle hc5, w1, w2, w3, w4, hm5, hw5⟩
theorem op_cells {n : Nat} {cs : List Value} {y : DataW H × List MemPlace} (hl : cs.length = 9) (h : DataW.trod enc Tryd.prog W 0 (fun _ => true) true n 32 cs = some y) :
    ∃ o : S32, k32.K W o cs ∧ WfOp o := by
  obtain ⟨c0, c1, c2, c3, c4, c5, c6, c7, c8, rfl⟩ := nine cs hl
  obtain ⟨ys, n', _, _, _, hyl, hf⟩ := DataW.trod_struct Tryd.underlying32 h
  have e3 : Tryd.prog.cellsOf 3 = 1 := by kernel_rfl
  have eV : Tryd.prog.cellsOf 29 = 6 := by kernel_rfl
  have u0 : DataW.trod enc Tryd.prog W 0 (fun _ => true) true n' 3 [c0] = ys[0]? := by
    have h_ : DataW.trod enc Tryd.prog W 0 (fun _ => true) true n' 3 (([c0, c1, c2, c3, c4, c5, c6, c7, c8].drop 0).take (Tryd.prog.cellsOf 3)) = ys[0]? := hf 0 _ rfl
    rw [e3] at h_
    exact h_
  have u1 : DataW.trod enc Tryd.prog W 0 (fun _ => true) true n' 3 [c1] = ys[1]? := by
    have h_ : DataW.trod enc Tryd.prog W 0 (fun _ => true) true n' 3 (([c0, c1, c2, c3, c4, c5, c6, c7, c8].drop 1).take (Tryd.prog.cellsOf 3)) = ys[1]? := hf 1 _ rfl
    rw [e3] at h_
    exact h_
  have u2 : DataW.trod enc Tryd.prog W 0 (fun _ => true) true n' 29 [c2, c3, c4, c5, c6, c7] = ys[2]? := by
    have h_ : DataW.trod enc Tryd.prog W 0 (fun _ => true) true n' 29 (([c0, c1, c2, c3, c4, c5, c6, c7, c8].drop 2).take (Tryd.prog.cellsOf 29)) = ys[2]? := hf 2 _ rfl
    rw [eV] at h_
    exact h_
  have u3 : DataW.trod enc Tryd.prog W 0 (fun _ => true) true n' 3 [c8] = ys[3]? := by
    have h_ : DataW.trod enc Tryd.prog W 0 (fun _ => true) true n' 3 (([c0, c1, c2, c3, c4, c5, c6, c7, c8].drop 8).take (Tryd.prog.cellsOf 3)) = ys[3]? := hf 3 _ rfl
    rw [e3] at h_
    exact h_
  have hy : ys.length = 4 := hyl
  obtain ⟨y0, t0⟩ := some_at (α := Nat) u0 (by omega)
  obtain ⟨y1, t1⟩ := some_at (α := Nat) u1 (by omega)
  obtain ⟨y2, t2⟩ := some_at (α := Nat) u2 (by omega)
  obtain ⟨y3, t3⟩ := some_at (α := Nat) u3 (by omega)
  obtain ⟨n0, h0, _, w0⟩ := DataW.trod_int Tryd.underlying3 t0
  obtain ⟨n1, h1, _, w1⟩ := DataW.trod_int Tryd.underlying3 t1
  obtain ⟨v, hK, hv⟩ := vertex_cells t2
  obtain ⟨n8, h8, _, w8⟩ := DataW.trod_int Tryd.underlying3 t3
  simp at h0 h1 h8
  subst h0 h1 h8
  refine ⟨⟨n0, n1, v, n8⟩, ⟨[.int .i64 n0], [.int .i64 n1, c2, c3, c4, c5, c6, c7, .int .i64 n8], rfl, rfl, ⟨[.int .i64 n1], [c2, c3, c4, c5, c6, c7, .int .i64 n8], rfl, rfl, ⟨[c2, c3, c4, c5, c6, c7], [.int .i64 n8], rfl, hK, rfl⟩⟩⟩, ⟨w0, w1, hv.1, hv.2.1, hv.2.2.1, hv.2.2.2.1, w8, hv.2.2.2.2⟩⟩
theorem open_ops {fuel : Nat} {A : Option Addr} {len cap : Nat} {x : DataW H × List MemPlace} (h : DataW.trod enc Tryd.prog W 0 (fun _ => true) true fuel 30 (Value.cells (.slice A len cap)).toList = some x) :
    ∃ z : List S32, len = z.length ∧ Kd.C k32 W A z.length z ∧ (∀ o ∈ z, WfOp o) ∧ z.length ≤ cap := by
  have eO : Tryd.prog.cellsOf 32 = 9 := by kernel_rfl
  rcases open_slice (show Tryd.prog.underlying 30 = some (.slice 32) by kernel_rfl) h with ⟨hcs, _⟩ | ⟨a, l, c, m, n, D, Pl, hcs, _, hl, hm, hmm, _, hi⟩
  · simp [Value.cells] at hcs
    obtain ⟨rfl, rfl, rfl⟩ := hcs
    exact ⟨[], rfl, Kd.C_nil _ _, (fun o ho => by cases ho), by simp⟩
  · simp [Value.cells] at hcs
    obtain ⟨rfl, rfl, rfl⟩ := hcs
    simp only [if_true] at hmm
    subst hmm
    have each : ∀ i, i < len → ∃ (o : S32) (cs : List Value), cs.length = 9 ∧ k32.K W o cs ∧ (∀ j u, cs[j]? = some u → W.cell? (a.add (i * 9 + j)) = some u) ∧ WfOp o := by
      intro i hil
      obtain ⟨cs', hc, ht'⟩ := hi i (by omega)
      rw [eO] at hc
      obtain ⟨_, hcl, hat⟩ := World.cells?_some hc
      obtain ⟨o, hK, hw⟩ := op_cells hcl ht'
      refine ⟨o, cs', hcl, hK, fun j u hu => ?_, hw⟩
      have hj : j < 9 := by
        rcases Nat.lt_or_ge j 9 with hh | hh
        · exact hh
        · rw [List.getElem?_eq_none (by omega)] at hu; cases hu
      rw [← Go.Deep.add_add, hat j (by omega), hu]
    let f : Nat → S32 := fun i => if h : i < len then (each i h).choose else z32
    have hf : ∀ i (h : i < len), f i = (each i h).choose := fun i h => by simp only [f, h, dif_pos]
    have hmax : len ≤ 9223372036854775807 := by unfold maxLen at hm; omega
    refine ⟨(List.range len).map f, by simp, ⟨by simp, by simpa using hmax, fun hn => ⟨a, rfl, fun j p hj => ?_⟩⟩, fun v hv => ?_, by simpa using hl⟩
    · rw [List.getElem?_map] at hj
      have hjl : j < len := by
        rcases Nat.lt_or_ge j len with h | h
        · exact h
        · rw [List.getElem?_eq_none (by simpa using h)] at hj; cases hj
      rw [List.getElem?_range hjl, Option.map_some] at hj
      cases hj
      rw [hf j hjl]
      obtain ⟨cs, q1, q2, q3, _⟩ := (each j hjl).choose_spec
      exact ⟨cs, q1, q2, fun i u hu => q3 i u hu⟩
    · rw [List.mem_map] at hv
      obtain ⟨j, hj, rfl⟩ := hv
      have hjl : j < len := List.mem_range.1 hj
      rw [hf j hjl]
      obtain ⟨cs, _, _, _, q⟩ := (each j hjl).choose_spec
      exact q
end
end Go.Proofs.YtbblomnhobodkaaDoor
