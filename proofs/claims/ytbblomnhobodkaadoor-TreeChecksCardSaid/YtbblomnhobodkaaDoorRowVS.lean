/- Rows of vertices, as they come in, and how long what is late in them may be. -/
import Derived.Test.YtbblomnhobodkaaDoorRowV
import Derived.SizedLaws
set_option linter.unusedVariables false
set_option linter.unusedSimpArgs false
namespace Go.Proofs.YtbblomnhobodkaaDoor
open Go.ChangeShapes Go.WideShapes Go.Deep Go.RowKit Go.Proofs.YtbblomnhobodkaaDoorW.PrintWords Go.Proofs.YtbblomnhobodkaaDoor.PTv
section
variable {H : Type} {enc : TypeId × Value → H} {W : World}
theorem weights_all {P : Program} {e : TypeId} {d : DataW H} {m : Nat} (hm : m ∈ d.weights P e) : ∀ {l : List (DataW H)}, d ∈ l → m ∈ DataW.weightsAll P e l
  | x :: r, h => by
    simp only [DataW.weightsAll, List.mem_append]
    rcases List.mem_cons.1 h with rfl | h
    · exact .inl hm
    · exact .inr (weights_all hm h)
theorem inner_len {n : Nat} {A : Option Addr} {L c : Nat} {y : DataW H × List MemPlace} (h : DataW.trod enc Tryd.prog W 0 (fun _ => true) true n 27 [.slice A L c] = some y) (hs : ∀ m ∈ y.1.weights Tryd.prog 27, m ≤ reachBytes) : L * 8 ≤ reachBytes := by
  rcases open_ints Tryd.underlying27 Tryd.underlying3 (by kernel_rfl) h with ⟨hcs, _⟩ | ⟨x, l, cc, zs, hcs, _, hl, hm, hz, hy, hcell, hwz⟩
  · simp at hcs
    obtain ⟨_, rfl, _⟩ := hcs
    simp
  · simp at hcs
    obtain ⟨_, rfl, rfl⟩ := hcs
    subst hy
    have := hs _ (by simp only [DataW.weights, Tryd.underlying27]; exact List.mem_cons_self ..)
    have hb : Tryd.prog.bytesOf 3 = 8 := by kernel_rfl
    rw [hb] at this
    simp only [lits, List.length_map, List.length_take, List.length_drop] at this
    have : zs.length = c := by simpa using hz
    omega
theorem open_vertices_late {fuel : Nat} {A : Option Addr} {len cap : Nat} {x : DataW H × List MemPlace} (h : DataW.trod enc Tryd.prog W 0 (fun _ => true) true fuel 22 (Value.cells (.slice A len cap)).toList = some x) (hs : ∀ m ∈ x.1.weights Tryd.prog 22, m ≤ reachBytes)
    {z : List S29} (hz : len = z.length) (hc : Kd.C k29 W A z.length z) : ∀ v ∈ z, v.f5.length ≤ 17592186043904 := by
  rcases open_slice_fields Tryd.underlying22 Tryd.underlying29 (by kernel_rfl) (by kernel_rfl) h with ⟨hcs, _⟩ | ⟨a, l, c, m, D, Pl, hcs, _, hl, hm, hmm, hx, hi⟩
  · simp [Value.cells] at hcs
    obtain ⟨rfl, rfl, rfl⟩ := hcs
    have : z = [] := List.length_eq_zero_iff.1 hz.symm
    subst this
    intro v hv
    cases hv
  · simp [Value.cells] at hcs
    obtain ⟨rfl, rfl, rfl⟩ := hcs
    simp only [if_true] at hmm
    subst hmm
    intro v hv
    obtain ⟨i, hiz, rfl⟩ := List.mem_iff_getElem.1 hv
    obtain ⟨ys, n, hD, _, hyl, hf⟩ := hi i (by omega)
    obtain ⟨v5, y5, c5, hy5, t5⟩ := hf 5 _ rfl
    obtain ⟨ad, A5, k5, e0, _, _, _, _, _, hc5, _⟩ := at_T29 hc (i : Int) (by omega) (by omega)
    cases e0
    have e5 : v5 = .slice A5 (rd_T29 z (i : Int)).f5.length k5 := by
      have q : a.add (i * (6 : Nat) + 5) = (⟨(a.add ((i : Int).toNat * 6)).block, (a.add ((i : Int).toNat * 6)).off + 5, none⟩ : Addr) := by
        rw [Int.toNat_natCast]
        unfold Addr.add
        rw [if_neg (by omega)]
        split
        · next h0 => simp only [Addr.mk.injEq, true_and, and_true]; omega
        · next h0 => simp only [Addr.mk.injEq, true_and, and_true]; omega
      have c5' : W.cell? (a.add (i * (6 : Nat) + 5)) = some v5 := c5
      rw [q] at c5'
      exact Option.some.inj (c5'.symm.trans hc5)
    subst e5
    have hw := inner_len t5 (fun mm hmm => hs mm (by
      subst hx
      simp only [DataW.weights, Tryd.underlying22]
      refine List.mem_cons_of_mem _ (List.mem_append.2 (.inl (weights_all (d := D i) ?_ (List.mem_map.2 ⟨i, List.mem_range.2 (by omega), rfl⟩))))
      rw [hD]
      simp only [DataW.weights, Tryd.underlying29]
      exact DataW.weights_mem_each (j := 5) (t := 27) rfl (by rw [List.getElem?_map, hy5]; rfl) _ hmm))
    have e6 : rd_T29 z (i : Int) = z[i] := by
      unfold rd_T29
      rw [Int.toNat_natCast, List.getD_eq_getElem?_getD, List.getElem?_eq_getElem hiz]; rfl
    rw [e6] at hw
    unfold reachBytes at hw
    omega
end
end Go.Proofs.YtbblomnhobodkaaDoor
