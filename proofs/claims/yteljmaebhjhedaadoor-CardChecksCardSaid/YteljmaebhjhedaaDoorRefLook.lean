/- What this claim reaches of a longer text of this session. -/
import Derived.Test.YteljmaebhjhedaaDoorRef
import Derived.Test.YteljmaebhjhedaaDoorTermE
set_option linter.unusedVariables false
set_option linter.unusedSimpArgs false
namespace Go.Proofs.YteljmaebhjhedaaDoor
open Go.RowKit
set_option maxHeartbeats 1000000 in
theorem rget_yes {s : Rf} {w : World} (h : RefAt w s) {i : Nat} (hi : i < s.nodes.length) :
    Calls Tryd.prog 15 #[s.ptr, .int .i64 ((i : Int) + 1)] w fun e w' => e = .returned (s.nodes[i]).v ∧ Chg none_ w w' := by
  obtain ⟨b, c, hs, hb, c0, c1, c2, c3⟩ := h.row_cells hi
  have hk : knownB s.nodes.length ((i : Int) + 1) = true := by simp [knownB]; omega
  have hcall := fun w' (h : RefAt w' s) => rknown_calls h ((i : Int) + 1)
  rw [hk] at hcall
  have h0 := h.cell0
  rw [hs] at h0
  have hp := h.p_lt
  have hlen := h.len
  have HC := Lib.hid hcall
  have H := Lib.hid h
  generalize s.nodes[i] = n at *
  obtain ⟨k0, l, x, y⟩ := n
  clear hcall h hk hs
  unfold Rf.ptr at *
  go_enter Tryd.func15, Tryd.ntmps15
  go_wp2_with (go_at_call 31; refine (HC.out _ (by first | exact H.out | exact H.out.alloc _)).mono ?_; rintro e w1 ⟨rfl, rfl⟩)
  first
    | exact bodyPost_ret (v := .agg #[.int .i64 k0, .string l, .int .i64 x, .int .i64 y]) (by simp [results, Tryd.results15, go_sem]) rfl ⟨rfl, (Chg.refl _ _).alloc _⟩
    | exact bodyPost_ret (v := .agg #[.int .i64 k0, .string l, .int .i64 x, .int .i64 y]) (by simp [results, Tryd.results15, go_sem]) rfl ⟨rfl, Chg.refl _ _⟩
set_option maxHeartbeats 1000000 in
theorem rget_no {s : Rf} {w : World} (h : RefAt w s) {t : Int} (hk : knownB s.nodes.length t = false) :
    Calls Tryd.prog 15 #[s.ptr, .int .i64 t] w fun e w' => e = .returned (Nd.v ⟨0, ByteArray.empty, 0, 0⟩) ∧ Chg none_ w w' := by
  have hcall := fun w' (h : RefAt w' s) => rknown_calls h t
  rw [hk] at hcall
  have HC := Lib.hid hcall
  have H := Lib.hid h
  clear hcall h hk
  unfold Rf.ptr at *
  go_enter Tryd.func15, Tryd.ntmps15
  go_wp2_with (go_at_call 31; refine (HC.out _ (by first | exact H.out | exact H.out.alloc _)).mono ?_; rintro e w1 ⟨rfl, rfl⟩)
  first
    | exact bodyPost_ret (v := .agg #[.int .i64 0, .string ByteArray.empty, .int .i64 0, .int .i64 0]) (by simp [results, Tryd.results15, go_sem]; rfl) rfl ⟨rfl, (Chg.refl _ _).alloc _⟩
    | exact bodyPost_ret (v := .agg #[.int .i64 0, .string ByteArray.empty, .int .i64 0, .int .i64 0]) (by simp [results, Tryd.results15, go_sem]; rfl) rfl ⟨rfl, Chg.refl _ _⟩
theorem rget_calls {s : Rf} {w : World} (h : RefAt w s) (t : Int) :
    Calls Tryd.prog 15 #[s.ptr, .int .i64 t] w fun e w' => e = .returned (.agg #[.int .i64 (getN s.nodes t).kind, .string (getN s.nodes t).label, .int .i64 (getN s.nodes t).a, .int .i64 (getN s.nodes t).b]) ∧ Chg none_ w w' := by
  cases hk : knownB s.nodes.length t with
  | false =>
    have e : getN s.nodes t = ⟨0, ByteArray.empty, 0, 0⟩ := by unfold getN; rw [hk]; rfl
    rw [e]; exact rget_no h hk
  | true =>
    have hr : 1 ≤ t ∧ t ≤ s.nodes.length := by simpa [knownB] using hk
    obtain ⟨i, rfl⟩ : ∃ i : Nat, t = (i : Int) + 1 := ⟨(t - 1).toNat, by omega⟩
    have hi : i < s.nodes.length := by omega
    have e : getN s.nodes ((i : Int) + 1) = s.nodes[i] := by
      unfold getN nodeAt; rw [hk, show ((i : Int) + 1 - 1).toNat = i by omega, List.getD_eq_getElem?_getD, List.getElem?_eq_getElem hi]; rfl
    rw [e]; exact rget_yes h hi
def rverifyOf (n p : Nd) (text : Int) : Bool := decide (n.kind = 9) && decide (n.b = text) && decide (p.kind = 6) && decide (p.a = n.a)
set_option maxHeartbeats 1000000 in
theorem rverify_calls {s : Rf} {w : World} (h : RefAt w s) (pub text sig : Int) :
    Calls Tryd.prog 32 #[s.ptr, .int .i64 pub, .int .i64 text, .int .i64 sig] w fun e w' => e = .returned (.bool (rverifyOf (getN s.nodes sig) (getN s.nodes pub) text)) ∧ Chg none_ w w' := by
  have hcall := fun w' (h : RefAt w' s) => rget_calls h sig
  have hcall2 := fun w' (h : RefAt w' s) => rget_calls h pub
  have HC := Lib.hid hcall
  have HC2 := Lib.hid hcall2
  have H := Lib.hid h
  clear hcall hcall2 h
  generalize getN s.nodes pub = p at *
  generalize getN s.nodes sig = n at *
  obtain ⟨k0, l, a, b⟩ := n
  obtain ⟨pk0, pl, pa, pb⟩ := p
  unfold Rf.ptr at *
  go_enter Tryd.func32, Tryd.ntmps32
  go_wp2_with fail
  refine (HC.out _ (by first | exact H.out | exact H.out.alloc _ | exact (H.out.alloc _).alloc _)).mono ?_; rintro e w1 ⟨rfl, hc1⟩
  go_wp2_with (refine (HC2.out _ (by first | exact (H.out.chg hc1 (fun _ _ h => h)).alloc _ | exact ((H.out.alloc _).chg hc1 (fun _ _ h => h)))).mono ?_; rintro e w2 ⟨rfl, hc2⟩; obtain ⟨q1, q2⟩ := hc2.cells; have qs : w1.heap.size < w2.heap.size := by have := hc2.size; simp only [World.size_alloc] at this; omega)
  all_goals go_ret
  all_goals go_light
  all_goals (try simp only [bne_iff_ne, ne_eq, bne_eq_false_iff_eq] at *)
  all_goals exact ⟨by simp [rverifyOf, *] <;> (rw [Bool.eq_iff_iff]; simp), ((hc1.alloc _).trans hc2 (fun _ _ h => h)).alloc _⟩
end Go.Proofs.YteljmaebhjhedaaDoor
