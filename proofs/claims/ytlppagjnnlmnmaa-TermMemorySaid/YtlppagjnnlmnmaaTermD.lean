/- The calls that make a term of one kind each. PRINTED BY gen_wrap.py. -/
import Derived.Test.YtlppagjnnlmnmaaTermC
set_option linter.unusedVariables false
set_option linter.unusedSimpArgs false
namespace Go.Proofs.Ytlppagjnnlmnmaa
open Go.RowKit

theorem Next.get {s : St} {w w' : World} {l : List Nd} {d : Int} (h : Next s w l d w') : ∃ m' sl', StoreAt w' ⟨s.p, m', sl', l, d⟩ ∧ (∀ k, St.own ⟨s.p, m', sl', l, d⟩ k → s.own k ∨ w.heap.size ≤ k) ∧ Chg s.own w w' := by
  obtain ⟨⟨⟨p, m, sl, l', d'⟩, h1, h2, h3, h4, h5, h6⟩⟩ := h
  dsimp only at h2 h3 h4
  subst h2 h3 h4
  exact ⟨m, sl, h1, h5, h6⟩

theorem Next.after {s : St} {w w1 w2 : World} {l : List Nd} {d : Int} (h : StoreAt w s) (hc : Chg none_ w w1) (k : Next s w1 l d w2) : Next s w l d w2 := by
  obtain ⟨⟨s', h1, h2, h3, h4, h5, h6⟩⟩ := k
  exact ⟨⟨s', h1, h2, h3, h4, fun k hk => (h5 k hk).imp id fun h => Nat.le_trans hc.size h, (hc.mono fun _ _ h => h.elim).trans h6 fun _ _ h => h⟩⟩

set_option maxHeartbeats 1000000 in
theorem put_calls {s : St} {w : World} (h : StoreAt w s) (n : Nd) :
    Calls Try.prog 30 #[s.ptr, n.v] w fun e w' => e = .returned (.int .i64 (mkT s.nodes n)) ∧ Next s w (mkL s.nodes n) s.drawn w' := by
  have hcall := make_calls (h.alloc (.cells n.cells.toArray 27)) n
  obtain ⟨k0, l, a, b⟩ := n
  unfold Nd.v at *
  simp only [Nd.cells] at hcall
  have HC := Lib.hid hcall
  have H := Lib.hid h
  clear hcall h
  go_enter Try.func30, Try.ntmps30
  go_wp2_with (go_at_call 13; refine HC.out.mono ?_; rintro e w1 ⟨rfl, hc1⟩)
  go_ret
  exact ⟨rfl, .after H.out ((Chg.refl _ _).alloc _) hc1⟩

set_option maxHeartbeats 1000000 in
theorem text_calls {s : St} {w : World} (h : StoreAt w s) (lab : ByteArray) :
    Calls Try.prog 16 #[s.ptr, .string lab] w fun e w' => e = .returned (.int .i64 (mkT s.nodes ⟨2, lab, 0, 0⟩)) ∧ Next s w (mkL s.nodes ⟨2, lab, 0, 0⟩) s.drawn w' := by
  have hcall := fun w' (h : StoreAt w' s) => put_calls h ⟨2, lab, 0, 0⟩
  simp only [Nd.v, ByteArray.empty] at hcall
  have HC := Lib.hid hcall
  have H := Lib.hid h
  clear hcall h
  go_enter Try.func16, Try.ntmps16
  go_wp2_with (go_at_call 30; refine (HC.out _ H.out).mono ?_; rintro e w1 ⟨rfl, hc1⟩)
  go_ret
  exact ⟨rfl, hc1⟩

set_option maxHeartbeats 1000000 in
theorem pair_calls {s : St} {w : World} (h : StoreAt w s) (a b : Int) :
    Calls Try.prog 27 #[s.ptr, .int .i64 a, .int .i64 b] w fun e w' => e = .returned (.int .i64 (mkT s.nodes ⟨3, ByteArray.empty, a, b⟩)) ∧ Next s w (mkL s.nodes ⟨3, ByteArray.empty, a, b⟩) s.drawn w' := by
  have hcall := fun w' (h : StoreAt w' s) => put_calls h ⟨3, ByteArray.empty, a, b⟩
  simp only [Nd.v, ByteArray.empty] at hcall
  have HC := Lib.hid hcall
  have H := Lib.hid h
  clear hcall h
  go_enter Try.func27, Try.ntmps27
  go_wp2_with (go_at_call 30; refine (HC.out _ H.out).mono ?_; rintro e w1 ⟨rfl, hc1⟩)
  go_ret
  exact ⟨rfl, hc1⟩

set_option maxHeartbeats 1000000 in
theorem pub_calls {s : St} {w : World} (h : StoreAt w s) (a : Int) :
    Calls Try.prog 17 #[s.ptr, .int .i64 a] w fun e w' => e = .returned (.int .i64 (mkT s.nodes ⟨6, ByteArray.empty, a, 0⟩)) ∧ Next s w (mkL s.nodes ⟨6, ByteArray.empty, a, 0⟩) s.drawn w' := by
  have hcall := fun w' (h : StoreAt w' s) => put_calls h ⟨6, ByteArray.empty, a, 0⟩
  simp only [Nd.v, ByteArray.empty] at hcall
  have HC := Lib.hid hcall
  have H := Lib.hid h
  clear hcall h
  go_enter Try.func17, Try.ntmps17
  go_wp2_with (go_at_call 30; refine (HC.out _ H.out).mono ?_; rintro e w1 ⟨rfl, hc1⟩)
  go_ret
  exact ⟨rfl, hc1⟩

set_option maxHeartbeats 1000000 in
theorem seal_calls {s : St} {w : World} (h : StoreAt w s) (a b : Int) :
    Calls Try.prog 18 #[s.ptr, .int .i64 a, .int .i64 b] w fun e w' => e = .returned (.int .i64 (mkT s.nodes ⟨7, ByteArray.empty, a, b⟩)) ∧ Next s w (mkL s.nodes ⟨7, ByteArray.empty, a, b⟩) s.drawn w' := by
  have hcall := fun w' (h : StoreAt w' s) => put_calls h ⟨7, ByteArray.empty, a, b⟩
  simp only [Nd.v, ByteArray.empty] at hcall
  have HC := Lib.hid hcall
  have H := Lib.hid h
  clear hcall h
  go_enter Try.func18, Try.ntmps18
  go_wp2_with (go_at_call 30; refine (HC.out _ H.out).mono ?_; rintro e w1 ⟨rfl, hc1⟩)
  go_ret
  exact ⟨rfl, hc1⟩

set_option maxHeartbeats 1000000 in
theorem box_calls {s : St} {w : World} (h : StoreAt w s) (a b : Int) :
    Calls Try.prog 19 #[s.ptr, .int .i64 a, .int .i64 b] w fun e w' => e = .returned (.int .i64 (mkT s.nodes ⟨8, ByteArray.empty, a, b⟩)) ∧ Next s w (mkL s.nodes ⟨8, ByteArray.empty, a, b⟩) s.drawn w' := by
  have hcall := fun w' (h : StoreAt w' s) => put_calls h ⟨8, ByteArray.empty, a, b⟩
  simp only [Nd.v, ByteArray.empty] at hcall
  have HC := Lib.hid hcall
  have H := Lib.hid h
  clear hcall h
  go_enter Try.func19, Try.ntmps19
  go_wp2_with (go_at_call 30; refine (HC.out _ H.out).mono ?_; rintro e w1 ⟨rfl, hc1⟩)
  go_ret
  exact ⟨rfl, hc1⟩

set_option maxHeartbeats 1000000 in
theorem sign_calls {s : St} {w : World} (h : StoreAt w s) (a b : Int) :
    Calls Try.prog 20 #[s.ptr, .int .i64 a, .int .i64 b] w fun e w' => e = .returned (.int .i64 (mkT s.nodes ⟨9, ByteArray.empty, a, b⟩)) ∧ Next s w (mkL s.nodes ⟨9, ByteArray.empty, a, b⟩) s.drawn w' := by
  have hcall := fun w' (h : StoreAt w' s) => put_calls h ⟨9, ByteArray.empty, a, b⟩
  simp only [Nd.v, ByteArray.empty] at hcall
  have HC := Lib.hid hcall
  have H := Lib.hid h
  clear hcall h
  go_enter Try.func20, Try.ntmps20
  go_wp2_with (go_at_call 30; refine (HC.out _ H.out).mono ?_; rintro e w1 ⟨rfl, hc1⟩)
  go_ret
  exact ⟨rfl, hc1⟩

end Go.Proofs.Ytlppagjnnlmnmaa
