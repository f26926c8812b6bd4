/- The calls that make a store and look into it. -/
import Derived.Test.YtlppagjnnlmnmaaTermD
set_option linter.unusedVariables false
set_option linter.unusedSimpArgs false
namespace Go.Proofs.Ytlppagjnnlmnmaa
open Go.RowKit

theorem row_cells {w : World} {s : St} (h : StoreAt w s) {i : Nat} (hi : i < s.nodes.length) : ∃ b c, s.sl = .slice (some ⟨b, 0, none⟩) s.nodes.length c ∧ b < w.heap.size ∧
    w.cell? ⟨b, i * 4, none⟩ = some (.int .i64 (s.nodes[i]).kind) ∧ w.cell? ⟨b, i * 4 + 1, none⟩ = some (.string (s.nodes[i]).label) ∧
    w.cell? ⟨b, i * 4 + 2, none⟩ = some (.int .i64 (s.nodes[i]).a) ∧ w.cell? ⟨b, i * 4 + 3, none⟩ = some (.int .i64 (s.nodes[i]).b) := by
  obtain ⟨b, c, hs, hc⟩ := h.node hi
  refine ⟨b, c, hs, h.arr_lt (by rw [hs]; rfl), ?_, ?_, ?_, ?_⟩
  · have := hc 0 (by omega); simpa [Nd.cells] using this
  · have := hc 1 (by omega); simpa [Nd.cells] using this
  · have := hc 2 (by omega); simpa [Nd.cells] using this
  · have := hc 3 (by omega); simpa [Nd.cells] using this


set_option maxHeartbeats 1000000 in
theorem get_yes {s : St} {w : World} (h : StoreAt w s) {i : Nat} (hi : i < s.nodes.length) :
    Calls Try.prog 14 #[s.ptr, .int .i64 ((i : Int) + 1)] w fun e w' => e = .returned (.tuple #[(s.nodes[i]).v, .bool true]) ∧ Chg none_ w w' := by
  obtain ⟨b, c, hs, hb, c0, c1, c2, c3⟩ := row_cells h hi
  have hk : knownB s.nodes.length ((i : Int) + 1) = true := by simp [knownB]; omega
  have hcall := fun w' (h : StoreAt w' s) => known_calls h ((i : Int) + 1)
  rw [hk] at hcall
  have h0 := h.cell0
  rw [hs] at h0
  have hp := h.p_lt
  have hlen := h.len
  have HC := Lib.hid hcall
  have H := Lib.hid h
  generalize s.nodes[i] = n at *
  obtain ⟨k0, l, x, y⟩ := n
  clear hcall h hk hs
  go_enter Try.func14, Try.ntmps14
  go_wp2_with (go_at_call 29; refine (HC.out _ (H.out.alloc _)).mono ?_; rintro e w1 ⟨rfl, rfl⟩)
  exact bodyPost_ret (v := .tuple #[.agg #[.int .i64 k0, .string l, .int .i64 x, .int .i64 y], .bool true]) (by simp [results, Try.results14, go_sem]) rfl ⟨rfl, (Chg.refl _ _).alloc _⟩

set_option maxHeartbeats 1000000 in
theorem get_no {s : St} {w : World} (h : StoreAt w s) {t : Int} (hk : knownB s.nodes.length t = false) :
    Calls Try.prog 14 #[s.ptr, .int .i64 t] w fun e w' => e = .returned (.tuple #[Nd.v ⟨0, ByteArray.empty, 0, 0⟩, .bool false]) ∧ Chg none_ w w' := by
  have hcall := fun w' (h : StoreAt w' s) => known_calls h t
  rw [hk] at hcall
  have HC := Lib.hid hcall
  have H := Lib.hid h
  clear hcall h hk
  go_enter Try.func14, Try.ntmps14
  go_wp2_with (go_at_call 29; refine (HC.out _ (H.out.alloc _)).mono ?_; rintro e w1 ⟨rfl, rfl⟩)
  exact bodyPost_ret (v := .tuple #[.agg #[.int .i64 0, .string ByteArray.empty, .int .i64 0, .int .i64 0], .bool false]) (by simp [results, Try.results14, go_sem]; rfl) rfl ⟨rfl, (Chg.refl _ _).alloc _⟩

theorem get_calls {s : St} {w : World} (h : StoreAt w s) (t : Int) :
    Calls Try.prog 14 #[s.ptr, .int .i64 t] w fun e w' => e = .returned (.tuple #[.agg #[.int .i64 (getN s.nodes t).kind, .string (getN s.nodes t).label, .int .i64 (getN s.nodes t).a, .int .i64 (getN s.nodes t).b], .bool (knownB s.nodes.length t)]) ∧ Chg none_ w w' := by
  cases hk : knownB s.nodes.length t with
  | false =>
    have e : getN s.nodes t = ⟨0, ByteArray.empty, 0, 0⟩ := by unfold getN; rw [hk]; rfl
    rw [e]; exact get_no h hk
  | true =>
    have hr : 1 ≤ t ∧ t ≤ s.nodes.length := by simpa [knownB] using hk
    obtain ⟨i, rfl⟩ : ∃ i : Nat, t = (i : Int) + 1 := ⟨(t - 1).toNat, by omega⟩
    have hi : i < s.nodes.length := by omega
    have e : getN s.nodes ((i : Int) + 1) = s.nodes[i] := by
      unfold getN nodeAt; rw [hk, show ((i : Int) + 1 - 1).toNat = i by omega, List.getD_eq_getElem?_getD, List.getElem?_eq_getElem hi]; rfl
    rw [e]; exact get_yes h hi

set_option maxHeartbeats 1000000 in
theorem new_calls (w : World) : Calls Try.prog 11 #[] w fun e w' => ∃ s : St, e = .returned s.ptr ∧ StoreAt w' s ∧ s.nodes = [] ∧ s.drawn = 0 ∧ (∀ k, s.own k → w.heap.size ≤ k) ∧ Chg none_ w w' := by
  have hmm := @run_makeMap Try.prog
  go_enter Try.func11, Try.ntmps11
  go_wp2
  go_ret
  refine ⟨⟨w.heap.size + 1, w.heap.size, .slice none 0 0, [], 0⟩, rfl, ⟨?_, ?_, World.ownsRow_nil _ _ _ _, List.nodup_nil, Nat.zero_le _, Int.le_refl _, by show (0 : Int) ≤ 1099511627776; decide, WF.nil⟩, rfl, rfl, ?_, ((Chg.refl _ _).alloc _).alloc _⟩
  · have := heap_alloc_at (w := w.alloc (.map #[] 0)) (o := .cells #[.slice none 0 0, .map (some w.heap.size), .int .i64 0] 53 (0, 0))
    simpa using this
  · show ((w.alloc (.map #[] 0)).alloc _).heap[w.heap.size]? = _
    rw [heap_alloc_lt (by simp)]; exact heap_alloc_at
  · rintro k (rfl | rfl | hk)
    · show w.heap.size ≤ w.heap.size + 1; omega
    · exact Nat.le_refl _
    · simp [Value.ownBlock] at hk


set_option maxHeartbeats 1000000 in
theorem open_calls {s : St} {w : World} (h : StoreAt w s) (key t : Int) :
    Calls Try.prog 21 #[s.ptr, .int .i64 key, .int .i64 t] w fun e w' => e = .returned (.tuple #[.int .i64 (openOf (knownB s.nodes.length t) (getN s.nodes t) key).1, .bool (openOf (knownB s.nodes.length t) (getN s.nodes t) key).2]) ∧ Chg none_ w w' := by
  have hcall := fun w' (h : StoreAt w' s) => get_calls h t
  have HC := Lib.hid hcall
  have H := Lib.hid h
  clear hcall h
  generalize getN s.nodes t = n at *
  generalize knownB s.nodes.length t = k at *
  obtain ⟨k0, l, a, b⟩ := n
  go_enter Try.func21, Try.ntmps21
  go_wp2_with (go_at_call 14; refine (HC.out _ (H.out)).mono ?_; rintro e w1 ⟨rfl, hc1⟩)
  all_goals go_ret2
  all_goals go_light
  all_goals (try simp only [bne_iff_ne, ne_eq, bne_eq_false_iff_eq] at *)
  all_goals exact ⟨by simp [openOf, *], hc1.alloc _⟩


set_option maxHeartbeats 1000000 in
theorem unbox_calls {s : St} {w : World} (h : StoreAt w s) (secret t : Int) :
    Calls Try.prog 22 #[s.ptr, .int .i64 secret, .int .i64 t] w fun e w' => e = .returned (.tuple #[.int .i64 (unboxOf (knownB s.nodes.length t) (getN s.nodes t) (getN s.nodes (getN s.nodes t).a) secret).1, .bool (unboxOf (knownB s.nodes.length t) (getN s.nodes t) (getN s.nodes (getN s.nodes t).a) secret).2]) ∧ Chg none_ w w' := by
  have hcall := fun w' (h : StoreAt w' s) => get_calls h t
  have hcall2 := fun w' (h : StoreAt w' s) => get_calls h (getN s.nodes t).a
  have HC := Lib.hid hcall
  have HC2 := Lib.hid hcall2
  have H := Lib.hid h
  clear hcall hcall2 h
  generalize getN s.nodes (getN s.nodes t).a = p at *
  generalize knownB s.nodes.length (getN s.nodes t).a = kp at *
  generalize getN s.nodes t = n at *
  generalize knownB s.nodes.length t = k at *
  obtain ⟨k0, l, a, b⟩ := n
  obtain ⟨pk0, pl, pa, pb⟩ := p
  go_enter Try.func22, Try.ntmps22
  go_wp2_with fail
  refine (HC.out _ (H.out)).mono ?_; rintro e w1 ⟨rfl, hc1⟩
  go_wp2_with (refine (HC2.out _ ((H.out.chg hc1 (fun _ _ h => h)).alloc _)).mono ?_; rintro e w2 ⟨rfl, hc2⟩; obtain ⟨q1, q2⟩ := hc2.cells; have qs : w1.heap.size < w2.heap.size := by have := hc2.size; simp only [World.size_alloc] at this; omega)
  all_goals go_ret2
  all_goals go_light
  all_goals (try simp only [bne_iff_ne, ne_eq, bne_eq_false_iff_eq] at *)
  all_goals first
    | exact ⟨by simp [unboxOf, *], hc1.alloc _⟩
    | exact ⟨by simp [unboxOf, *], ((hc1.alloc _).trans hc2 (fun _ _ h => h)).alloc _⟩


set_option maxHeartbeats 1000000 in
theorem verify_calls {s : St} {w : World} (h : StoreAt w s) (pub text sig : Int) :
    Calls Try.prog 23 #[s.ptr, .int .i64 pub, .int .i64 text, .int .i64 sig] w fun e w' => e = .returned (.bool (verifyOf (knownB s.nodes.length sig) (knownB s.nodes.length pub) (getN s.nodes sig) (getN s.nodes pub) text)) ∧ Chg none_ w w' := by
  have hcall := fun w' (h : StoreAt w' s) => get_calls h sig
  have hcall2 := fun w' (h : StoreAt w' s) => get_calls h pub
  have HC := Lib.hid hcall
  have HC2 := Lib.hid hcall2
  have H := Lib.hid h
  clear hcall hcall2 h
  generalize getN s.nodes pub = p at *
  generalize knownB s.nodes.length pub = kp at *
  generalize getN s.nodes sig = n at *
  generalize knownB s.nodes.length sig = k at *
  obtain ⟨k0, l, a, b⟩ := n
  obtain ⟨pk0, pl, pa, pb⟩ := p
  go_enter Try.func23, Try.ntmps23
  go_wp2_with fail
  refine (HC.out _ (H.out)).mono ?_; rintro e w1 ⟨rfl, hc1⟩
  go_wp2_with (refine (HC2.out _ ((H.out.chg hc1 (fun _ _ h => h)).alloc _)).mono ?_; rintro e w2 ⟨rfl, hc2⟩; obtain ⟨q1, q2⟩ := hc2.cells; have qs : w1.heap.size < w2.heap.size := by have := hc2.size; simp only [World.size_alloc] at this; omega)
  all_goals go_ret
  all_goals go_light
  all_goals (try simp only [bne_iff_ne, ne_eq, bne_eq_false_iff_eq] at *)
  all_goals exact ⟨by simp [verifyOf, *] <;> (rw [Bool.eq_iff_iff]; simp), ((hc1.alloc _).trans hc2 (fun _ _ h => h)).alloc _⟩


set_option maxHeartbeats 1000000 in
theorem fresh_calls {s : St} {w : World} (h : StoreAt w s) :
    Calls Try.prog 15 #[s.ptr] w fun e w' => e = .returned (.int .i64 (mkT s.nodes (freshN s.drawn))) ∧ Next s w (mkL s.nodes (freshN s.drawn)) (freshD s.nodes s.drawn) w' := by
  have hcall := fun w' (h : StoreAt w' s) => put_calls h (freshN s.drawn)
  have hd := freshD_le h.wf h.drawn1
  have h2 := h.cell2
  have hd0 := h.drawn0
  have hd1 := h.drawn1
  have H := Lib.hid h
  have HD := Lib.hid hd
  by_cases hz : mkT s.nodes (freshN s.drawn) = 0
  · have e : freshD s.nodes s.drawn = s.drawn := by unfold freshD; rw [if_pos hz]
    rw [e]
    generalize mkT s.nodes (freshN s.drawn) = T at *
    subst hz
    generalize mkL s.nodes (freshN s.drawn) = L at *
    simp only [freshN, Nd.v, ByteArray.empty] at hcall
    have HC := Lib.hid hcall
    clear hcall h e hd
    go_enter Try.func15, Try.ntmps15
    go_wp2_with (go_at_call 30; refine (HC.out _ (H.out)).mono ?_; rintro e w1 ⟨rfl, hc1⟩)
    go_ret
    exact ⟨rfl, hc1⟩
  · have hnz : ((mkT s.nodes (freshN s.drawn)) != 0) = true := by simpa using hz
    have e : freshD s.nodes s.drawn = s.drawn + 1 := by unfold freshD; rw [if_neg hz]
    have HDX : Hid (s.drawn + 1 ≤ 1099511627776) := by rw [e] at hd; exact hd
    rw [e]
    generalize mkT s.nodes (freshN s.drawn) = T at *
    generalize mkL s.nodes (freshN s.drawn) = L at *
    simp only [freshN, Nd.v, ByteArray.empty] at hcall
    have HC := Lib.hid hcall
    clear hcall h e hd hz
    go_enter Try.func15, Try.ntmps15
    go_wp2_with (go_at_call 30; refine (HC.out _ (H.out)).mono ?_; rintro e w1 ⟨rfl, hc1⟩; obtain ⟨⟨s', h1, hp, hn, hdr, hown, hchg⟩⟩ := hc1; have g2 := h1.cell2; rw [hp, hdr] at g2; have gf := h1.free 2; rw [hp] at gf; have H1 := Lib.hid h1; have HP := Lib.hid hp; have HN := Lib.hid hn; have HDR := Lib.hid hdr; clear h1 hp hn hdr)
    go_ret
    refine ⟨rfl, ⟨⟨{ s' with drawn := s.drawn + 1 }, ⟨?_, ?_, ?_, H1.out.nodup, H1.out.len, by show 0 ≤ s.drawn + 1; omega, HDX.out, H1.out.wf⟩, HP.out, HN.out, rfl, hown, hchg.setCell (.inl (.inl rfl)) _⟩⟩⟩
    · have := heap_setCell_at (i := 2) (v := .int .i64 (s.drawn + 1)) H1.out.obj
      rw [HP.out] at this
      rw [show ({ s' with drawn := s.drawn + 1 } : St).p = s.p from HP.out]
      exact this
    · rw [heap_setCell_ne (by show s'.m ≠ s.p; rw [← HP.out]; exact (H1.out.p_ne_m).symm)]; exact H1.out.map
    · exact row_keep H1.out.arr fun b hb => heap_setCell_ne (by show b ≠ s.p; rw [← HP.out]; exact H1.out.arr_ne_p hb)

end Go.Proofs.Ytlppagjnnlmnmaa
