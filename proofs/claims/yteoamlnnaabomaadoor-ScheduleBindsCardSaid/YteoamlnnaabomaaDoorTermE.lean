/- What this claim reaches of a longer text of this session. -/
import Derived.Test.YteoamlnnaabomaaDoorTermD
set_option linter.unusedVariables false
set_option linter.unusedSimpArgs false
namespace Go.Proofs.YteoamlnnaabomaaDoor
open Go.RowKit
theorem row_cells {w : World} {s : St} (h : StoreAt w s) {i : Nat} (hi : i < s.nodes.length) : ∃ b c, s.sl = .slice (some ⟨b, 0, none⟩) s.nodes.length c ∧ b < w.heap.size ∧
    w.cell? ⟨b, i * 4, none⟩ = some (.int .i64 (s.nodes[i]).kind) ∧ w.cell? ⟨b, i * 4 + 1, none⟩ = some (.string (s.nodes[i]).label) ∧
    w.cell? ⟨b, i * 4 + 2, none⟩ = some (.int .i64 (s.nodes[i]).a) ∧ w.cell? ⟨b, i * 4 + 3, none⟩ = some (.int .i64 (s.nodes[i]).b) := by
  obtain ⟨b, c, hs, hc⟩ := h.node hi
  refine ⟨b, c, hs, h.arr_lt (by rw [hs]; rfl), ?_, ?_, ?_, ?_⟩
  · have := hc 0 (by omega); simpa [Nd.cells] using this
  · have := hc 1 (by omega); simpa [Nd.cells] using this
  · have := hc 2 (by omega); simpa [Nd.cells] using this
  · have := hc 3 (by omega); simpa [Nd.cells] using this
set_option maxHeartbeats 1000000 in
theorem fresh_calls {s : St} {w : World} (h : StoreAt w s) :
    Calls Tryd.prog 31 #[s.ptr] w fun e w' => e = .returned (.int .i64 (mkT s.nodes (freshN s.drawn))) ∧ Next s w (mkL s.nodes (freshN s.drawn)) (freshD s.nodes s.drawn) w' := by
  have hcall := fun w' (h : StoreAt w' s) => put_calls h (freshN s.drawn)
  have hd := freshD_le h.wf h.drawn1
  have h2 := h.cell2
  have hd0 := h.drawn0
  have hd1 := h.drawn1
  have H := Lib.hid h
  have HD := Lib.hid hd
  by_cases hz : mkT s.nodes (freshN s.drawn) = 0
  · have e : freshD s.nodes s.drawn = s.drawn := by unfold freshD; rw [if_pos hz]
    rw [e]
    generalize mkT s.nodes (freshN s.drawn) = T at *
    subst hz
    generalize mkL s.nodes (freshN s.drawn) = L at *
    simp only [freshN, Nd.v, ByteArray.empty] at hcall
    have HC := Lib.hid hcall
    clear hcall h e hd
    go_enter Tryd.func31, Tryd.ntmps31
    go_wp2_with (go_at_call 35; refine (HC.out _ (H.out)).mono ?_; rintro e w1 ⟨rfl, hc1⟩)
    go_ret
    exact ⟨rfl, hc1⟩
  · have hnz : ((mkT s.nodes (freshN s.drawn)) != 0) = true := by simpa using hz
    have e : freshD s.nodes s.drawn = s.drawn + 1 := by unfold freshD; rw [if_neg hz]
    have HDX : Hid (s.drawn + 1 ≤ 1099511627776) := by rw [e] at hd; exact hd
    rw [e]
    generalize mkT s.nodes (freshN s.drawn) = T at *
    generalize mkL s.nodes (freshN s.drawn) = L at *
    simp only [freshN, Nd.v, ByteArray.empty] at hcall
    have HC := Lib.hid hcall
    clear hcall h e hd hz
    go_enter Tryd.func31, Tryd.ntmps31
    go_wp2_with (go_at_call 35; refine (HC.out _ (H.out)).mono ?_; rintro e w1 ⟨rfl, hc1⟩; obtain ⟨⟨s', h1, hp, hn, hdr, hown, hchg⟩⟩ := hc1; have g2 := h1.cell2; rw [hp, hdr] at g2; have gf := h1.free 2; rw [hp] at gf; have H1 := Lib.hid h1; have HP := Lib.hid hp; have HN := Lib.hid hn; have HDR := Lib.hid hdr; clear h1 hp hn hdr)
    go_ret
    refine ⟨rfl, ⟨⟨{ s' with drawn := s.drawn + 1 }, ⟨?_, ?_, ?_, H1.out.nodup, H1.out.len, by show 0 ≤ s.drawn + 1; omega, HDX.out, H1.out.wf⟩, HP.out, HN.out, rfl, hown, hchg.setCell (.inl (.inl rfl)) _⟩⟩⟩
    · have := heap_setCell_at (i := 2) (v := .int .i64 (s.drawn + 1)) H1.out.obj
      rw [HP.out] at this
      rw [show ({ s' with drawn := s.drawn + 1 } : St).p = s.p from HP.out]
      exact this
    · rw [heap_setCell_ne (by show s'.m ≠ s.p; rw [← HP.out]; exact (H1.out.p_ne_m).symm)]; exact H1.out.map
    · exact row_keep H1.out.arr fun b hb => heap_setCell_ne (by show b ≠ s.p; rw [← HP.out]; exact H1.out.arr_ne_p hb)
end Go.Proofs.YteoamlnnaabomaaDoor
