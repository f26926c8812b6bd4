/- The walk of 'Make'. -/
import Derived.Test.YtlppagjnnlmnmaaTermB
import Derived.Deep.AppendLies
set_option linter.unusedVariables false
set_option linter.unusedSimpArgs false
namespace Go.Proofs.Ytlppagjnnlmnmaa
open Go.RowKit

/-- The store behind a call, in the world behind it: it is where it was, its array may be new. -/
structure Next (s : St) (w : World) (l : List Nd) (d : Int) (w' : World) : Prop where
  out : ∃ s', StoreAt w' s' ∧ s'.p = s.p ∧ s'.nodes = l ∧ s'.drawn = d ∧ (∀ k, s'.own k → s.own k ∨ w.heap.size ≤ k) ∧ Chg s.own w w'

theorem Next.same {s : St} {w w' : World} (h : StoreAt w s) (hc : Chg none_ w w') : Next s w s.nodes s.drawn w' :=
  ⟨⟨s, h.chg hc (fun _ _ h => h), rfl, rfl, rfl, fun k hk => .inl hk, hc.mono fun _ _ h => h.elim⟩⟩

set_option maxHeartbeats 1000000 in
theorem make_old {s : St} {w : World} (h : StoreAt w s) (n : Nd) {k : Nat} (hk : idx s.nodes n = some k) :
    Calls Try.prog 13 #[s.ptr, n.v] w fun e w' => e = .returned (.tuple #[.int .i64 ((k : Int) + 1), .int .i64 0]) ∧ Chg none_ w w' := by
  have hlk := ((h.alloc (.cells n.cells.toArray 27)).drew).lookup_yes n hk
  have h0 := h.cell0
  have h1 := h.cell1
  have hp := h.p_lt
  obtain ⟨k0, l, a, b⟩ := n
  clear h hk
  unfold Nd.v
  simp only [Nd.cells] at hlk
  go_enter Try.func13, Try.ntmps13
  go_wp2
  refine Mix.wp_region_mix (fun _ => True) (fun i => [0, 1, 3, 7, 0, 31, 63, 127, 127, 255, 1023].getD i 0) (fun i => [2, 2, 2, 2, 2, 2, 2, 2, 2, 2, 2].getD i 0) (by kernel_rfl) ⟨by kernel_rfl, by kernel_rfl, by kernel_rfl, by kernel_rfl, by kernel_rfl⟩ trivial ?_; simp only [Mix.whole, List.getD_cons_zero, List.getD_cons_succ, Nat.reduceAdd]
  repeat (first | (refine Mix.pin_no rfl rfl (fun K hK => ?_); go_step; refine hK _ ?_; clear hK K) | (refine Mix.pin_not rfl rfl rfl rfl (fun K hK => ?_); simp only [List.setIfInBounds_toArray, List.set_cons_zero, List.set_cons_succ]; refine hK _ ?_; clear hK K) | (refine Mix.pin_yes rfl rfl rfl rfl (fun K hK => ?_); go_step; refine hK _ ?_; clear hK K))
  refine Mix.walk_nil ?_
  go_wp2
  go_ret2
  exact ⟨rfl, ((Chg.refl _ _).alloc _).drew⟩

set_option maxHeartbeats 1000000 in
theorem make_bad {s : St} {w : World} (h : StoreAt w s) (n : Nd) (hk : idx s.nodes n = none) (hr : rightB s.nodes n = false) :
    Calls Try.prog 13 #[s.ptr, n.v] w fun e w' => e = .returned (.tuple #[.int .i64 0, .int .i64 10]) ∧ Chg none_ w w' := by
  have hlk := ((h.alloc (.cells n.cells.toArray 27)).drew).lookup_no n hk
  have hcall := right_calls ((h.alloc (.cells n.cells.toArray 27)).drew) n
  rw [hr] at hcall
  have h0 := h.cell0
  have h1 := h.cell1
  have hp := h.p_lt
  obtain ⟨k0, l, a, b⟩ := n
  clear h hk hr
  unfold Nd.v at *
  simp only [Nd.cells] at hlk hcall
  have HC := Lib.hid hcall
  clear hcall
  go_enter Try.func13, Try.ntmps13
  go_wp2
  refine Mix.wp_region_mix (fun _ => True) (fun i => [0, 1, 3, 7, 0, 31, 63, 127, 127, 255, 1023].getD i 0) (fun i => [2, 2, 2, 2, 2, 2, 2, 2, 2, 2, 2].getD i 0) (by kernel_rfl) ⟨by kernel_rfl, by kernel_rfl, by kernel_rfl, by kernel_rfl, by kernel_rfl⟩ trivial ?_; simp only [Mix.whole, List.getD_cons_zero, List.getD_cons_succ, Nat.reduceAdd]
  repeat (first | (refine Mix.pin_no rfl rfl (fun K hK => ?_); go_step; refine hK _ ?_; clear hK K) | (refine Mix.pin_not rfl rfl rfl rfl (fun K hK => ?_); simp only [List.setIfInBounds_toArray, List.set_cons_zero, List.set_cons_succ]; refine hK _ ?_; clear hK K) | (refine Mix.pin_yes rfl rfl rfl rfl (fun K hK => ?_); go_step; refine hK _ ?_; clear hK K))
  refine Mix.walk_nil ?_
  go_wp2_with (go_at_call 28; refine HC.out.mono ?_; rintro e w1 ⟨rfl, hc1⟩)
  go_ret2
  exact ⟨rfl, (((Chg.refl _ _).alloc _).drew).trans hc1 (fun _ _ h => h)⟩

set_option maxHeartbeats 1000000 in
theorem make_full {s : St} {w : World} (h : StoreAt w s) (n : Nd) (hk : idx s.nodes n = none) (hr : rightB s.nodes n = true) (hf : 262144 ≤ s.nodes.length) :
    Calls Try.prog 13 #[s.ptr, n.v] w fun e w' => e = .returned (.tuple #[.int .i64 0, .int .i64 11]) ∧ Chg none_ w w' := by
  have hlk := ((h.alloc (.cells n.cells.toArray 27)).drew).lookup_no n hk
  have hcall := right_calls ((h.alloc (.cells n.cells.toArray 27)).drew) n
  rw [hr] at hcall
  obtain ⟨a0, c0, hs⟩ := h.slice
  have h0 := h.cell0
  rw [hs] at h0
  have h1 := h.cell1
  have hp := h.p_lt
  have hlen := h.len
  rw [show s.nodes.length = 262144 by omega] at h0
  clear hlen hf
  obtain ⟨k0, l, a, b⟩ := n
  clear h hk hr hs
  unfold Nd.v at *
  simp only [Nd.cells] at hlk hcall
  have HC := Lib.hid hcall
  clear hcall
  go_enter Try.func13, Try.ntmps13
  go_wp2
  refine Mix.wp_region_mix (fun _ => True) (fun i => [0, 1, 3, 7, 0, 31, 63, 127, 127, 255, 1023].getD i 0) (fun i => [2, 2, 2, 2, 2, 2, 2, 2, 2, 2, 2].getD i 0) (by kernel_rfl) ⟨by kernel_rfl, by kernel_rfl, by kernel_rfl, by kernel_rfl, by kernel_rfl⟩ trivial ?_; simp only [Mix.whole, List.getD_cons_zero, List.getD_cons_succ, Nat.reduceAdd]
  repeat (first | (refine Mix.pin_no rfl rfl (fun K hK => ?_); go_step; refine hK _ ?_; clear hK K) | (refine Mix.pin_not rfl rfl rfl rfl (fun K hK => ?_); simp only [List.setIfInBounds_toArray, List.set_cons_zero, List.set_cons_succ]; refine hK _ ?_; clear hK K) | (refine Mix.pin_yes rfl rfl rfl rfl (fun K hK => ?_); go_step; refine hK _ ?_; clear hK K))
  refine Mix.walk_nil ?_
  go_wp2_with (go_at_call 28; refine HC.out.mono ?_; rintro e w1 ⟨rfl, hc1⟩; obtain ⟨q1, q2⟩ := hc1.cells; have qs := hc1.size; simp only [World.size_drew, World.size_alloc] at qs)
  go_ret2
  exact ⟨rfl, (((Chg.refl _ _).alloc _).drew).trans hc1 (fun _ _ h => h)⟩

theorem infoNode : (Try.prog.info? 27).map (fun i => (i.zero, i.size, i.bytes)) = some (some (.agg #[.int .i64 0, .string ByteArray.empty, .int .i64 0, .int .i64 0]), 4, 40) := by kernel_rfl

theorem Nd.oneCells (n : Nd) : ∀ u ∈ n.cells, u.oneCell' = true := by intro u hu; simp [Nd.cells] at hu; rcases hu with rfl | rfl | rfl | rfl <;> rfl

set_option maxRecDepth 100000 in
set_option maxHeartbeats 1000000 in
theorem make_new {s : St} {w : World} (h : StoreAt w s) (n : Nd) (hk : idx s.nodes n = none) (hr : rightB s.nodes n = true) (hf : s.nodes.length < 262144) :
    Calls Try.prog 13 #[s.ptr, n.v] w fun e w' => e = .returned (.tuple #[.int .i64 ((s.nodes.length : Int) + 1), .int .i64 0]) ∧ Next s w (s.nodes ++ [n]) s.drawn w' := by
  have hlk := ((h.alloc (.cells n.cells.toArray 27)).drew).lookup_no n hk
  have hcall := right_calls ((h.alloc (.cells n.cells.toArray 27)).drew) n
  rw [hr] at hcall
  obtain ⟨a0, c0, hs⟩ := h.slice
  have h0 := h.cell0
  rw [hs] at h0
  have h1 := h.cell1
  have hp := h.p_lt
  have HS := Lib.hid h
  have HSL := Lib.hid hs
  have HK := Lib.hid hk
  have HR := Lib.hid hr
  have hfi : decide ((262144 : Int) ≤ (s.nodes.length : Int)) = false := by simp; omega
  have HF := Lib.hid hf
  clear hf
  obtain ⟨k0, l, a, b⟩ := n
  clear h hk hr hs
  unfold Nd.v at *
  simp only [Nd.cells] at hlk hcall
  have HC := Lib.hid hcall
  clear hcall
  go_enter Try.func13, Try.ntmps13
  go_wp2
  refine Mix.wp_region_mix (fun _ => True) (fun i => [0, 1, 3, 7, 0, 31, 63, 127, 127, 255, 1023].getD i 0) (fun i => [2, 2, 2, 2, 2, 2, 2, 2, 2, 2, 2].getD i 0) (by kernel_rfl) ⟨by kernel_rfl, by kernel_rfl, by kernel_rfl, by kernel_rfl, by kernel_rfl⟩ trivial ?_; simp only [Mix.whole, List.getD_cons_zero, List.getD_cons_succ, Nat.reduceAdd]
  repeat (first | (refine Mix.pin_no rfl rfl (fun K hK => ?_); go_step; refine hK _ ?_; clear hK K) | (refine Mix.pin_not rfl rfl rfl rfl (fun K hK => ?_); simp only [List.setIfInBounds_toArray, List.set_cons_zero, List.set_cons_succ]; refine hK _ ?_; clear hK K) | (refine Mix.pin_yes rfl rfl rfl rfl (fun K hK => ?_); go_step; refine hK _ ?_; clear hK K))
  refine Mix.walk_nil ?_
  go_wp2_with (go_at_call 28; refine HC.out.mono ?_; rintro e w1 ⟨rfl, hc1⟩; obtain ⟨q1, q2⟩ := hc1.cells; have qs := hc1.size; simp only [World.size_drew, World.size_alloc] at qs)
  -- what is known of the world behind the look
  have hw1 : StoreAt w1 s := (((HS.out).alloc _).drew).chg hc1 (fun _ _ h => h)
  have hbx : w1.heap[w.heap.size]? = some (.cells #[.int .i64 k0, .string l, .int .i64 a, .int .i64 b] 27 (0, 0)) := by
    rw [hc1.block _ (by simp) (fun h => h)]
    exact heap_alloc_at
  have HC1 : Chg none_ w w1 := (((Chg.refl _ _).alloc _).drew).trans hc1 (fun _ _ h => h)
  have HBX := Lib.hid hbx
  have e0 := cell_of hbx 0
  have e1 := cell_of hbx 1
  have e2 := cell_of hbx 2
  have e3 := cell_of hbx 3
  simp only [List.getElem?_toArray, List.getElem?_cons_zero, List.getElem?_cons_succ] at e0 e1 e2 e3
  have h10 := hw1.cell0
  rw [HSL.out] at h10
  have h11 := hw1.cell1
  have hf0 := hw1.free 0
  have hp1 : s.p < w1.heap.size := by omega
  have HW1 := Lib.hid hw1
  clear q1 q2 hc1 hlk HC h0 h1 hbx hw1
  refine Mix.wp_region_mix (fun w' => w'.cell? ⟨s.p, 0, none⟩ = some (.slice a0 s.nodes.length c0)) (fun i => [0, 0, 2, 6, 14, 0, 32, 126, 255, 511, 1023].getD i 0) (fun i => [1, 1, 1, 1, 1, 2, 0, 0, 2, 2, 3].getD i 0) (by kernel_rfl) ⟨by kernel_rfl, by kernel_rfl, by kernel_rfl, by kernel_rfl, by kernel_rfl⟩ h10 ?_; simp only [Mix.whole, List.getD_cons_zero, List.getD_cons_succ, Nat.reduceAdd]
  repeat (first | (refine Mix.pin_no rfl rfl (fun K hK => ?_); go_step; refine hK _ ?_; clear hK K) | (refine Mix.soft_no rfl rfl ?_; apply Exists.intro; refine ⟨fun w' hS => ?_, fun K hK => ?_⟩; (first | (go_simp; done) | (go_simp; exact rfl)); simp only [List.setIfInBounds_toArray, List.set_cons_zero, List.set_cons_succ]; refine hK _ ?_; clear hK K) | (refine Mix.pin_not rfl rfl rfl rfl (fun K hK => ?_); simp only [List.setIfInBounds_toArray, List.set_cons_zero, List.set_cons_succ]; refine hK _ ?_; clear hK K) | (refine Mix.soft_not rfl rfl rfl rfl (fun K hK => ?_); simp only [List.setIfInBounds_toArray, List.set_cons_zero, List.set_cons_succ]; refine hK _ ?_; clear hK K) | (refine Mix.pin_yes rfl rfl rfl rfl (fun K hK => ?_); go_step; refine hK _ ?_; clear hK K) | (refine Mix.soft_yes rfl rfl rfl rfl ?_; apply Exists.intro; refine ⟨fun w' hS => ?_, fun K hK => ?_⟩; (first | (go_simp; done) | (go_simp; exact rfl)); simp only [List.setIfInBounds_toArray, List.set_cons_zero, List.set_cons_succ]; refine hK _ ?_; clear hK K))
  refine Mix.hard_no rfl (fun K hK => ?_)
  go_step
  refine hK _ _ ⟨by go_simp, ?_⟩
  clear hK K
  refine Mix.hard_no rfl (fun K hK => ?_)
  obtain ⟨i0, hi, hz0, hz1, hz2⟩ := info_parts infoNode
  have hown : (w1.drew.alloc (.cells #[.int .i64 k0, .string l, .int .i64 a, .int .i64 b] 27)).ownsRow 0 27 4 s.sl s.nodes.length (flat s.nodes) := ((HW1.out.drew).alloc _).arr
  refine wp_append_lies _ (.tmp 35) (.tmp 37) 22 (by rfl) 0 27 i0 _ 4 40 Try.underlying22 hi hz0 hz1 hz2 rfl (by decide) s.sl s.nodes.length (flat s.nodes) (by rw [HSL.out]; rfl) hown
    ⟨w1.heap.size, 0, none⟩ 1 1 (Nd.cells ⟨k0, l, a, b⟩) (by rfl) rfl (World.news_of_block (w := w1.drew.alloc (.cells #[.int .i64 k0, .string l, .int .i64 a, .int .i64 b] 27)) (B := w1.heap.size) heap_alloc_at) (Nd.oneCells _) (by decide) (by have := HF.out; unfold maxLen; omega) (by have := HF.out; omega) (Nat.zero_le _) _ rfl ?_
  intro g cap w2 hown2 hg2 hat2 hlt2
  have hne : ∀ k, s.own k → s.sl.ownBlock ≠ some k ∨ s.sl.ownBlock = some k := fun k _ => (Classical.em _).symm
  have hk2 : ∀ k, k < w1.heap.size → s.sl.ownBlock ≠ some k → w2.heap[k]? = w1.heap[k]? := fun k hk hn => by
    rw [hg2.block k (by simp; omega) (fun e => hn e.symm), heap_drew, heap_alloc_lt hk]
  have hs2 : w1.heap.size + 1 ≤ w2.heap.size := by have := hg2.size; simpa using this
  have hpn : s.sl.ownBlock ≠ some s.p := fun e => HW1.out.arr_ne_p e rfl
  have hmn : s.sl.ownBlock ≠ some s.m := fun e => HW1.out.arr_ne_m e rfl
  have hbn : s.sl.ownBlock ≠ some w.heap.size := fun e => by have := HS.out.arr_lt e; omega
  have hobj := (hk2 s.p hp1 hpn).trans HW1.out.obj
  have hmap := (hk2 s.m HW1.out.m_lt hmn).trans HW1.out.map
  have hbox := (hk2 w.heap.size (by omega) hbn).trans HBX.out
  have hc2 : Chg s.own w w2 := by
    refine (HC1.mono (fun _ _ h => h.elim)).trans (M' := fun k => s.sl.ownBlock = some k) ⟨hg2.os, hg2.tape, hg2.output, by omega, fun k hk hn => hk2 k hk hn⟩ (fun k _ h => .inr (.inr h))
  have hg1 : s.sl.ownBlock = some g ∨ w.heap.size ≤ g := hat2.imp id fun e => by rw [e]; simp; omega
  have hgp : g ≠ s.p := by rintro rfl; rcases hat2 with h | h; exact hpn h; simp at h; omega
  have hgm : g ≠ s.m := by rintro rfl; rcases hat2 with h | h; exact hmn h; simp at h; have := HW1.out.m_lt; omega
  have h20 := cell_of hobj 0
  have f20 := free_of hobj 0
  rw [HSL.out] at h20
  simp only [List.getElem?_toArray, List.getElem?_cons_zero, List.getElem?_cons_succ] at h20
  refine hK _ _ ⟨h20, ?_⟩
  clear hK K hg2 hat2 hown
  have HOBJ := Lib.hid hobj
  have HMAP := Lib.hid hmap
  have HBOX := Lib.hid hbox
  have HOWN := Lib.hid hown2
  have HK2 := Lib.hid hk2
  have HC2 := Lib.hid hc2
  have HG1 := Lib.hid hg1
  have HPM := Lib.hid (And.intro hgp hgm)
  clear hobj hmap hbox hown2 hk2 hc2 hg1 hgp hgm hne hpn hmn hbn e0 e1 e2 e3 h10 h11 hf0 hi hz0 hz1 hz2
  simp only [Act.put, List.setIfInBounds_toArray, List.set_cons_zero, List.set_cons_succ]
  repeat (first | (refine Mix.pin_no rfl rfl (fun K hK => ?_); go_step; refine hK _ ?_; clear hK K) | (refine Mix.pin_not rfl rfl rfl rfl (fun K hK => ?_); simp only [List.setIfInBounds_toArray, List.set_cons_zero, List.set_cons_succ]; refine hK _ ?_; clear hK K) | (refine Mix.pin_yes rfl rfl rfl rfl (fun K hK => ?_); go_step; refine hK _ ?_; clear hK K))
  refine Mix.last_no rfl (fun K hK => ?_)
  go_step
  refine hK _ _ ?_
  clear hK K
  refine Mix.walk_nil ?_
  go_wp2
  -- behind the first statement
  obtain ⟨hgp, hgm⟩ := HPM.out
  have hobj3 : (w2.setCell ⟨s.p, 0, none⟩ (.slice (some ⟨g, 0, none⟩) (s.nodes.length + 1) cap)).heap[s.p]? = some (.cells #[.slice (some ⟨g, 0, none⟩) (s.nodes.length + 1) cap, .map (some s.m), .int .i64 s.drawn] 53 (0, 0)) := by
    rw [heap_setCell_at HOBJ.out]; rfl
  have hmap3 : (w2.setCell ⟨s.p, 0, none⟩ (.slice (some ⟨g, 0, none⟩) (s.nodes.length + 1) cap)).heap[s.m]? = some (.map (entsFrom s.nodes 0).toArray s.nodes.length) := by
    rw [heap_setCell_ne (HS.out.p_ne_m).symm]; exact HMAP.out
  have hbox3 : (w2.setCell ⟨s.p, 0, none⟩ (.slice (some ⟨g, 0, none⟩) (s.nodes.length + 1) cap)).heap[w.heap.size]? = some (.cells #[.int .i64 k0, .string l, .int .i64 a, .int .i64 b] 27 (0, 0)) := by
    rw [heap_setCell_ne (by show w.heap.size ≠ s.p; omega)]; exact HBOX.out
  have hown3 : (w2.setCell ⟨s.p, 0, none⟩ (.slice (some ⟨g, 0, none⟩) (s.nodes.length + 1) cap)).ownsRow 0 27 4 (.slice (some ⟨g, 0, none⟩) (s.nodes.length + 1) cap) (s.nodes.length + 1) (flat s.nodes ++ Nd.cells ⟨k0, l, a, b⟩) :=
    row_keep HOWN.out fun b hb => by simp [Value.ownBlock] at hb; subst hb; exact heap_setCell_ne hgp
  have hc3 : Chg s.own w (w2.setCell ⟨s.p, 0, none⟩ (.slice (some ⟨g, 0, none⟩) (s.nodes.length + 1) cap)) := HC2.out.setCell (.inl (.inl rfl)) _
  have hs3 : w1.heap.size + 1 ≤ (w2.setCell ⟨s.p, 0, none⟩ (.slice (some ⟨g, 0, none⟩) (s.nodes.length + 1) cap)).heap.size := by simpa using hs2
  generalize w2.setCell ⟨s.p, 0, none⟩ (.slice (some ⟨g, 0, none⟩) (s.nodes.length + 1) cap) = w3 at *
  clear HOBJ HMAP HBOX HOWN HK2 HC2 HW1 HBX HC1 h20 f20 hs2
  have hm3 := lt_of_heap hmap3
  obtain ⟨w4, hup, y1, y2, y3, y4⟩ : ∃ w4, (Instr.mapUpdate 51 (.map (some s.m)) (.agg #[.int .i64 k0, .string l, .int .i64 a, .int .i64 b]) (.int .i64 ((s.nodes.length : Int) + 1))).run Try.prog w3.drew = .ok () w4 ∧
      w4.heap[s.p]? = some (.cells #[.slice (some ⟨g, 0, none⟩) (s.nodes.length + 1) cap, .map (some s.m), .int .i64 s.drawn] 53 (0, 0)) ∧
      w4.heap[s.m]? = some (.map ((entsFrom s.nodes 0).toArray.push (ent ⟨k0, l, a, b⟩ s.nodes.length)) (s.nodes.length + 1)) ∧
      w4.ownsRow 0 27 4 (.slice (some ⟨g, 0, none⟩) (s.nodes.length + 1) cap) (s.nodes.length + 1) (flat s.nodes ++ Nd.cells ⟨k0, l, a, b⟩) ∧ Chg s.own w w4 :=
    ⟨putObj w3.drew s.m (.map ((entsFrom s.nodes 0).toArray.push (ent ⟨k0, l, a, b⟩ s.nodes.length)) (s.nodes.length + 1)),
      run_update_new (w := w3.drew) hmap3 ⟨k0, l, a, b⟩ HK.out (.int .i64 ((s.nodes.length : Int) + 1)),
      by rw [heap_putObj_ne HS.out.p_ne_m]; exact hobj3, heap_putObj_at hm3,
      row_keep hown3 fun b hb => by simp [Value.ownBlock] at hb; subst hb; exact heap_putObj_ne hgm,
      (hc3.drew).putObj (.inl (.inr (.inl rfl))) _⟩
  have e0 := cell_of hbox3 0
  have e1 := cell_of hbox3 1
  have e2 := cell_of hbox3 2
  have e3 := cell_of hbox3 3
  have o0 := cell_of hobj3 0
  have o1 := cell_of hobj3 1
  simp only [List.getElem?_toArray, List.getElem?_cons_zero, List.getElem?_cons_succ] at e0 e1 e2 e3 o0 o1
  have Y1 := Lib.hid y1
  have Y2 := Lib.hid y2
  have Y3 := Lib.hid y3
  have c0' := cell_of y1 0
  simp only [List.getElem?_toArray, List.getElem?_cons_zero, List.getElem?_cons_succ] at c0'
  clear y1 y2 y3 hc3 hs3 hm3
  clear hobj3 hown3 hmap3 hbox3
  refine Mix.wp_region_mix (fun _ => True) (fun i => [0, 1, 3, 7, 0, 0, 32, 96, 224, 480, 1023].getD i 0) (fun i => [2, 2, 2, 2, 2, 2, 2, 2, 2, 2, 3].getD i 0) (by kernel_rfl) ⟨by kernel_rfl, by kernel_rfl, by kernel_rfl, by kernel_rfl, by kernel_rfl⟩ trivial ?_; simp only [Mix.whole, List.getD_cons_zero, List.getD_cons_succ, Nat.reduceAdd]
  repeat (first | (refine Mix.pin_no rfl rfl (fun K hK => ?_); go_step; refine hK _ ?_; clear hK K) | (refine Mix.pin_not rfl rfl rfl rfl (fun K hK => ?_); simp only [List.setIfInBounds_toArray, List.set_cons_zero, List.set_cons_succ]; refine hK _ ?_; clear hK K) | (refine Mix.pin_yes rfl rfl rfl rfl (fun K hK => ?_); go_step; refine hK _ ?_; clear hK K))
  refine Mix.last_no rfl (fun K hK => ?_)
  go_step
  refine hK _ _ ?_
  clear hK K hup e0 e1 e2 e3 o0 o1
  refine Mix.walk_nil ?_
  go_wp2
  go_ret2
  refine ⟨by simp, ⟨⟨⟨s.p, s.m, .slice (some ⟨g, 0, none⟩) (s.nodes.length + 1) cap, s.nodes ++ [⟨k0, l, a, b⟩], s.drawn⟩, ⟨Y1.out, ?_, ?_, ?_, ?_, HS.out.drawn0, HS.out.drawn1, HS.out.wf.snoc HR.out⟩, rfl, rfl, rfl, ?_, y4⟩⟩⟩
  · rw [Y2.out, entsFrom_append, List.push_toArray]
    simp only [entsFrom, Nat.zero_add, List.length_append, List.length_cons, List.length_nil]
  · simp only [flat_append, flat_one, List.length_append, List.length_cons, List.length_nil]
    exact Y3.out
  · exact nodup_snoc HS.out.nodup HK.out
  · simp only [List.length_append, List.length_cons, List.length_nil]; have := HF.out; omega
  · rintro k (rfl | rfl | hk)
    · exact .inl (.inl rfl)
    · exact .inl (.inr (.inl rfl))
    · simp [Value.ownBlock] at hk
      subst hk
      exact HG1.out.imp (fun h => .inr (.inr h)) id

theorem make_calls {s : St} {w : World} (h : StoreAt w s) (n : Nd) :
    Calls Try.prog 13 #[s.ptr, n.v] w fun e w' => e = .returned (.tuple #[.int .i64 (mkT s.nodes n), .int .i64 (mkE s.nodes n)]) ∧ Next s w (mkL s.nodes n) s.drawn w' := by
  cases hk : idx s.nodes n with
  | some k =>
    refine (make_old h n hk).mono ?_
    rintro e w' ⟨rfl, hc⟩
    simp only [mkT, mkE, mkL, hk]
    exact ⟨trivial, .same h hc⟩
  | none =>
    cases hr : rightB s.nodes n with
    | false =>
      refine (make_bad h n hk hr).mono ?_
      rintro e w' ⟨rfl, hc⟩
      simp only [mkT, mkE, mkL, hk, hr, Bool.false_eq_true, if_false]
      exact ⟨trivial, .same h hc⟩
    | true =>
      rcases Nat.lt_or_ge s.nodes.length 262144 with hf | hf
      · refine (make_new h n hk hr hf).mono ?_
        rintro e w' ⟨rfl, hc⟩
        simp only [mkT, mkE, mkL, hk, hr, if_true, if_neg (Nat.not_le.2 hf)]
        exact ⟨trivial, hc⟩
      · refine (make_full h n hk hr hf).mono ?_
        rintro e w' ⟨rfl, hc⟩
        simp only [mkT, mkE, mkL, hk, hr, if_true, if_pos hf]
        exact ⟨trivial, .same h hc⟩

end Go.Proofs.Ytlppagjnnlmnmaa
