/- 'TermOnce' returns true. -/
import Derived.Test.YtlppagjnnlmnmaaAnchor1
import Derived.Test.YtlppagjnnlmnmaaOpen1
set_option linter.unusedVariables false
set_option linter.unusedSimpArgs false
namespace Go.Proofs.Ytlppagjnnlmnmaa
open Go.RowKit

/-- What holds at the head of the first loop's rounds. -/
structure Once1 (W : World) (l : List Nd) (p : Nat) (v : Value) (k : Nat) (wr : World) (L : List Nd) : Prop where
  own : Own (fun b => b < W.heap.size ∨ v.ownBlock = some b) wr p L 0
  row : wr.ownsRow W.heap.size 27 4 v L.length (flat L)
  kept : Kept (fun b => b < W.heap.size) W wr
  small : L.length ≤ k

theorem Once1.keep {W : World} {l : List Nd} {p : Nat} {v : Value} {k : Nat} {wr : World} {L : List Nd} (h : Once1 W l p v k wr L) {o : Obj} {w' : World}
    (OB : Own (fun k => (k < W.heap.size ∨ v.ownBlock = some k) ∨ k = wr.heap.size) w' p L 0) (KB : Kept (fun k => (k < W.heap.size ∨ v.ownBlock = some k) ∨ k = wr.heap.size) (wr.alloc o) w') : Once1 W l p v (k + 1) w' L := by
  refine ⟨OB.mono fun _ h => .inl h, KB.row (row_keep h.row fun b hb => heap_alloc_lt (own_block_lt h.row hb)) (fun b hb => .inl (.inr hb)), ?_, Nat.le_succ_of_le h.small⟩
  exact (h.kept.alloc (fun b hb => h.own.lt b (.inl hb)) _).trans KB fun b hb => .inl (.inl hb)

theorem grown_chg {w w' : World} {row : Option Nat} (h : w.grownBy w' row) : Chg (fun k => row = some k) w w' :=
  ⟨h.os, h.tape, h.output, h.size, fun k hk hn => h.block k hk (fun e => hn e.symm)⟩

theorem Once1.grow {W : World} {l : List Nd} {p : Nat} {v : Value} {k : Nat} {wr : World} {L L' : List Nd} (h : Once1 W l p v k wr L) {o o5 : Obj} {w5 w6 : World} {g c n : Nat}
    (OB : Own (fun k => (k < W.heap.size ∨ v.ownBlock = some k) ∨ k = wr.heap.size) w5 p L' 0) (KB : Kept (fun k => (k < W.heap.size ∨ v.ownBlock = some k) ∨ k = wr.heap.size) (wr.alloc o) w5)
    (hown : w6.ownsRow W.heap.size 27 4 (.slice (some ⟨g, 0, none⟩) n c) L'.length (flat L')) (hg : (w5.alloc o5).grownBy w6 v.ownBlock) (hat : v.ownBlock = some g ∨ g = (w5.alloc o5).heap.size) (hlt : g < w6.heap.size)
    (hl : L'.length ≤ k + 1) : Once1 W l p (.slice (some ⟨g, 0, none⟩) n c) (k + 1) w6 L' := by
  have hc := grown_chg hg
  have h1 := (OB.alloc o5).chg hc (fun b hb => .inl (.inl (.inr hb)))
  refine ⟨h1.mono fun b hb => ?_, hown, ?_, hl⟩
  · rcases hb with hb | hb
    · exact .inl (.inl (.inl (.inl hb)))
    · simp [Value.ownBlock] at hb
      subst hb
      rcases hat with h | h
      · exact .inl (.inl (.inl (.inr h)))
      · exact .inr ⟨by omega, hlt⟩
  · have k1 : Kept (fun b => b < W.heap.size) W w5 := (h.kept.alloc (fun b hb => h.own.lt b (.inl hb)) _).trans KB fun b hb => .inl (.inl hb)
    refine (k1.alloc (fun b hb => OB.lt b (.inl (.inl hb))) o5).trans (Y := fun b => b < W.heap.size) ⟨hc.os, hc.tape, hc.output, hc.size, fun b hb => hc.block b ?_ ?_⟩ (fun _ h => h)
    · have := OB.lt b (.inl (.inl hb)); simp; omega
    · intro e; have := (h.row.lt b e).1; omega

theorem kept_cells {B : Nat} {v : Value} {wr w4 : World} {o : Obj} (KB : Kept (fun k => (k < B ∨ v.ownBlock = some k) ∨ k = wr.heap.size) (wr.alloc o) w4) :
    (∀ i, w4.cell? ⟨wr.heap.size, i, none⟩ = (wr.alloc o).cell? ⟨wr.heap.size, i, none⟩) ∧ (∀ b, v.ownBlock = some b → b < wr.heap.size → ∀ i, w4.cell? ⟨b, i, none⟩ = wr.cell? ⟨b, i, none⟩) :=
  ⟨fun i => cell_eq (KB.block _ (.inr rfl)), fun b hb hlt i => cell_eq ((KB.block _ (.inl (.inr hb))).trans (heap_alloc_lt hlt))⟩

/-- What holds at the head of the second loop's rounds. -/
structure Once2 (W : World) (p g c : Nat) (wr : World) (L : List Nd) : Prop where
  own : Own (fun b => b < W.heap.size ∨ b = g) wr p L 0
  row : wr.ownsRow W.heap.size 27 4 (.slice (some ⟨g, 0, none⟩) L.length c) L.length (flat L)
  kept : Kept (fun b => b < W.heap.size) W wr

theorem Once2.keep {W : World} {p g c : Nat} {wr : World} {L : List Nd} (h : Once2 W p g c wr L) {o o3 : Obj} {w3 w4 : World} 
    (OB : Own (fun k => (k < W.heap.size ∨ k = g) ∨ k = wr.heap.size) w3 p L 0) (KB : Kept (fun k => (k < W.heap.size ∨ k = g) ∨ k = wr.heap.size) (wr.alloc o) w3)
    (OC : Own (fun k => ((k < W.heap.size ∨ k = g) ∨ k = wr.heap.size) ∨ k = w3.heap.size) w4 p L 0) (KC : Kept (fun k => ((k < W.heap.size ∨ k = g) ∨ k = wr.heap.size) ∨ k = w3.heap.size) (w3.alloc o3) w4) : Once2 W p g c w4 L := by
  have k1 : Kept (fun k => k < W.heap.size ∨ k = g) (wr.alloc o) w3 := KB.mono fun k h => .inl h
  have k2 : Kept (fun k => k < W.heap.size ∨ k = g) (w3.alloc o3) w4 := KC.mono fun k h => .inl (.inl h)
  have k3 : Kept (fun k => k < W.heap.size ∨ k = g) wr (wr.alloc o) := (Kept.refl _ _).alloc (fun b hb => h.own.lt b hb) o
  have k4 : Kept (fun k => k < W.heap.size ∨ k = g) w3 (w3.alloc o3) := (Kept.refl _ _).alloc (fun b hb => OB.lt b (.inl hb)) o3
  have kk := ((k3.trans k1 (fun _ h => h)).trans k4 (fun _ h => h)).trans k2 (fun _ h => h)
  exact ⟨OC.mono fun b hb => .inl (.inl hb), kk.row h.row (fun b hb => .inr (by simpa [Value.ownBlock] using hb.symm)), h.kept.trans kk fun b hb => .inl hb⟩

def OnceRel2 (W : World) (p g c : Nat) (L : List Nd) (i : Value) (wr : World) : Prop := ∃ k : Nat, k ≤ L.length ∧ i = .int .i64 k ∧ Once2 W p g c wr L

theorem once_again {L : List Nd} (hn : L.Nodup) {k : Nat} (hk : k < L.length) : mkT L L[k] = (k : Int) + 1 ∧ mkE L L[k] = 0 ∧ mkL L L[k] = L ∧ getN L ((k : Int) + 1) = L[k] ∧ knownB L.length ((k : Int) + 1) = true := by
  have h := idx_of_get hn hk
  refine ⟨by simp [mkT, h], by simp [mkE, h], by simp [mkL, h], ?_, by simp [knownB]; omega⟩
  unfold getN
  rw [if_pos (by simp [knownB]; omega)]
  exact nodeAt_get L hk

theorem row_node {w : World} {base g c n : Nat} {L : List Nd} (h : w.ownsRow base 27 4 (.slice (some ⟨g, 0, none⟩) n c) L.length (flat L)) {k : Nat} (hk : k < L.length) :
    w.cell? ⟨g, k * 4, none⟩ = some (.int .i64 (L[k]).kind) ∧ w.cell? ⟨g, k * 4 + 1, none⟩ = some (.string (L[k]).label) ∧ w.cell? ⟨g, k * 4 + 2, none⟩ = some (.int .i64 (L[k]).a) ∧ w.cell? ⟨g, k * 4 + 3, none⟩ = some (.int .i64 (L[k]).b) := by
  obtain ⟨cap, cur, _, q1, _, _, _, q2⟩ := own_row h (b := g) rfl
  have hrow : ∀ i, i < 4 → w.cell? ⟨g, k * 4 + i, none⟩ = (L[k]).cells[i]? := fun i hi => by
    rw [cell_of q1, show k * 4 + i = 4 * k + i by omega, ← Array.getElem?_toList, ← flat_get L k hk i hi, ← q2, List.getElem?_take, if_pos (by omega)]
  exact ⟨hrow 0 (by omega), hrow 1 (by omega), hrow 2 (by omega), hrow 3 (by omega)⟩

def OnceRel (W : World) (l : List Nd) (p : Nat) (v i : Value) (wr : World) : Prop := ∃ (k : Nat) (L : List Nd), k ≤ l.length ∧ k ≤ 3000 ∧ i = .int .i64 k ∧ Once1 W l p v k wr L

set_option maxRecDepth 100000 in
set_option maxHeartbeats 4000000 in
theorem once_walk (a : Option Addr) (cap : Nat) (l : List Nd) (w : World) (h : InNodes w a l) :
    Calls Try.prog 3 #[.slice a l.length cap] w fun e w' => e = .returned (.bool true) ∧ Below w.heap.size w w' := by
  go_enter Try.func3, Try.ntmps3
  go_wp2_with (first
    | (go_at_call 10; refine (anchor_calls _).mono ?_; rintro e w1 ⟨rfl, c1⟩)
    | (go_at_call 11; refine (new_own _).mono ?_; rintro e w2 ⟨p, rfl, O0, K0⟩))
  have O1 : Own (fun b => b < w.heap.size) w2 p [] 0 := O0.mono fun k hk => Nat.lt_of_lt_of_le hk c1.size
  have K1 : Kept (fun b => b < w.heap.size) w w2 := (c1.kept (fun _ h => h)).trans (K0.kept (X := fun b => b < w1.heap.size) (fun _ h => h)) (fun k hk => Nat.lt_of_lt_of_le hk c1.size)
  clear O0 K0 c1
  go_loopw [4, 23] (fun v i wr => OnceRel w l p v i wr) (fun _ i _ => l.length - (intOf i).toNat)
  case atStart => exact ⟨0, [], Nat.zero_le _, Nat.zero_le _, rfl, ⟨O1.mono (fun k hk => by simpa [Value.ownBlock] using hk), World.ownsRow_nil _ _ _ _, K1, Nat.le_refl _⟩⟩
  case round =>
    clear O1 K1
    obtain ⟨k, L, hk, hk3, rfl, hr1⟩ := hrel
    have HR := Lib.hid hr1
    clear hr1
    by_cases hlt : k < l.length
    · have hne : l ≠ [] := by rintro rfl; simp at hlt
      rcases h with h | ⟨b, off, rfl, hb, hc⟩
      · exact absurd h hne
      obtain ⟨c0, c1, c2, c3⟩ := hc k hlt
      have g0 := (HR.out.kept.cells.1 b (off + k * 4) hb).trans c0
      have g1 := (HR.out.kept.cells.1 b (off + k * 4 + 1) hb).trans c1
      have g2 := (HR.out.kept.cells.1 b (off + k * 4 + 2) hb).trans c2
      have g3 := (HR.out.kept.cells.1 b (off + k * 4 + 3) hb).trans c3
      clear hc c0 c1 c2 c3 hne
      by_cases h3 : k = 3000
      · subst h3
        go_wp2
        go_ret
        exact ⟨rfl, (HR.out.kept.alloc (fun b hb => HR.out.own.lt b (.inl hb)) _).below (fun k hk => hk)⟩
      have hk3' : decide ((3000 : Int) ≤ (k : Int)) = false := by simp; omega
      have HK3 := Lib.hid hk3
      have H3 := Lib.hid h3
      have hki : (k : Int) ≤ 3000 := by omega
      clear hk3 h3
      generalize hn : l[k] = n at *
      clear hn
      have OA := (HR.out.own).alloc (.cells #[.int .i64 n.kind, .string n.label, .int .i64 n.a, .int .i64 n.b] 27)
      rcases mk_cases L n with ⟨j, hj, e0, e1, e2, e3⟩ | ⟨_, hr, e1, e2, e3⟩ | ⟨_, hr, hL, e1, e2, e3⟩ | ⟨_, hr, hL, e1, e2, e3⟩
      · have hlen := OA.len
        have hmk := OA.make n
        rw [e1, e2, e3] at hmk
        have HL := Lib.hid hlen
        have HM := Lib.hid hmk
        rcases HR.out.row.2 with ⟨_, hz⟩ | ⟨g, cap2, cur, rfl, hg0, hg, hg1, hg2, hg3, hg4⟩
        · omega
        have hgX : w.heap.size ≤ g ∧ g < wr.heap.size := ⟨hg0, lt_of_heap hg⟩
        have hrow : ∀ i, i < 4 → wr.cell? ⟨g, j * 4 + i, none⟩ = n.cells[i]? := fun i hi => by
          rw [cell_of hg, ← e0, ← flat_get _ j hj i hi, ← hg4, List.getElem?_take, if_pos (by omega), Array.getElem?_toList, Nat.mul_comm]
        have r0 := hrow 0 (by omega)
        have r1 := hrow 1 (by omega)
        have r2 := hrow 2 (by omega)
        have r3 := hrow 3 (by omega)
        simp only [Nd.cells, List.getElem?_cons_zero, List.getElem?_cons_succ, Nat.add_zero] at r0 r1 r2 r3
        have hmax : max (L.length : Int) ((j : Int) + 1) = (L.length : Int) := by omega
        have hj1 : ((j : Int) + 1 == (L.length : Int) + 1) = false := by simp; omega
        have hj2 : ((j : Int) == (L.length : Int)) = false := by simp; omega
        have hji : (j : Int) < (L.length : Int) := by omega
        have hLi : (L.length : Int) ≤ 262144 := by have := OA.len_le; omega
        clear hlen hmk e1 e2 e3 hrow hg hg1 hg2 hg3 hg4 hg0 e0
        obtain ⟨n0, n1, n2, n3⟩ := n
        dsimp only at *
        go_wp2_with (first
          | (go_at_call 12; refine (HL.out).mono ?_; rintro e w3 ⟨rfl, rfl⟩)
          | (go_at_call 13; refine (HM.out).mono ?_; rintro e w4 ⟨rfl, OB, KB⟩; obtain ⟨qb, qg⟩ := kept_cells KB; replace qg := qg g rfl hgX.2)
          | (go_at_call 12; refine (OB.len).mono ?_; rintro e w5 ⟨rfl, rfl⟩))
        refine Mix.wp_region_mix (fun _ => True) (fun i => [0, 1, 0, 4, 15, 31, 63, 63, 191, 511, 1023, 63, 4095, 8191].getD i 0) (fun i => [1, 1, 2, 0, 2, 2, 2, 2, 2, 2, 2, 2, 2, 2].getD i 0) (by kernel_rfl) ⟨by kernel_rfl, by kernel_rfl, by kernel_rfl, by kernel_rfl, by kernel_rfl⟩ trivial ?_; simp only [Mix.whole, List.getD_cons_zero, List.getD_cons_succ, Nat.reduceAdd]
        repeat (first | (refine Mix.pin_no rfl rfl (fun K hK => ?_); go_step; refine hK _ ?_; clear hK K) | (refine Mix.soft_no rfl rfl ?_; apply Exists.intro; refine ⟨fun w' hS => ?_, fun K hK => ?_⟩; (first | (go_simp; done) | (go_simp; exact rfl)); simp only [List.setIfInBounds_toArray, List.set_cons_zero, List.set_cons_succ]; refine hK _ ?_; clear hK K) | (refine Mix.pin_not rfl rfl rfl rfl (fun K hK => ?_); simp only [List.setIfInBounds_toArray, List.set_cons_zero, List.set_cons_succ]; refine hK _ ?_; clear hK K) | (refine Mix.soft_not rfl rfl rfl rfl (fun K hK => ?_); simp only [List.setIfInBounds_toArray, List.set_cons_zero, List.set_cons_succ]; refine hK _ ?_; clear hK K) | (refine Mix.pin_yes rfl rfl rfl rfl (fun K hK => ?_); go_step; refine hK _ ?_; clear hK K) | (refine Mix.soft_yes rfl rfl rfl rfl ?_; apply Exists.intro; refine ⟨fun w' hS => ?_, fun K hK => ?_⟩; (first | (go_simp; done) | (go_simp; exact rfl)); simp only [List.setIfInBounds_toArray, List.set_cons_zero, List.set_cons_succ]; refine hK _ ?_; clear hK K))
        refine Mix.hard_no rfl (fun K hK => ?_); go_step; refine (OB.drew.len).mono ?_; rintro e w6 ⟨rfl, rfl⟩; dsimp only
        refine hK _ _ ⟨trivial, ?_⟩
        clear hK K
        try simp only [Act.put, List.setIfInBounds_toArray, List.set_cons_zero, List.set_cons_succ]
        repeat (first | (refine Mix.pin_no rfl rfl (fun K hK => ?_); go_step; refine hK _ ?_; clear hK K) | (refine Mix.pin_not rfl rfl rfl rfl (fun K hK => ?_); simp only [List.setIfInBounds_toArray, List.set_cons_zero, List.set_cons_succ]; refine hK _ ?_; clear hK K) | (refine Mix.pin_yes rfl rfl rfl rfl (fun K hK => ?_); go_step; refine hK _ ?_; clear hK K))
        refine Mix.walk_nil ?_
        go_wp2
        exact ⟨⟨k + 1, L, by omega, by have := HK3.out; have := H3.out; omega, by go_num, HR.out.keep OB.drew KB.drew⟩, by simp [intOf]; omega⟩
      · have hlen := OA.len
        have hmk := OA.make n
        rw [e1, e2, e3] at hmk
        have HL := Lib.hid hlen
        have HM := Lib.hid hmk
        clear hlen hmk e1 e2 e3 hr
        obtain ⟨n0, n1, n2, n3⟩ := n
        dsimp only at *
        go_wp2_with (first
          | (go_at_call 12; refine (HL.out).mono ?_; rintro e w3 ⟨rfl, rfl⟩)
          | (go_at_call 13; refine (HM.out).mono ?_; rintro e w4 ⟨rfl, OB, KB⟩)
          | (go_at_call 12; refine (OB.len).mono ?_; rintro e w5 ⟨rfl, rfl⟩))
        exact ⟨⟨k + 1, L, by omega, by have := HK3.out; have := H3.out; omega, by go_num, HR.out.keep OB KB⟩, by simp [intOf]; omega⟩
      · have hlen := OA.len
        have hmk := OA.make n
        rw [e1, e2, e3] at hmk
        have HL := Lib.hid hlen
        have HM := Lib.hid hmk
        clear hlen hmk e1 e2 e3 hr hL
        obtain ⟨n0, n1, n2, n3⟩ := n
        dsimp only at *
        go_wp2_with (first
          | (go_at_call 12; refine (HL.out).mono ?_; rintro e w3 ⟨rfl, rfl⟩)
          | (go_at_call 13; refine (HM.out).mono ?_; rintro e w4 ⟨rfl, OB, KB⟩)
          | (go_at_call 12; refine (OB.len).mono ?_; rintro e w5 ⟨rfl, rfl⟩))
        exact ⟨⟨k + 1, L, by omega, by have := HK3.out; have := H3.out; omega, by go_num, HR.out.keep OB KB⟩, by simp [intOf]; omega⟩
      · have hlen := OA.len
        have hmk := OA.make n
        rw [e1, e2, e3] at hmk
        have HL := Lib.hid hlen
        have HM := Lib.hid hmk
        have hmax : max (L.length : Int) ((L.length : Int) + 1) = (L.length : Int) + 1 := by omega
        have hLi : (L.length : Int) ≤ 262144 := by have := OA.len_le; omega
        have hsz1 : (L ++ [n]).length = L.length + 1 := by simp
        clear hlen hmk e1 e2 e3 hr hL
        generalize hLn : L ++ [n] = L' at *
        have HLn := Lib.hid hLn
        have HN1 := Lib.hid hsz1
        clear hLn
        obtain ⟨i0, hi, hz0, hz1, hz2⟩ := info_parts infoNode
        have HI := Lib.hid (And.intro hi (And.intro hz0 (And.intro hz1 hz2)))
        clear hi hz0 hz1 hz2
        obtain ⟨n0, n1, n2, n3⟩ := n
        dsimp only at *
        go_wp2_with (first
          | (go_at_call 12; refine (HL.out).mono ?_; rintro e w3 ⟨rfl, rfl⟩)
          | (go_at_call 13; refine (HM.out).mono ?_; rintro e w4 ⟨rfl, OB, KB⟩; obtain ⟨qb, qg⟩ := kept_cells KB)
          | (go_at_call 12; refine (OB.len).mono ?_; rintro e w5 ⟨rfl, rfl⟩)
          | (at_builtin; refine wpList_append_lies _ rfl _ _ _ rfl w.heap.size 27 i0 _ 4 40 Try.underlying22 HI.out.1 HI.out.2.1 HI.out.2.2.1 HI.out.2.2.2 rfl (by decide) u4 L.length (flat L) rfl ?c1 ⟨w5.heap.size, 0, none⟩ 1 1 (Nd.cells ⟨n0, n1, n2, n3⟩) rfl rfl ?c2 (Nd.oneCells _) (by decide) ?c3 ?c4 ?c5 _ rfl ?_))
        case c1 => exact row_keep (KB.row (row_keep HR.out.row fun b hb => heap_alloc_lt (own_block_lt HR.out.row hb)) (fun b hb => .inl (.inr hb))) fun b hb => heap_alloc_lt (by have := OB.lt b (.inl (.inr hb)); omega)
        case c2 => exact World.news_of_block (w := w5.alloc (.cells #[.int .i64 n0, .string n1, .int .i64 n2, .int .i64 n3] 27)) (B := w5.heap.size) heap_alloc_at
        case c3 => unfold maxLen; omega
        case c4 => omega
        case c5 => have := HR.out.kept.size; have := KB.size; simp at this ⊢; omega
        intro g cap3 w6 hown6 hg6 hat6 hlt6
        have hflat : flat L ++ Nd.cells ⟨n0, n1, n2, n3⟩ = flat L' := by rw [← HLn.out, flat_append, flat_one]
        rw [hflat, ← HN1.out] at hown6
        have H6 := HR.out.grow OB KB hown6 hg6 (by simpa using hat6) hlt6 (by rw [HN1.out]; have := HR.out.small; omega)
        have hbx : ∀ i, w6.cell? ⟨wr.heap.size, i, none⟩ = w5.cell? ⟨wr.heap.size, i, none⟩ := fun i => by
          have h1 := OB.lt wr.heap.size (.inr rfl)
          refine cell_eq ((hg6.block _ (by simp; omega) ?_).trans (heap_alloc_lt h1))
          intro e; have := own_block_lt HR.out.row e.symm; omega
        have hrow : ∀ i, i < 4 → w6.cell? ⟨g, L.length * 4 + i, none⟩ = (Nd.cells ⟨n0, n1, n2, n3⟩)[i]? := fun i hi => by
          obtain ⟨cap, cur, _, q1, _, _, _, q2⟩ := own_row hown6 (b := g) rfl
          have hL' : L.length < L'.length := by rw [HN1.out]; omega
          rw [cell_of q1, show L.length * 4 + i = 4 * L.length + i by omega, ← Array.getElem?_toList]
          have q3 := flat_get L' L.length hL' i hi
          rw [show L'[L.length] = ⟨n0, n1, n2, n3⟩ by simp [← HLn.out]] at q3
          rw [← q3, ← q2, List.getElem?_take, if_pos (by rw [HN1.out]; omega)]
        have r0 := hrow 0 (by omega)
        have r1 := hrow 1 (by omega)
        have r2 := hrow 2 (by omega)
        have r3 := hrow 3 (by omega)
        simp only [Nd.cells, List.getElem?_cons_zero, List.getElem?_cons_succ, Nat.add_zero] at r0 r1 r2 r3
        have OL := H6.own
        have H6' := Lib.hid H6
        clear hg6 hat6 hlt6 hown6 hrow hflat KB OB qg H6
        go_wp2
        refine Mix.wp_region_mix (fun _ => True) (fun i => [0, 1, 0, 4, 15, 31, 63, 63, 191, 511, 1023, 63, 4095, 8191].getD i 0) (fun i => [1, 1, 2, 0, 2, 2, 2, 2, 2, 2, 2, 2, 2, 2].getD i 0) (by kernel_rfl) ⟨by kernel_rfl, by kernel_rfl, by kernel_rfl, by kernel_rfl, by kernel_rfl⟩ trivial ?_; simp only [Mix.whole, List.getD_cons_zero, List.getD_cons_succ, Nat.reduceAdd]
        repeat (first | (refine Mix.pin_no rfl rfl (fun K hK => ?_); go_step; refine hK _ ?_; clear hK K) | (refine Mix.soft_no rfl rfl ?_; apply Exists.intro; refine ⟨fun w' hS => ?_, fun K hK => ?_⟩; (first | (go_simp; done) | (go_simp; exact rfl)); simp only [List.setIfInBounds_toArray, List.set_cons_zero, List.set_cons_succ]; refine hK _ ?_; clear hK K) | (refine Mix.pin_not rfl rfl rfl rfl (fun K hK => ?_); simp only [List.setIfInBounds_toArray, List.set_cons_zero, List.set_cons_succ]; refine hK _ ?_; clear hK K) | (refine Mix.soft_not rfl rfl rfl rfl (fun K hK => ?_); simp only [List.setIfInBounds_toArray, List.set_cons_zero, List.set_cons_succ]; refine hK _ ?_; clear hK K) | (refine Mix.pin_yes rfl rfl rfl rfl (fun K hK => ?_); go_step; refine hK _ ?_; clear hK K) | (refine Mix.soft_yes rfl rfl rfl rfl ?_; apply Exists.intro; refine ⟨fun w' hS => ?_, fun K hK => ?_⟩; (first | (go_simp; done) | (go_simp; exact rfl)); simp only [List.setIfInBounds_toArray, List.set_cons_zero, List.set_cons_succ]; refine hK _ ?_; clear hK K))
        refine Mix.hard_no rfl (fun K hK => ?_); go_step; refine (OL.drew.len).mono ?_; rintro e w7 ⟨rfl, rfl⟩; dsimp only
        refine hK _ _ ⟨trivial, ?_⟩
        clear hK K
        repeat (first | (refine Mix.pin_no rfl rfl (fun K hK => ?_); go_step; refine hK _ ?_; clear hK K) | (refine Mix.pin_not rfl rfl rfl rfl (fun K hK => ?_); simp only [List.setIfInBounds_toArray, List.set_cons_zero, List.set_cons_succ]; refine hK _ ?_; clear hK K) | (refine Mix.pin_yes rfl rfl rfl rfl (fun K hK => ?_); go_step; refine hK _ ?_; clear hK K))
        refine Mix.walk_nil ?_
        go_wp2
        exact ⟨⟨k + 1, L', by omega, by have := HK3.out; have := H3.out; omega, by go_num, (by have := H6'.out; rw [HN1.out] at this; exact ⟨this.own.drew, this.row.drew, this.kept.drew, this.small⟩)⟩, by simp [intOf]; omega⟩
    · have hLi : (L.length : Int) ≤ 262144 := by have := HR.out.own.len_le; omega
      have hnd := HR.out.own.nodup
      have HND := Lib.hid hnd
      clear hk3 hk hnd
      rcases HR.out.row.2 with ⟨rfl, hz⟩ | ⟨g, cv, cur, rfl, hg0, hg, _⟩
      · have hL0 : L = [] := List.length_eq_zero_iff.1 hz
        subst hL0
        have HO := HR.out.own
        go_wp2
        go_loopw [89] (fun i wr' => i = .int .i64 0 ∧ wr' = wr) (fun i _ => 0)
        case atStart => exact ⟨rfl, rfl⟩
        case round =>
          obtain ⟨rfl, rfl⟩ := hrel
          go_wp2_with (go_at_call 12; refine (HO.len).mono ?_; rintro e w3 ⟨rfl, rfl⟩)
          go_ret
          exact ⟨by simp, HR.out.kept.below (fun k hk => hk)⟩
      · have HR2 : Once2 w p g cv wr L := ⟨HR.out.own.mono (fun b hb => hb.imp id (fun e => by simp [Value.ownBlock, e])), HR.out.row, HR.out.kept⟩
        clear hg0 hg HR
        go_wp2
        go_loopw [89] (fun i wr' => OnceRel2 w p g cv L i wr') (fun i _ => L.length - (intOf i).toNat)
        case atStart => exact ⟨0, Nat.zero_le _, rfl, HR2⟩
        case round =>
          clear HR2
          obtain ⟨j, hj, rfl, hr2⟩ := hrel
          have HR := Lib.hid hr2
          by_cases hlt2 : j < L.length
          · obtain ⟨e1, e2, e3, e4, e5⟩ := once_again HND.out hlt2
            obtain ⟨r0, r1, r2, r3⟩ := row_node hr2.row hlt2
            have OA := (hr2.own).alloc (.cells #[.int .i64 (L[j]).kind, .string (L[j]).label, .int .i64 (L[j]).a, .int .i64 (L[j]).b] 27)
            have hget := OA.get ((j : Int) + 1)
            rw [e4, e5] at hget
            generalize L[j] = n at *
            have HG := Lib.hid hget
            have HE := Lib.hid (And.intro e1 (And.intro e2 e3))
            clear hget e1 e2 e3 e4 e5 hr2
            obtain ⟨n0, n1, n2, n3⟩ := n
            dsimp only at *
            go_wp2_with (first
              | (go_at_call 14; refine (HG.out).mono ?_; rintro e w3 ⟨rfl, OB, KB⟩; have hb3 : wr.heap.size < w3.heap.size := (by have := KB.size; simp at this; omega); have qb := fun i => cell_eq (i := i) (KB.block wr.heap.size (.inr rfl)))
              | (go_at_call 13; refine ((OB.alloc _).make ⟨n0, n1, n2, n3⟩).mono ?_; rintro e w4 ⟨rfl, OC, KC⟩; rw [HE.out.2.2] at OC; simp only [HE.out.1, HE.out.2.1]; have qc := fun i => cell_eq (i := i) (KC.block w3.heap.size (.inr rfl)); have qd := fun i => cell_eq (i := i) (KC.block wr.heap.size (.inl (.inr rfl)))))
            exact ⟨⟨j + 1, by omega, by go_num, HR.out.keep OB KB OC KC⟩, by simp [intOf]; omega⟩
          · go_wp2_with (go_at_call 12; refine (hr2.own.len).mono ?_; rintro e w3 ⟨rfl, rfl⟩)
            go_ret
            exact ⟨by simp, hr2.kept.below (fun k hk => hk)⟩

end Go.Proofs.Ytlppagjnnlmnmaa
