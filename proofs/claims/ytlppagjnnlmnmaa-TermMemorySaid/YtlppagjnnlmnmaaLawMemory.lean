/- 'TermMemory' returns true. -/
import Derived.Test.YtlppagjnnlmnmaaMemRows
import Derived.Deep.DeepCutAuto
set_option linter.unusedVariables false
set_option linter.unusedSimpArgs false
namespace Go.Proofs.Ytlppagjnnlmnmaa
open Go.RowKit

def MemRel1 (W : World) (N p : Nat) (v i : Value) (wr : World) : Prop := ∃ (k : Nat) (ao : Option Addr) (c : Nat), k ≤ N ∧ v = .slice ao k c ∧ i = .int .i64 k ∧ With W wr p (frL k) (k : Int) (.slice ao k c) (idxs k)

set_option maxRecDepth 100000 in
set_option maxHeartbeats 8000000 in
theorem memory_walk (n : Int) (w : World) (hwn : (Lit.int .i64 n).wf = true) :
    Calls Try.prog 9 #[.int .i64 n] w fun e w' => e = .returned (.bool true) ∧ Below w.heap.size w w' := by
  by_cases hn : n < 1 ∨ 50 < n
  · rcases hn with hn | hn
    · have hb : decide (n < 1) = true := by simpa using hn
      clear hn
      go_enter Try.func9, Try.ntmps9
      go_wp2_with (go_at_call 10; refine (anchor_calls _).mono ?_; rintro e w1 ⟨rfl, c1⟩)
      go_ret
      exact ⟨rfl, c1.below (Nat.le_refl _) (fun _ _ h => h)⟩
    · have hb : decide (n < 1) = false := by simp; omega
      have hb2 : decide (50 < n) = true := by simpa using hn
      clear hn
      go_enter Try.func9, Try.ntmps9
      go_wp2_with (go_at_call 10; refine (anchor_calls _).mono ?_; rintro e w1 ⟨rfl, c1⟩)
      go_ret
      exact ⟨rfl, c1.below (Nat.le_refl _) (fun _ _ h => h)⟩
  have hb : decide (n < 1) = false := by simp; omega
  have hb2 : decide (50 < n) = false := by simp; omega
  obtain ⟨N, rfl⟩ : ∃ N : Nat, n = N := ⟨n.toNat, by omega⟩
  have HN := Lib.hid (show 1 ≤ N ∧ N ≤ 50 by omega)
  have hNi : (N : Int) ≤ 50 := by omega
  clear hn hwn
  obtain ⟨i0, hi, hz0, hz1, hz2⟩ := info_parts infoI
  have HI := Lib.hid (And.intro hi (And.intro hz0 (And.intro hz1 hz2)))
  clear hi hz0 hz1 hz2
  go_enter Try.func9, Try.ntmps9
  go_wp2_with (first
    | (go_at_call 10; refine (anchor_calls _).mono ?_; rintro e w1 ⟨rfl, c1⟩)
    | (go_at_call 11; refine (new_own _).mono ?_; rintro e w2 ⟨p, rfl, O0, K0⟩)
    | (at_make; refine wpList_make_own _ rfl _ _ _ rfl w.heap.size 3 i0 _ 1 Try.underlying35 HI.out.1 HI.out.2.1 HI.out.2.2.1 .i64 .i64 _ (N + 2) rfl rfl ?m1 ?m2 ?m3 ?m4 ?_))
  case m1 => simp
  case m2 => rw [HI.out.2.2.2]; have := HN.out; omega
  case m3 => have := HN.out; unfold maxLen; omega
  case m4 => have := c1.size; have := K0.size; omega
  intro w3 hown3 hg3
  have O1 : Own (fun b => b < w.heap.size) w2 p [] 0 := O0.mono fun k hk => Nat.lt_of_lt_of_le hk c1.size
  have K1 : Kept (fun b => b < w.heap.size) w w2 := (c1.kept (fun _ h => h)).trans (K0.kept (X := fun b => b < w1.heap.size) (fun _ h => h)) (fun k hk => Nat.lt_of_lt_of_le hk c1.size)
  have W0 := Lib.hid ((Both.nil ⟨O1, K1⟩).grow (D' := []) hown3 hg3 (.inr rfl))
  clear O0 K0 c1 O1 K1 hown3 hg3
  go_wp2
  go_loopw [4, 5] (fun v i wr => MemRel1 w N p v i wr) (fun _ i _ => N - (intOf i).toNat)
  case atStart => exact ⟨0, _, _, Nat.zero_le _, rfl, rfl, W0.out⟩
  case round =>
    clear W0
    obtain ⟨k, ao, c, hk, rfl, rfl, hr1⟩ := hrel
    have HR := Lib.hid hr1
    clear hr1
    by_cases hlt : k < N
    · have hkN : k ≤ 50 := by have := HN.out; omega
      have hfr := HR.out.fresh
      rw [frL_d k (by omega), frT k (by omega)] at hfr
      have hL : mkL (frL k) (freshN k) = frL (k + 1) := rfl
      rw [hL] at hfr
      have HF := Lib.hid hfr
      clear hfr hL
      have hltI : decide ((k : Int) < (N : Int)) = true := by simp; omega
      have hrow := HR.out.row
      rw [idxs_len] at hrow
      go_wp2_with (first
        | (go_at_call 15; refine (HF.out).mono ?_; rintro e w4 ⟨rfl, WB⟩; have W1 := Lib.hid (WB.alloc (.cells #[.int .i64 ((k : Int) + 1)] 3)))
        | (at_builtin; refine wpList_append_ints _ rfl _ _ rfl w.heap.size (.slice ao k c) k (idxs k) rfl ?c0 (some ⟨w4.heap.size, 0, none⟩) 1 [(k : Int) + 1] rfl ?c1 ?c2 ?c3 ?_))
      case c0 => have := W1.out.row; rw [idxs_len] at this; exact this
      case c1 => exact .inr ⟨_, 0, rfl, by simp, fun i hi => by
        have : i = 0 := by simp at hi; omega
        subst this
        exact cell_of heap_alloc_at 0⟩
      case c2 => simp; omega
      case c3 => exact W1.out.kept.size
      intro ao5 cap5 w5 hown5 hg5 hat5 _
      have hW5 : With w w5 p (frL (k + 1)) ((k + 1 : Nat) : Int) (.slice ao5 (k + 1) cap5) (idxs (k + 1)) := W1.out.grow (by simpa [idxs_succ, idxs_len] using hown5) hg5 (by rw [World.size_alloc]; exact hat5)
      have HW5 := Lib.hid hW5
      clear hown5 hg5 hat5 hW5 W1 hrow HF
      go_wp2
      exact ⟨⟨k + 1, ao5, cap5, by omega, rfl, by go_num, HW5.out⟩, by simp [intOf] <;> omega⟩
    · have hke : k = N := by omega
      subst hke
      have hltI : decide ((k : Int) < (k : Int)) = false := by simp
      have hk1 := HN.out
      clear hlt hk
      have hki : (k : Int) ≤ 50 := by omega
      go_upto_region 14 with (at_builtin; refine wpList_append_ints _ rfl _ _ rfl w.heap.size (.slice ao k c) k (idxs k) rfl ?c0 (some ⟨wr.heap.size, 0, none⟩) 2 [-7, -8] rfl ?c1 ?c2 ?c3 ?_)
      case c0 => have := (HR.out.alloc (.cells #[.int .i64 (-7), .int .i64 (-8)] 3)).row; rw [idxs_len] at this; exact this
      case c1 => exact .inr ⟨_, 0, rfl, by simp, fun i hi => by
        match i, hi with
        | 0, _ => exact cell_of heap_alloc_at 0
        | 1, _ => exact cell_of heap_alloc_at 1⟩
      case c2 => simp; omega
      case c3 => exact (HR.out.alloc (.cells #[.int .i64 (-7), .int .i64 (-8)] 3)).kept.size
      intro ao5 cap5 w5 hown5 hg5 hat5 _
      have hW5 : With w w5 p (frL k) (k : Int) (.slice ao5 (k + 2) cap5) (idxs k ++ [-7, -8]) := (HR.out.alloc _).grow (by simpa [idxs_len] using hown5) hg5 (by rw [World.size_alloc]; exact hat5)
      obtain ⟨gr, cr, hv, hgl, _⟩ := row_form hW5.row (by simp)
      simp only [Value.slice.injEq] at hv
      obtain ⟨rfl, hjunk, rfl⟩ := hv
      clear hjunk
      obtain ⟨_, cap6, hv, hcap, _⟩ := own_shape hown5
      simp only [Value.slice.injEq] at hv
      obtain ⟨rfl, hjunk, rfl⟩ := hv
      clear hjunk
      have hls := fun c' => hW5.listpre (by simp [idxs_len]) (by rw [idxs_len]; omega) c'
      rw [idxs_len] at hls
      have hit := mem_list (N := k) (by omega)
      generalize listT (frL k) (idxs k) = T at *
      generalize listL (frL k) (idxs k) = L at *
      have HLS := Lib.hid hls
      have HIT := Lib.hid hit
      clear hls hit hown5 hg5 hat5 hW5 HR
      go_upto_region 15 with (go_at_call 24; refine (HLS.out _).mono ?_; rintro e w6 ⟨rfl, hW6⟩)
      have hgl6 := own_block_lt hW6.row (b := gr) rfl
      have hR6 : ∀ i (h : i < (idxs k ++ [-7, -8]).length), w6.cell? ⟨gr, i, none⟩ = some (.int .i64 (idxs k ++ [-7, -8])[i]) := fun i h => row_int hW6.row h
      have HW6 := Lib.hid hW6
      have HR6 := Lib.hid hR6
      clear hW6 hR6 HLS hgl
      have hk0 : 0 < k := by omega
      have HI1 := Lib.hid (items_own HW6.out.own HIT.out (idxs_len k) hk0)
      go_upto_region 16 with (go_at_call 25; refine HI1.out.mono ?_; rintro e wa ⟨ga, ca, rfl, ra, c1⟩)
      have hOa := HW6.out.own.chg c1 (fun _ h => h.elim)
      have HI2 := Lib.hid (items_own hOa HIT.out (idxs_len k) hk0)
      have HA := Lib.hid (And.intro ra c1)
      clear hOa HI1 ra c1
      go_upto_region 17 with (go_at_call 25; refine HI2.out.mono ?_; rintro e wb ⟨gb, cb, rfl, rb, c2⟩)
      have hMS := items_two HW6.out (by simp [idxs_len]) HA.out.2 HA.out.1 (idxs_len k) c2 rb
      have hcc := HA.out.2.trans c2 (fun _ _ h => h)
      have f1 : wb.cell? ⟨gr, k, none⟩ = some (.int .i64 (-7)) := by
        rw [cell_eq (hcc.block gr hgl6 (fun h => h)), HR6.out k (by simp [idxs_len])]
        rw [List.getElem_append_right (by rw [idxs_len]; exact Nat.le_refl _)]
        simp [idxs_len]
      have f2 : wb.cell? ⟨gr, k + 1, none⟩ = some (.int .i64 (-8)) := by
        rw [cell_eq (hcc.block gr hgl6 (fun h => h)), HR6.out (k + 1) (by simp [idxs_len])]
        rw [List.getElem_append_right (by rw [idxs_len]; omega)]
        simp [idxs_len]
      have hgl := Nat.lt_of_lt_of_le hgl6 hcc.size
      have HMS := Lib.hid hMS
      clear hMS hcc HA HI2 rb c2 HR6 HW6 hgl6
      go_wp2
      go_loopw [87] (fun i wr' => ∃ j : Nat, j ≤ k ∧ i = .int .i64 j ∧ MS w wr' p L k gr (k + 2) cap5 ga k ca gb k cb (idxs k)) (fun i _ => k - (intOf i).toNat)
      case atStart => exact ⟨0, Nat.zero_le _, rfl, HMS.out⟩
      case round =>
        clear HMS
        obtain ⟨j, hj, rfl, hM⟩ := hrel
        have hji : (j : Int) ≤ 50 := by omega
        have HM := Lib.hid hM
        clear hM
        by_cases hlt : j < k
        · have b5 : decide (j < k) = true := by simpa using hlt
          obtain ⟨A, hA, ra⟩ := HM.out.ra
          have ga1 := own_block_lt ra (b := ga) rfl
          have ga2 := row_int ra (k := j) (by omega)
          have ga3 := row_int_free ra j
          have h1 := Lib.hid (HM.out.setA hlt (-1))
          clear ra
          go_upto_region 23 with fail
          generalize wr.setCell ⟨ga, j, none⟩ (.int .i64 (-1)) = wz at *
          obtain ⟨R, hR, rr⟩ := h1.out.rr
          have gr1 := own_block_lt rr (b := gr) rfl
          have gr2 := row_int rr (k := j) (by omega)
          have gr3 := row_int_free rr j
          have hjr : j < k + 2 := by omega
          have h2 := Lib.hid (h1.out.setR hjr (-2))
          clear rr ga1 ga2 ga3 h1 HM f1 f2
          go_wp2
          exact ⟨⟨j + 1, by omega, by go_num, h2.out⟩, by simp [intOf] <;> omega⟩
        · have hje : k = j := by omega
          subst hje
          have b5 : decide (k < k) = false := by simp
          obtain ⟨A, hA, ra⟩ := HM.out.ra
          have hrA := ra.alloc (.cells #[.int .i64 (-3), .int .i64 (-3)] 3)
          rw [hA] at hrA
          have HRA := Lib.hid hrA
          clear hlt hj ra hA hrA f1 f2 hgl
          go_upto_region 26 with (at_builtin; refine wpList_append_ints _ rfl _ _ rfl w.heap.size (.slice (some ⟨ga, 0, none⟩) k ca) k A rfl ?c0 (some ⟨wr.heap.size, 0, none⟩) 2 [-3, -3] rfl ?c1 ?c2 ?c3 ?_)
          case c0 => exact HRA.out
          case c1 => exact .inr ⟨_, 0, rfl, by simp, fun i hi => by
            match i, hi with
            | 0, _ => exact cell_of heap_alloc_at 0
            | 1, _ => exact cell_of heap_alloc_at 1⟩
          case c2 => simp; omega
          case c3 => exact (HM.out.alloc (.cells #[.int .i64 (-3), .int .i64 (-3)] 3)).kept.size
          intro ao7 cap7 w7 hown7 hg7 _ _
          have hW7 : With w w7 p L k (.slice (some ⟨gb, 0, none⟩) k cb) (idxs k) := (HM.out.alloc _).grown hg7
          have HW7 := Lib.hid hW7
          have HI3 := Lib.hid (items_own hW7.own HIT.out (idxs_len k) hk0)
          clear hW7 hown7 hg7 HM HRA
          go_upto_region 27 with (go_at_call 25; refine HI3.out.mono ?_; rintro e w8 ⟨gd, cd, rfl, rd, c3⟩)
          have hgb := own_block_lt HW7.out.row (b := gb) rfl
          have rb8 : ∀ i (h : i < k), w8.cell? ⟨gb, i, none⟩ = some (.int .i64 ((i : Int) + 1)) := fun i h => by
            rw [cell_eq (c3.block gb hgb (fun h => h)), row_int HW7.out.row (k := i) (by rw [idxs_len]; exact h), idxs_get]
          have rd8 : ∀ i (h : i < k), w8.cell? ⟨gd, i, none⟩ = some (.int .i64 ((i : Int) + 1)) := fun i h => by
            rw [row_int rd (k := i) (by rw [idxs_len]; exact h), idxs_get]
          have hgd8 := own_block_lt rd (b := gd) rfl
          have hgb8 := Nat.lt_of_lt_of_le hgb c3.size
          have hB : Below w.heap.size w w8 := (HW7.out.kept.trans (c3.kept (X := fun b => b < w.heap.size) (fun b hb => HW7.out.own.lt b (.inl hb))) (fun _ h => h)).below (fun _ h => h)
          have HB := Lib.hid (And.intro hB (And.intro rb8 rd8))
          clear hB rb8 rd8 rd c3 HI3 HW7 hgb
          go_wp2
          go_loopw [123] (fun i wr' => (∃ j : Nat, j ≤ k ∧ i = .int .i64 j) ∧ wr' = w8) (fun i _ => k - (intOf i).toNat)
          case atStart => exact ⟨⟨0, Nat.zero_le _, rfl⟩, rfl⟩
          case round =>
            obtain ⟨⟨j, hj, rfl⟩, hwe⟩ := hrel
            subst hwe
            by_cases hlt : j < k
            · have b6 : decide (j < k) = true := by simpa using hlt
              have hji2 : (j : Int) ≤ 50 := by omega
              have e1 := HB.out.2.1 j hlt
              have e2 := HB.out.2.2 j hlt
              go_wp2
              exact ⟨⟨⟨j + 1, by omega, by go_num⟩, trivial⟩, by simp [intOf] <;> omega⟩
            · have hje : k = j := by omega
              subst hje
              have b6 : decide (k < k) = false := by simp
              go_wp2
              go_ret
              exact ⟨rfl, HB.out.1⟩

end Go.Proofs.Ytlppagjnnlmnmaa
