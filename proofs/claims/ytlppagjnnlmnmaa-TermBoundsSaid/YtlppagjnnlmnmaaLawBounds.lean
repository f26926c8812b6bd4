/- The walk of 'TermBounds': the bounds of labels and atoms. (Printed by gen_bounds.py.) -/
import Derived.Test.YtlppagjnnlmnmaaAnchor1
import Derived.Test.YtlppagjnnlmnmaaOpen1
import Derived.Laws.IdiomStrings
import Derived.Deep.OwnRows
set_option linter.unusedVariables false
set_option linter.unusedSimpArgs false
namespace Go.Proofs.Ytlppagjnnlmnmaa
open Go.RowKit Go.Instr

theorem zeros (n : Nat) (N : Int) (hN : N = n) (hn : n ≤ 2048) : ∃ (C : Array Value) (L : ByteArray), L.size = n ∧
    (∀ (w : World), (Instr.makeSlice 37 (.int .i64 N) (.int .i64 N)).run Try.prog w = .ok (.slice (some ⟨w.heap.size, 0, none⟩) n n) (w.alloc (.cells C 5))) ∧
    (∀ (w : World) (b : Nat), b = w.heap.size → (convert 37 9 (.slice (some ⟨b, 0, none⟩) n n)).run Try.prog (w.alloc (.cells C 5)) = .ok (.string L) (w.alloc (.cells C 5))) := by
  subst hN
  refine ⟨madeCells #[.int .u8 0] n, ⟨(List.replicate n (0 : UInt8)).toArray⟩, by show (List.replicate n (0 : UInt8)).toArray.size = n; simp, fun w => ?_, ?_⟩
  · exact run_make_row' (P := Try.prog) 37 5 (.int .u8 0) 1 Try.underlying37 (by kernel_rfl) rfl .i64 .i64 n (by omega) (by omega) w
  · rintro w b rfl
    have h := run_convert_bytes_back (P := Try.prog) (w.alloc (.cells (madeCells #[.int .u8 0] n) 5)) 37 9 5 ⟨w.heap.size, 0, none⟩ n (List.replicate n (0 : UInt8)) Try.underlying37 Try.underlying5 Try.underlying9 ?_
    · simpa using h
    · intro j hj
      have hj' : j < n := by simpa using hj
      rw [show (⟨w.heap.size, 0, none⟩ : Addr).add j = ⟨w.heap.size, 0 + j, none⟩ from add_plain _ _ _, World.cell?_alloc_mark]
      simp [madeCells, hj', Nat.mod_one]

theorem bd_mk (n : Nd) (b : Bool) (h : rightB A1 n = b) (hn : n ≠ ⟨1, ByteArray.empty, 1, 0⟩) : mkT A1 n = (if b then 2 else 0) ∧ mkE A1 n = (if b then 0 else 10) ∧ (mkL A1 n).length = if b then 2 else 1 := by
  have hm : n ∉ A1 := by simp [A1, Ne.symm hn, hn]
  rcases mk_cases A1 n with ⟨k, hk, e, _⟩ | ⟨_, h1, h2, h3, h4⟩ | ⟨_, h1, hl, _⟩ | ⟨_, h1, hl, h2, h3, h4⟩
  · exact absurd (e ▸ List.getElem_mem hk) hm
  · rw [h] at h1; subst h1; rw [h2, h3, h4]; decide
  · simp [A1] at hl
  · rw [h] at h1; subst h1; rw [h2, h3, h4]; simp [A1]


set_option maxRecDepth 100000 in
set_option maxHeartbeats 4000000 in
theorem bounds_00 (w : World) : Calls Try.prog 6 #[.int .i64 0, .bool false] w fun e w' => e = .returned (.bool true) ∧ Below w.heap.size w w' := by
  obtain ⟨C, L, hL, hmk, hcv⟩ := zeros 1024 1024 rfl (by decide)
  obtain ⟨f1, f2, f3⟩ := bd_mk ⟨2, L, 0, 0⟩ true (by simp [rightB, rightO, partsL, partsT, hL]) (by simp)
  simp only [if_true, Bool.false_eq_true, if_false] at f1 f2 f3
  generalize hn : (⟨2, L, 0, 0⟩ : Nd) = n at f1 f2 f3
  go_enter Try.func6, Try.ntmps6
  go_wp2_with (first
    | (go_at_call 10; refine (anchor_calls _).mono ?_; rintro e w1 ⟨rfl, c1⟩)
    | (go_at_call 11; refine (new_own _).mono ?_; rintro e w2 ⟨p, rfl, O0, K0⟩)
    | (go_at_call 15; refine (O0.fresh).mono ?_; rintro e w3 ⟨rfl, O1, K1⟩; rw [anc1.2.1, anc1.2.2] at O1; simp only [anc1.1])
    )
  refine (((O1.alloc _).alloc _).make ⟨2, L, 0, 0⟩).mono ?_
  rintro e w4 ⟨rfl, OB, KB⟩
  simp only [hn, f1, f2] at OB KB ⊢
  go_wp2_with (go_at_call 12; refine (OB.len).mono ?_; rintro e w5 ⟨rfl, rfl⟩; simp only [hn, f3])
  go_ret
  have i1 : ∀ k, k < w.heap.size → k < w1.heap.size := fun k hk => Nat.lt_of_lt_of_le hk c1.size
  have i3 : ∀ k, k < w.heap.size → k < w3.heap.size := fun k hk => O1.lt k (i1 k hk)
  have KK := ((c1.kept (X := fun k => k < w.heap.size) (fun _ h => h)).trans (K0.kept (X := fun k => k < w1.heap.size) (fun _ h => h)) i1).trans K1 i1
  exact ⟨rfl, (((KK.alloc i3 _).alloc (fun k hk => by have := i3 k hk; simp; omega) _).trans KB (fun k hk => .inl (.inl (i1 k hk)))).below (fun _ h => h)⟩

set_option maxRecDepth 100000 in
set_option maxHeartbeats 4000000 in
theorem bounds_01 (w : World) : Calls Try.prog 6 #[.int .i64 0, .bool true] w fun e w' => e = .returned (.bool true) ∧ Below w.heap.size w w' := by
  obtain ⟨C, L, hL, hmk, hcv⟩ := zeros 1025 1025 rfl (by decide)
  obtain ⟨f1, f2, f3⟩ := bd_mk ⟨2, L, 0, 0⟩ false (by simp [rightB, rightO, partsL, partsT, hL]) (by simp)
  simp only [if_true, Bool.false_eq_true, if_false] at f1 f2 f3
  generalize hn : (⟨2, L, 0, 0⟩ : Nd) = n at f1 f2 f3
  go_enter Try.func6, Try.ntmps6
  go_wp2_with (first
    | (go_at_call 10; refine (anchor_calls _).mono ?_; rintro e w1 ⟨rfl, c1⟩)
    | (go_at_call 11; refine (new_own _).mono ?_; rintro e w2 ⟨p, rfl, O0, K0⟩)
    | (go_at_call 15; refine (O0.fresh).mono ?_; rintro e w3 ⟨rfl, O1, K1⟩; rw [anc1.2.1, anc1.2.2] at O1; simp only [anc1.1])
    )
  refine (((O1.alloc _).alloc _).make ⟨2, L, 0, 0⟩).mono ?_
  rintro e w4 ⟨rfl, OB, KB⟩
  simp only [hn, f1, f2] at OB KB ⊢
  go_wp2_with (go_at_call 12; refine (OB.len).mono ?_; rintro e w5 ⟨rfl, rfl⟩; simp only [hn, f3])
  go_ret
  have i1 : ∀ k, k < w.heap.size → k < w1.heap.size := fun k hk => Nat.lt_of_lt_of_le hk c1.size
  have i3 : ∀ k, k < w.heap.size → k < w3.heap.size := fun k hk => O1.lt k (i1 k hk)
  have KK := ((c1.kept (X := fun k => k < w.heap.size) (fun _ h => h)).trans (K0.kept (X := fun k => k < w1.heap.size) (fun _ h => h)) i1).trans K1 i1
  exact ⟨rfl, (((KK.alloc i3 _).alloc (fun k hk => by have := i3 k hk; simp; omega) _).trans KB (fun k hk => .inl (.inl (i1 k hk)))).below (fun _ h => h)⟩

set_option maxRecDepth 100000 in
set_option maxHeartbeats 4000000 in
theorem bounds_10 (w : World) : Calls Try.prog 6 #[.int .i64 1, .bool false] w fun e w' => e = .returned (.bool true) ∧ Below w.heap.size w w' := by
  obtain ⟨C, L, hL, hmk, hcv⟩ := zeros 1024 1024 rfl (by decide)
  obtain ⟨C2, L2, hL2, hmk2, hcv2⟩ := zeros 32 32 rfl (by decide)
  obtain ⟨f1, f2, f3⟩ := bd_mk ⟨4, L2, 1, 0⟩ true (by simp [rightB, rightO, partsL, partsT, knownB, A1, hL2]) (by simp)
  simp only [if_true, Bool.false_eq_true, if_false] at f1 f2 f3
  generalize hn : (⟨4, L2, 1, 0⟩ : Nd) = n at f1 f2 f3
  go_enter Try.func6, Try.ntmps6
  go_wp2_with (first
    | (go_at_call 10; refine (anchor_calls _).mono ?_; rintro e w1 ⟨rfl, c1⟩)
    | (go_at_call 11; refine (new_own _).mono ?_; rintro e w2 ⟨p, rfl, O0, K0⟩)
    | (go_at_call 15; refine (O0.fresh).mono ?_; rintro e w3 ⟨rfl, O1, K1⟩; rw [anc1.2.1, anc1.2.2] at O1; simp only [anc1.1])
    )
  refine ((((O1.alloc _).alloc _).alloc _).make ⟨4, L2, 1, 0⟩).mono ?_
  rintro e w4 ⟨rfl, OB, KB⟩
  simp only [hn, f1, f2] at OB KB ⊢
  go_wp2_with (go_at_call 12; refine (OB.len).mono ?_; rintro e w5 ⟨rfl, rfl⟩; simp only [hn, f3])
  go_ret
  have i1 : ∀ k, k < w.heap.size → k < w1.heap.size := fun k hk => Nat.lt_of_lt_of_le hk c1.size
  have i3 : ∀ k, k < w.heap.size → k < w3.heap.size := fun k hk => O1.lt k (i1 k hk)
  have KK := ((c1.kept (X := fun k => k < w.heap.size) (fun _ h => h)).trans (K0.kept (X := fun k => k < w1.heap.size) (fun _ h => h)) i1).trans K1 i1
  exact ⟨rfl, ((((KK.alloc i3 _).alloc (fun k hk => by have := i3 k hk; simp; omega) _).alloc (fun k hk => by have := i3 k hk; simp; omega) _).trans KB (fun k hk => .inl (.inl (.inl (i1 k hk))))).below (fun _ h => h)⟩

set_option maxRecDepth 100000 in
set_option maxHeartbeats 4000000 in
theorem bounds_11 (w : World) : Calls Try.prog 6 #[.int .i64 1, .bool true] w fun e w' => e = .returned (.bool true) ∧ Below w.heap.size w w' := by
  obtain ⟨C, L, hL, hmk, hcv⟩ := zeros 1025 1025 rfl (by decide)
  obtain ⟨C2, L2, hL2, hmk2, hcv2⟩ := zeros 33 33 rfl (by decide)
  obtain ⟨f1, f2, f3⟩ := bd_mk ⟨4, L2, 1, 0⟩ false (by simp [rightB, rightO, partsL, partsT, knownB, A1, hL2]) (by simp)
  simp only [if_true, Bool.false_eq_true, if_false] at f1 f2 f3
  generalize hn : (⟨4, L2, 1, 0⟩ : Nd) = n at f1 f2 f3
  go_enter Try.func6, Try.ntmps6
  go_wp2_with (first
    | (go_at_call 10; refine (anchor_calls _).mono ?_; rintro e w1 ⟨rfl, c1⟩)
    | (go_at_call 11; refine (new_own _).mono ?_; rintro e w2 ⟨p, rfl, O0, K0⟩)
    | (go_at_call 15; refine (O0.fresh).mono ?_; rintro e w3 ⟨rfl, O1, K1⟩; rw [anc1.2.1, anc1.2.2] at O1; simp only [anc1.1])
    )
  refine ((((O1.alloc _).alloc _).alloc _).make ⟨4, L2, 1, 0⟩).mono ?_
  rintro e w4 ⟨rfl, OB, KB⟩
  simp only [hn, f1, f2] at OB KB ⊢
  go_wp2_with (go_at_call 12; refine (OB.len).mono ?_; rintro e w5 ⟨rfl, rfl⟩; simp only [hn, f3])
  go_ret
  have i1 : ∀ k, k < w.heap.size → k < w1.heap.size := fun k hk => Nat.lt_of_lt_of_le hk c1.size
  have i3 : ∀ k, k < w.heap.size → k < w3.heap.size := fun k hk => O1.lt k (i1 k hk)
  have KK := ((c1.kept (X := fun k => k < w.heap.size) (fun _ h => h)).trans (K0.kept (X := fun k => k < w1.heap.size) (fun _ h => h)) i1).trans K1 i1
  exact ⟨rfl, ((((KK.alloc i3 _).alloc (fun k hk => by have := i3 k hk; simp; omega) _).alloc (fun k hk => by have := i3 k hk; simp; omega) _).trans KB (fun k hk => .inl (.inl (.inl (i1 k hk))))).below (fun _ h => h)⟩

set_option maxRecDepth 100000 in
set_option maxHeartbeats 4000000 in
theorem bounds_20 (w : World) : Calls Try.prog 6 #[.int .i64 2, .bool false] w fun e w' => e = .returned (.bool true) ∧ Below w.heap.size w w' := by
  obtain ⟨C, L, hL, hmk, hcv⟩ := zeros 1024 1024 rfl (by decide)
  obtain ⟨C2, L2, hL2, hmk2, hcv2⟩ := zeros 32 32 rfl (by decide)
  obtain ⟨f1, f2, f3⟩ := bd_mk ⟨5, L2, 1, 1⟩ true (by simp [rightB, rightO, partsL, partsT, knownB, A1, hL2]) (by simp)
  simp only [if_true, Bool.false_eq_true, if_false] at f1 f2 f3
  generalize hn : (⟨5, L2, 1, 1⟩ : Nd) = n at f1 f2 f3
  go_enter Try.func6, Try.ntmps6
  go_wp2_with (first
    | (go_at_call 10; refine (anchor_calls _).mono ?_; rintro e w1 ⟨rfl, c1⟩)
    | (go_at_call 11; refine (new_own _).mono ?_; rintro e w2 ⟨p, rfl, O0, K0⟩)
    | (go_at_call 15; refine (O0.fresh).mono ?_; rintro e w3 ⟨rfl, O1, K1⟩; rw [anc1.2.1, anc1.2.2] at O1; simp only [anc1.1])
    )
  refine ((((O1.alloc _).alloc _).alloc _).make ⟨5, L2, 1, 1⟩).mono ?_
  rintro e w4 ⟨rfl, OB, KB⟩
  simp only [hn, f1, f2] at OB KB ⊢
  go_wp2_with (go_at_call 12; refine (OB.len).mono ?_; rintro e w5 ⟨rfl, rfl⟩; simp only [hn, f3])
  go_ret
  have i1 : ∀ k, k < w.heap.size → k < w1.heap.size := fun k hk => Nat.lt_of_lt_of_le hk c1.size
  have i3 : ∀ k, k < w.heap.size → k < w3.heap.size := fun k hk => O1.lt k (i1 k hk)
  have KK := ((c1.kept (X := fun k => k < w.heap.size) (fun _ h => h)).trans (K0.kept (X := fun k => k < w1.heap.size) (fun _ h => h)) i1).trans K1 i1
  exact ⟨rfl, ((((KK.alloc i3 _).alloc (fun k hk => by have := i3 k hk; simp; omega) _).alloc (fun k hk => by have := i3 k hk; simp; omega) _).trans KB (fun k hk => .inl (.inl (.inl (i1 k hk))))).below (fun _ h => h)⟩

set_option maxRecDepth 100000 in
set_option maxHeartbeats 4000000 in
theorem bounds_21 (w : World) : Calls Try.prog 6 #[.int .i64 2, .bool true] w fun e w' => e = .returned (.bool true) ∧ Below w.heap.size w w' := by
  obtain ⟨C, L, hL, hmk, hcv⟩ := zeros 1025 1025 rfl (by decide)
  obtain ⟨C2, L2, hL2, hmk2, hcv2⟩ := zeros 33 33 rfl (by decide)
  obtain ⟨f1, f2, f3⟩ := bd_mk ⟨5, L2, 1, 1⟩ false (by simp [rightB, rightO, partsL, partsT, knownB, A1, hL2]) (by simp)
  simp only [if_true, Bool.false_eq_true, if_false] at f1 f2 f3
  generalize hn : (⟨5, L2, 1, 1⟩ : Nd) = n at f1 f2 f3
  go_enter Try.func6, Try.ntmps6
  go_wp2_with (first
    | (go_at_call 10; refine (anchor_calls _).mono ?_; rintro e w1 ⟨rfl, c1⟩)
    | (go_at_call 11; refine (new_own _).mono ?_; rintro e w2 ⟨p, rfl, O0, K0⟩)
    | (go_at_call 15; refine (O0.fresh).mono ?_; rintro e w3 ⟨rfl, O1, K1⟩; rw [anc1.2.1, anc1.2.2] at O1; simp only [anc1.1])
    )
  refine ((((O1.alloc _).alloc _).alloc _).make ⟨5, L2, 1, 1⟩).mono ?_
  rintro e w4 ⟨rfl, OB, KB⟩
  simp only [hn, f1, f2] at OB KB ⊢
  go_wp2_with (go_at_call 12; refine (OB.len).mono ?_; rintro e w5 ⟨rfl, rfl⟩; simp only [hn, f3])
  go_ret
  have i1 : ∀ k, k < w.heap.size → k < w1.heap.size := fun k hk => Nat.lt_of_lt_of_le hk c1.size
  have i3 : ∀ k, k < w.heap.size → k < w3.heap.size := fun k hk => O1.lt k (i1 k hk)
  have KK := ((c1.kept (X := fun k => k < w.heap.size) (fun _ h => h)).trans (K0.kept (X := fun k => k < w1.heap.size) (fun _ h => h)) i1).trans K1 i1
  exact ⟨rfl, ((((KK.alloc i3 _).alloc (fun k hk => by have := i3 k hk; simp; omega) _).alloc (fun k hk => by have := i3 k hk; simp; omega) _).trans KB (fun k hk => .inl (.inl (.inl (i1 k hk))))).below (fun _ h => h)⟩

set_option maxRecDepth 100000 in
set_option maxHeartbeats 4000000 in
theorem bounds_30 (w : World) : Calls Try.prog 6 #[.int .i64 3, .bool false] w fun e w' => e = .returned (.bool true) ∧ Below w.heap.size w w' := by
  obtain ⟨C, L, hL, hmk, hcv⟩ := zeros 1024 1024 rfl (by decide)
  obtain ⟨f1, f2, f3⟩ := bd_mk ⟨1, ByteArray.empty, 1099511627776, 0⟩ true (by decide +kernel) (by simp)
  simp only [if_true, Bool.false_eq_true, if_false] at f1 f2 f3
  generalize hn : (⟨1, ByteArray.empty, 1099511627776, 0⟩ : Nd) = n at f1 f2 f3
  go_enter Try.func6, Try.ntmps6
  go_wp2_with (first
    | (go_at_call 10; refine (anchor_calls _).mono ?_; rintro e w1 ⟨rfl, c1⟩)
    | (go_at_call 11; refine (new_own _).mono ?_; rintro e w2 ⟨p, rfl, O0, K0⟩)
    | (go_at_call 15; refine (O0.fresh).mono ?_; rintro e w3 ⟨rfl, O1, K1⟩; rw [anc1.2.1, anc1.2.2] at O1; simp only [anc1.1])
    )
  refine (((O1.alloc _).alloc _).make ⟨1, ByteArray.empty, 1099511627776, 0⟩).mono ?_
  rintro e w4 ⟨rfl, OB, KB⟩
  simp only [hn, f1, f2] at OB KB ⊢
  go_wp2_with (go_at_call 12; refine (OB.len).mono ?_; rintro e w5 ⟨rfl, rfl⟩; simp only [hn, f3])
  go_ret
  have i1 : ∀ k, k < w.heap.size → k < w1.heap.size := fun k hk => Nat.lt_of_lt_of_le hk c1.size
  have i3 : ∀ k, k < w.heap.size → k < w3.heap.size := fun k hk => O1.lt k (i1 k hk)
  have KK := ((c1.kept (X := fun k => k < w.heap.size) (fun _ h => h)).trans (K0.kept (X := fun k => k < w1.heap.size) (fun _ h => h)) i1).trans K1 i1
  exact ⟨rfl, (((KK.alloc i3 _).alloc (fun k hk => by have := i3 k hk; simp; omega) _).trans KB (fun k hk => .inl (.inl (i1 k hk)))).below (fun _ h => h)⟩

set_option maxRecDepth 100000 in
set_option maxHeartbeats 4000000 in
theorem bounds_31 (w : World) : Calls Try.prog 6 #[.int .i64 3, .bool true] w fun e w' => e = .returned (.bool true) ∧ Below w.heap.size w w' := by
  obtain ⟨C, L, hL, hmk, hcv⟩ := zeros 1025 1025 rfl (by decide)
  obtain ⟨f1, f2, f3⟩ := bd_mk ⟨1, ByteArray.empty, 1099511627777, 0⟩ false (by decide +kernel) (by simp)
  simp only [if_true, Bool.false_eq_true, if_false] at f1 f2 f3
  generalize hn : (⟨1, ByteArray.empty, 1099511627777, 0⟩ : Nd) = n at f1 f2 f3
  go_enter Try.func6, Try.ntmps6
  go_wp2_with (first
    | (go_at_call 10; refine (anchor_calls _).mono ?_; rintro e w1 ⟨rfl, c1⟩)
    | (go_at_call 11; refine (new_own _).mono ?_; rintro e w2 ⟨p, rfl, O0, K0⟩)
    | (go_at_call 15; refine (O0.fresh).mono ?_; rintro e w3 ⟨rfl, O1, K1⟩; rw [anc1.2.1, anc1.2.2] at O1; simp only [anc1.1])
    )
  refine (((O1.alloc _).alloc _).make ⟨1, ByteArray.empty, 1099511627777, 0⟩).mono ?_
  rintro e w4 ⟨rfl, OB, KB⟩
  simp only [hn, f1, f2] at OB KB ⊢
  go_wp2_with (go_at_call 12; refine (OB.len).mono ?_; rintro e w5 ⟨rfl, rfl⟩; simp only [hn, f3])
  go_ret
  have i1 : ∀ k, k < w.heap.size → k < w1.heap.size := fun k hk => Nat.lt_of_lt_of_le hk c1.size
  have i3 : ∀ k, k < w.heap.size → k < w3.heap.size := fun k hk => O1.lt k (i1 k hk)
  have KK := ((c1.kept (X := fun k => k < w.heap.size) (fun _ h => h)).trans (K0.kept (X := fun k => k < w1.heap.size) (fun _ h => h)) i1).trans K1 i1
  exact ⟨rfl, (((KK.alloc i3 _).alloc (fun k hk => by have := i3 k hk; simp; omega) _).trans KB (fun k hk => .inl (.inl (i1 k hk)))).below (fun _ h => h)⟩

set_option maxRecDepth 100000 in
set_option maxHeartbeats 4000000 in
theorem bounds_walk (n : Int) (b : Bool) (w : World) (hwn : (Lit.int .i64 n).wf = true) : Calls Try.prog 6 #[.int .i64 n, .bool b] w fun e w' => e = .returned (.bool true) ∧ Below w.heap.size w w' := by
  by_cases h0 : n < 0
  · have hb : decide (n < 0) = true := by simpa using h0
    clear h0
    go_enter Try.func6, Try.ntmps6
    go_wp2_with (go_at_call 10; refine (anchor_calls _).mono ?_; rintro e w1 ⟨rfl, c1⟩)
    go_ret
    exact ⟨rfl, c1.below (Nat.le_refl _) (fun _ _ h => h)⟩
  · by_cases h3 : 3 < n
    · have hb : decide (n < 0) = false := by simpa using h0
      have hb2 : decide (3 < n) = true := by simpa using h3
      clear h0 h3
      go_enter Try.func6, Try.ntmps6
      go_wp2_with (go_at_call 10; refine (anchor_calls _).mono ?_; rintro e w1 ⟨rfl, c1⟩)
      go_ret
      exact ⟨rfl, c1.below (Nat.le_refl _) (fun _ _ h => h)⟩
    · obtain rfl | rfl | rfl | rfl : n = 0 ∨ n = 1 ∨ n = 2 ∨ n = 3 := by omega
      · cases b
        · exact bounds_00 w
        · exact bounds_01 w
      · cases b
        · exact bounds_10 w
        · exact bounds_11 w
      · cases b
        · exact bounds_20 w
        · exact bounds_21 w
      · cases b
        · exact bounds_30 w
        · exact bounds_31 w
end Go.Proofs.Ytlppagjnnlmnmaa
