/- The walks of the term store: what each method does. -/
import Derived.Test.YtlppagjnnlmnmaaStore
import Derived.BigQuiet
import Derived.Deep.QuietTactic
set_option linter.unusedVariables false
set_option linter.unusedSimpArgs false
namespace Go.Proofs.Ytlppagjnnlmnmaa
open Go.RowKit

abbrev St.ptr (s : St) : Value := .pointer (some ⟨s.p, 0, none⟩)

/-! ### parts -/
set_option maxHeartbeats 1000000 in
theorem parts_calls (k : Int) (w : World) : Calls Try.prog 31 #[.int .i64 k] w fun e w' => e = .returned (.tuple #[.int .i64 (partsL k), .int .i64 (partsT k)]) ∧ w' = w := by
  go_enter Try.func31, Try.ntmps31
  go_wp2
  all_goals go_ret2
  all_goals
    simp only [beq_iff_eq, beq_eq_false_iff_ne, ne_eq] at *
    simp_all [partsL, partsT]

/-! ### known -/
set_option maxHeartbeats 1000000 in
theorem known_calls {s : St} {w : World} (h : StoreAt w s) (t : Int) : Calls Try.prog 29 #[s.ptr, .int .i64 t] w fun e w' => e = .returned (.bool (knownB s.nodes.length t)) ∧ w' = w := by
  obtain ⟨a, c, hs⟩ := h.slice
  have h0 := h.cell0
  rw [hs] at h0
  have hl := h.len
  clear hs h
  go_enter Try.func29, Try.ntmps29
  go_wp2
  all_goals go_ret
  · exact ⟨by simp [knownB, *], rfl⟩
  · exact ⟨by simp [knownB]; omega, rfl⟩

theorem len_calls {s : St} {w : World} (h : StoreAt w s) : Calls Try.prog 12 #[s.ptr] w fun e w' => e = .returned (.int .i64 s.nodes.length) ∧ w' = w := by
  obtain ⟨a, c, hs⟩ := h.slice
  have h0 := h.cell0
  rw [hs] at h0
  have hl := h.len
  clear hs h
  go_enter Try.func12, Try.ntmps12
  go_wp2
  go_ret
  exact ⟨rfl, rfl⟩

end Go.Proofs.Ytlppagjnnlmnmaa
