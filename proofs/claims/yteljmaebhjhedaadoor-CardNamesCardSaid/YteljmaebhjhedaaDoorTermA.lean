/- What this claim reaches of a longer text of this session. -/
import Derived.Test.YteljmaebhjhedaaDoorStore
import Derived.BigQuiet
import Derived.Deep.QuietTactic
set_option linter.unusedVariables false
set_option linter.unusedSimpArgs false
namespace Go.Proofs.YteljmaebhjhedaaDoor
open Go.RowKit
abbrev St.ptr (s : St) : Value := .pointer (some ⟨s.p, 0, none⟩)
set_option maxHeartbeats 1000000 in
theorem parts_calls (k : Int) (w : World) : Calls Tryd.prog 48 #[.int .i64 k] w fun e w' => e = .returned (.tuple #[.int .i64 (partsL k), .int .i64 (partsT k)]) ∧ w' = w := by
  go_enter Tryd.func48, Tryd.ntmps48
  go_wp2
  all_goals go_ret2
  all_goals
    simp only [beq_iff_eq, beq_eq_false_iff_ne, ne_eq] at *
    simp_all [partsL, partsT]
set_option maxHeartbeats 1000000 in
theorem known_calls {s : St} {w : World} (h : StoreAt w s) (t : Int) : Calls Tryd.prog 30 #[s.ptr, .int .i64 t] w fun e w' => e = .returned (.bool (knownB s.nodes.length t)) ∧ w' = w := by
  obtain ⟨a, c, hs⟩ := h.slice
  have h0 := h.cell0
  rw [hs] at h0
  have hl := h.len
  clear hs h
  go_enter Tryd.func30, Tryd.ntmps30
  go_wp2
  all_goals go_ret
  · exact ⟨by simp [knownB, *], rfl⟩
  · exact ⟨by simp [knownB]; omega, rfl⟩
end Go.Proofs.YteljmaebhjhedaaDoor
