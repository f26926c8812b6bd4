/- A map from ints to bools that holds true alone: looking up, storing, ranging while it grows. -/
import Derived.Test.YtmdfhaihbaiegaaBase
import Derived.Test.YtmdfhaihbaiegaaStore
import Derived.MapKept
import Derived.Maps.RangeRun
set_option linter.unusedVariables false
set_option linter.unusedSimpArgs false
namespace Go.Proofs.Ytmdfhaihbaiegaa
open Go.RowKit Go.MapKept
open Go.ChangeMaps (setBlock)

/-- Block m is a map of these keys, each with true. -/
structure MapAt (w : World) (m : Nat) (es : Array MapEntry) (clock : Nat) (ks : List Int) : Prop where
  obj : w.heap[m]? = some (.map es clock)
  keys : es.toList.map (·.key) = ks.map (Value.int .i64)
  vals : ∀ e ∈ es.toList, e.val = .bool true
  stamped : Stamped es clock

theorem MapAt.nodup {w : World} {m : Nat} {es : Array MapEntry} {clock : Nat} {ks : List Int} (h : MapAt w m es clock ks) : ks.Nodup := by
  have := h.stamped.2.2
  rw [h.keys] at this
  exact (List.pairwise_map.1 this).imp fun hne e => hne (by rw [e])

theorem MapAt.lt {w : World} {m : Nat} {es : Array MapEntry} {clock : Nat} {ks : List Int} (h : MapAt w m es clock ks) : m < w.heap.size := lt_of_heap h.obj

theorem MapAt.keep {w w' : World} {m : Nat} {es : Array MapEntry} {clock : Nat} {ks : List Int} (h : MapAt w m es clock ks) (hw : w'.heap[m]? = w.heap[m]?) : MapAt w' m es clock ks := ⟨hw.trans h.obj, h.keys, h.vals, h.stamped⟩

theorem MapAt.isKey {w : World} {m : Nat} {es : Array MapEntry} {clock : Nat} {ks : List Int} (h : MapAt w m es clock ks) : ∀ x ∈ es.toList, IsKey (.int .i64) x.key := by
  intro x hx
  have : x.key ∈ es.toList.map (·.key) := List.mem_map_of_mem hx
  rw [h.keys] at this
  obtain ⟨k, _, e⟩ := List.mem_map.1 this
  rw [← e]
  exact rfl

theorem MapAt.mem {w : World} {m : Nat} {es : Array MapEntry} {clock : Nat} {ks : List Int} (h : MapAt w m es clock ks) {t : Int} : t ∈ ks ↔ ∃ x ∈ es.toList, x.key = .int .i64 t := by
  constructor
  · intro ht
    have : Value.int .i64 t ∈ es.toList.map (·.key) := by rw [h.keys]; exact List.mem_map_of_mem ht
    obtain ⟨x, hx, e⟩ := List.mem_map.1 this
    exact ⟨x, hx, e⟩
  · rintro ⟨x, hx, e⟩
    have : x.key ∈ es.toList.map (·.key) := List.mem_map_of_mem hx
    rw [h.keys, e] at this
    obtain ⟨k, hk, e2⟩ := List.mem_map.1 this
    injection e2 with _ e2
    exact e2 ▸ hk

theorem mapIB : Try.prog.underlying 53 = some (.map 3 4) := by kernel_rfl
theorem intU : Try.prog.underlying 3 = some (.int .i64) := by kernel_rfl
theorem zeroBool (w : World) : (zeroValue 4).run Try.prog w = .ok (.bool false) w := by kernel_rfl
theorem run_checkKey_int (e : Bool) (t : Int) (w : World) : (Instr.checkKey e 10000 3 (.int .i64 t)).run Try.prog w = .ok () w := by
  rw [show (10000 : Nat) = 9999 + 1 from rfl, Instr.checkKey]
  simp only [Sem.run_bind, run_underlying intU, Result.andThen_ok]
  rfl

theorem run_findKey_int {w : World} {m : Nat} {es : Array MapEntry} {clock : Nat} {ks : List Int} (h : MapAt w m es clock ks) (w' : World) (t : Int) :
    (t ∉ ks ∧ (Instr.findKey 3 (.int .i64 t) es.toList).run Try.prog w' = .ok none w') ∨
    (t ∈ ks ∧ ∃ j e, es.toList[j]? = some e ∧ e.key = .int .i64 t ∧ (Instr.findKey 3 (.int .i64 t) es.toList).run Try.prog w' = .ok (some (j, .bool true)) w') := by
  have hk : IsKey (.int .i64) (Value.int .i64 t) := rfl
  rcases findNow_spec hk es.toList 0 h.isKey with ⟨h1, h2⟩ | ⟨j, e, h1, h2, h3⟩
  · left
    refine ⟨fun ht => ?_, ?_⟩
    · obtain ⟨x, hx, e⟩ := h.mem.1 ht
      exact h2 x hx e
    · unfold Instr.findKey
      simp only [Sem.run_bind, run_underlying intU, Result.andThen_ok, h1]
      rfl
  · right
    have he : e ∈ es.toList := List.mem_of_getElem? h2
    refine ⟨h.mem.2 ⟨e, he, h3⟩, j, e, h2, h3, ?_⟩
    unfold Instr.findKey
    simp only [Sem.run_bind, run_underlying intU, Result.andThen_ok, h1]
    rw [h.vals e he, Nat.zero_add]
    rfl

theorem MapAt.lookup {w : World} {m : Nat} {es : Array MapEntry} {clock : Nat} {ks : List Int} (h : MapAt w m es clock ks) (t : Int) :
    (Instr.lookup 53 (.map (some m)) (.int .i64 t) false).run Try.prog w = .ok (.bool (decide (t ∈ ks))) w := by
  unfold Instr.lookup
  simp only [Sem.run_bind, run_underlying mapIB, Result.andThen_ok, run_getObj_map h.obj, Sem.run_pure, run_checkKey_int]
  rcases run_findKey_int h w t with ⟨hn, e⟩ | ⟨hy, j, x, _, _, e⟩
  · simp only [e, Result.andThen_ok, Sem.run_bind, zeroBool, Sem.run_pure, hn, decide_false]
    rfl
  · simp only [e, Result.andThen_ok, Sem.run_bind, Sem.run_pure, hy, decide_true]
    rfl

/-- A store of true. -/
theorem MapAt.store {w : World} {m : Nat} {es : Array MapEntry} {clock : Nat} {ks : List Int} (h : MapAt w m es clock ks) (t : Int) :
    ∃ es' clock', (Instr.mapUpdate 53 (.map (some m)) (.int .i64 t) (.bool true)).run Try.prog w = .ok () (putObj w m (.map es' clock')) ∧
      MapAt (putObj w m (.map es' clock')) m es' clock' (if t ∈ ks then ks else ks ++ [t]) ∧ clock ≤ clock' ∧ (∃ r, es'.toList.map (·.born) = es.toList.map (·.born) ++ r ∧ ∀ b ∈ r, clock ≤ b) := by
  unfold Instr.mapUpdate
  simp only [Sem.run_bind, run_underlying mapIB, Result.andThen_ok, run_getObj_map h.obj, run_checkKey_int]
  rcases run_findKey_int h w t with ⟨hn, e⟩ | ⟨hy, j, x, hj, hx, e⟩
  · refine ⟨es.push { key := .int .i64 t, val := .bool true, born := clock }, clock + 1, ?_, ?_, by omega, [clock], by simp, by simp⟩
    · simp only [e, Result.andThen_ok, run_setObj_map h.obj]
      rfl
    · rw [if_neg hn]
      refine ⟨heap_putObj_at h.lt, by simp [h.keys], ?_, stamped_push h.stamped fun x hx ex => hn (h.mem.2 ⟨x, hx, ex⟩)⟩
      intro y hy
      simp only [Array.toList_push, List.mem_append, List.mem_singleton] at hy
      rcases hy with hy | rfl
      · exact h.vals y hy
      · rfl
  · have hje : es[j]? = some x := by rw [← Array.getElem?_toList]; exact hj
    have hmod : ∀ f : MapEntry → MapEntry, (∀ y, y ∈ es.toList → y.key = .int .i64 t → f y = y) → es.modify j f = es := by
      intro f hf
      apply Array.ext_getElem?
      intro i
      rw [Array.getElem?_modify]
      by_cases hij : j = i
      · subst hij
        rw [if_pos rfl, hje]
        simp only [Option.map_some]
        rw [hf x (List.mem_of_getElem? hj) hx]
      · rw [if_neg hij]
    refine ⟨es, clock, ?_, ?_, Nat.le_refl _, [], by simp, by simp⟩
    · simp only [e, Result.andThen_ok, hje, Option.map_some, Option.getD_some, hx, Instr.keyThatStays]
      have hs : Instr.sameBits 10000 (.int .i64 t) (.int .i64 t) = true := by simp [Instr.sameBits]
      simp only [hs, if_true, Sem.run_bind, Sem.run_pure, Result.andThen_ok]
      rw [hmod _ (fun y hy hk => by obtain ⟨a, b, c⟩ := y; simp at hk; have := h.vals _ hy; simp at this; subst hk this; rfl)]
      rw [run_setObj_map h.obj]
      rfl
    · rw [if_pos hy]
      exact ⟨heap_putObj_at h.lt, h.keys, h.vals, h.stamped⟩

theorem run_range_map {w : World} {m : Nat} {es : Array MapEntry} {clock : Nat} (h : w.heap[m]? = some (.map es clock)) :
    (Instr.range 53 (.map (some m))).run Try.prog w = .ok (.pointer (some ⟨w.heap.size, 0, none⟩)) (w.alloc (.mapIter (some m) clock #[] clock)) := by
  unfold Instr.range
  simp only [Sem.run_bind, run_underlying mapIB, Result.andThen_ok, run_getObj_map h, Sem.run_pure]
  rfl

theorem MapAt.next {w : World} {m : Nat} {es : Array MapEntry} {clock : Nat} {ks : List Int} (h : MapAt w m es clock ks) {r since c0 : Nat} {seen : Array Nat} (ty : TypeId) (hr : w.heap[r]? = some (.mapIter (some m) since seen c0))
    (hne : seen.isEmpty = false → ∃ x ∈ es.toList, x.born < c0) :
    ((∀ x ∈ es.toList, x.born < since → seen.contains x.born = true) ∧ ∃ w1 : World, (w1 = w ∨ w1 = w.drew) ∧ (Instr.next (.pointer (some ⟨r, 0, none⟩)) false ty).run Try.prog w = .ok (.tuple #[.bool false]) w1) ∨
    ∃ e k, e ∈ es.toList ∧ seen.contains e.born = false ∧ e.key = .int .i64 k ∧ k ∈ ks ∧ ∃ w1 : World, (w1 = w ∨ w1 = w.drew) ∧
      (Instr.next (.pointer (some ⟨r, 0, none⟩)) false ty).run Try.prog w = .ok (.tuple #[.bool true, .int .i64 k, .bool true]) (putObj w1 r (.mapIter (some m) since (seen.push e.born) clock)) ∧
      (Instr.entry (.pointer (some ⟨r, 0, none⟩))).run Try.prog (putObj w1 r (.mapIter (some m) since (seen.push e.born) clock)) = .ok (.tuple #[.int .i64 k, .bool true]) (putObj w1 r (.mapIter (some m) since (seen.push e.born) clock)) := by
  have htest : (!seen.isEmpty && !es.isEmpty && es.all (fun x => decide (x.born ≥ c0))) = false := by
    cases hs : seen.isEmpty with
    | true => simp
    | false =>
      obtain ⟨x, hx, hb⟩ := hne hs
      have : es.all (fun x => decide (x.born ≥ c0)) = false := by
        rw [Bool.eq_false_iff]
        intro ha
        rw [Array.all_eq_true_iff_forall_mem] at ha
        have := ha x (Array.mem_toList_iff.1 hx)
        simp at this
        omega
      simp [this]
  simp only [Instr.next, getObj, Sem.run_bind, Sem.run, hr, h.obj, Result.andThen, htest, Bool.false_eq_true, if_false]
  generalize hL : Array.filter (fun e => !seen.contains e.born) es = L
  have hmem : ∀ x, x ∈ L.toList → x ∈ es.toList ∧ seen.contains x.born = false := by
    intro x hx
    rw [← hL] at hx
    simpa using hx
  generalize hO : L.filter (fun x => decide (x.born < since)) = O
  generalize hNw : L.filter (fun x => decide (x.born ≥ since)) = Nw
  generalize hC : ((if O.isEmpty = true then #[none] else #[]) ++ Array.map some (O ++ Nw) : Array (Option MapEntry)) = C
  have hCpos : 0 < C.size := by
    rw [← hC]
    by_cases ho : O.isEmpty = true
    · simp [ho]; omega
    · rw [if_neg ho]
      have : 0 < O.size := by
        rcases Nat.eq_zero_or_pos O.size with h0 | h0
        · exact absurd (by simp [Array.isEmpty, h0]) ho
        · exact h0
      simp; omega
  have hch : ∃ (j : Nat) (w1 : World), j < C.size ∧ (w1 = w ∨ w1 = w.drew) ∧ (choose (Question.mapNext C.size)).run Try.prog w = .ok j w1 := by
    by_cases hf : C.size ≤ 1
    · exact ⟨0, w, hCpos, Or.inl rfl, by simp [choose, Sem.run, Question.forced, hf]⟩
    · exact ⟨_, w.drew, Nat.mod_lt _ hCpos, Or.inr rfl, by
        simp only [choose, Sem.run, Question.forced, decide_eq_true_eq, hf, if_false, Question.cut]
        rfl⟩
  obtain ⟨j, w1, hj, hal, hrun⟩ := hch
  simp only [hrun, Array.getElem?_eq_getElem hj]
  have hCm : C[j] ∈ C := Array.getElem_mem hj
  generalize hcj : C[j] = cj at *
  cases cj with
  | none =>
    left
    have hO0 : O.isEmpty = true := by
      rw [← hC] at hCm
      by_cases ho : O.isEmpty = true
      · exact ho
      · rw [if_neg ho] at hCm
        simp at hCm
    refine ⟨fun x hx hb => ?_, w1, hal, rfl⟩
    cases hs : seen.contains x.born with
    | true => rfl
    | false =>
      exfalso
      have hxL : x ∈ L := by rw [← hL]; simp; exact ⟨Array.mem_toList_iff.1 hx, by simpa using hs⟩
      have hxO : x ∈ O := by rw [← hO]; simp [hxL, hb]
      have : O = #[] := by simpa using hO0
      rw [this] at hxO
      simp at hxO
  | some e =>
    right
    have heL : e ∈ L := by
      rw [← hC] at hCm
      have : e ∈ O ++ Nw := by
        by_cases ho : O.isEmpty = true
        · rw [if_pos ho] at hCm
          simpa using hCm
        · rw [if_neg ho] at hCm
          simpa using hCm
      rcases Array.mem_append.1 this with h1 | h1
      · rw [← hO] at h1; exact (Array.mem_filter.1 h1).1
      · rw [← hNw] at h1; exact (Array.mem_filter.1 h1).1
    obtain ⟨he, hs⟩ := hmem e (Array.mem_toList_iff.2 heL)
    have hkey : e.key ∈ ks.map (Value.int .i64) := by rw [← h.keys]; exact List.mem_map_of_mem he
    obtain ⟨k, hk, ek⟩ := List.mem_map.1 hkey
    have hr1 : w1.heap[r]? = some (.mapIter (some m) since seen c0) := by rcases hal with rfl | rfl <;> exact hr
    have hm1 : w1.heap[m]? = some (.map es clock) := by rcases hal with rfl | rfl <;> exact h.obj
    have hrm : r ≠ m := by rintro rfl; rw [h.obj] at hr; cases hr
    refine ⟨e, k, he, hs, ek.symm, hk, w1, hal, ?_, ?_⟩
    · simp only [Sem.run_bind, run_setObj_at hr1, Result.andThen]
      rw [← ek, h.vals e he]
      rfl
    · have := run_entry_at (P := Try.prog) (putObj w1 r (.mapIter (some m) since (seen.push e.born) clock)) r m since seen es clock e (heap_putObj_at (lt_of_heap hr1)) (by rw [heap_putObj_ne hrm.symm]; exact hm1) he h.stamped.2.1
      rw [← ek, h.vals e he] at this
      exact this

end Go.Proofs.Ytmdfhaihbaiegaa
