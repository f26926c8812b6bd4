/- What this claim reaches of a longer text of this session. -/
import Derived.Test.YteljmaebhjhedaaDoorTermD
set_option linter.unusedVariables false
set_option linter.unusedSimpArgs false
namespace Go.Proofs.YteljmaebhjhedaaDoor
open Go.RowKit
structure Rf where
  p : Nat
  sl : Value
  nodes : List Nd
  drawn : Int
def Rf.own (r : Rf) (k : Nat) : Prop := k = r.p ∨ r.sl.ownBlock = some k
def Rf.ptr (r : Rf) : Value := .pointer (some ⟨r.p, 0, none⟩)
structure RefAt (w : World) (r : Rf) : Prop where
  obj : w.heap[r.p]? = some (.cells #[r.sl, .int .i64 r.drawn] 52 (0, 0))
  arr : w.ownsRow 0 40 4 r.sl r.nodes.length (flat r.nodes)
  nodup : r.nodes.Nodup
  len : r.nodes.length ≤ 262144
  drawn0 : 0 ≤ r.drawn
  drawn1 : r.drawn ≤ 1099511627776
  wf : WF r.nodes
section
variable {w w' : World} {r : Rf}
theorem RefAt.p_lt (h : RefAt w r) : r.p < w.heap.size := lt_of_heap h.obj
theorem RefAt.arr_lt (h : RefAt w r) {b : Nat} (hb : r.sl.ownBlock = some b) : b < w.heap.size := own_block_lt h.arr hb
theorem RefAt.own_lt (h : RefAt w r) {k : Nat} (hk : r.own k) : k < w.heap.size := by
  rcases hk with rfl | hk
  · exact h.p_lt
  · exact h.arr_lt hk
theorem RefAt.arr_ne_p (h : RefAt w r) {b : Nat} (hb : r.sl.ownBlock = some b) : b ≠ r.p := by
  rintro rfl; obtain ⟨cap, cur, _, h1, _⟩ := own_row h.arr hb; rw [h.obj] at h1
  simp only [Option.some.injEq, Obj.cells.injEq] at h1
  exact absurd h1.2.1 (by decide)
theorem RefAt.keep (h : RefAt w r) (hb : ∀ k, r.own k → w'.heap[k]? = w.heap[k]?) : RefAt w' r :=
  ⟨(hb _ (.inl rfl)).trans h.obj, row_keep h.arr fun b hbb => hb b (.inr hbb), h.nodup, h.len, h.drawn0, h.drawn1, h.wf⟩
theorem RefAt.chg {M : Nat → Prop} (h : RefAt w r) (hc : Chg M w w') (hM : ∀ k, r.own k → ¬ M k) : RefAt w' r :=
  h.keep fun k hk => hc.block k (h.own_lt hk) (hM k hk)
theorem RefAt.alloc (h : RefAt w r) (o : Obj) : RefAt (w.alloc o) r := h.keep fun k hk => heap_alloc_lt (h.own_lt hk)
theorem RefAt.drew (h : RefAt w r) : RefAt w.drew r := h.keep fun _ _ => rfl
theorem RefAt.cell0 (h : RefAt w r) : w.cell? ⟨r.p, 0, none⟩ = some r.sl := by rw [cell_of h.obj]; rfl
theorem RefAt.cell1 (h : RefAt w r) : w.cell? ⟨r.p, 1, none⟩ = some (.int .i64 r.drawn) := by rw [cell_of h.obj]; rfl
theorem RefAt.free (h : RefAt w r) (i : Nat) : w.frozen? ⟨r.p, i, none⟩ = false := free_of h.obj i
theorem RefAt.slice (h : RefAt w r) : ∃ (a : Option Addr) (c : Nat), r.sl = .slice a r.nodes.length c := by
  rcases h.arr.2 with ⟨hv, hn⟩ | ⟨g, cap, cur, hv, _⟩
  · exact ⟨none, 0, by rw [hv, hn]⟩
  · exact ⟨_, cap, hv⟩
theorem RefAt.node (h : RefAt w r) {i : Nat} (hi : i < r.nodes.length) : ∃ b c, r.sl = .slice (some ⟨b, 0, none⟩) r.nodes.length c ∧ ∀ j, j < 4 → w.cell? ⟨b, i * 4 + j, none⟩ = (r.nodes[i]).cells[j]? := by
  rcases h.arr.2 with ⟨hv, hn⟩ | ⟨g, cap, cur, hv, _, h1, h2, h3, h4, h5⟩
  · omega
  · refine ⟨g, cap, hv, fun j hj => ?_⟩
    rw [cell_of h1, ← flat_get _ i hi j hj, ← h5, List.getElem?_take, if_pos (by omega), Array.getElem?_toList, Nat.mul_comm]
theorem RefAt.row_cells (h : RefAt w r) {i : Nat} (hi : i < r.nodes.length) : ∃ b c, r.sl = .slice (some ⟨b, 0, none⟩) r.nodes.length c ∧ b < w.heap.size ∧
    w.cell? ⟨b, i * 4, none⟩ = some (.int .i64 (r.nodes[i]).kind) ∧ w.cell? ⟨b, i * 4 + 1, none⟩ = some (.string (r.nodes[i]).label) ∧
    w.cell? ⟨b, i * 4 + 2, none⟩ = some (.int .i64 (r.nodes[i]).a) ∧ w.cell? ⟨b, i * 4 + 3, none⟩ = some (.int .i64 (r.nodes[i]).b) := by
  obtain ⟨b, c, hs, hc⟩ := h.node hi
  refine ⟨b, c, hs, h.arr_lt (by rw [hs]; rfl), ?_, ?_, ?_, ?_⟩
  · have := hc 0 (by omega); simpa [Nd.cells] using this
  · have := hc 1 (by omega); simpa [Nd.cells] using this
  · have := hc 2 (by omega); simpa [Nd.cells] using this
  · have := hc 3 (by omega); simpa [Nd.cells] using this
end
structure RNext (s : Rf) (w : World) (l : List Nd) (d : Int) (w' : World) : Prop where
  out : ∃ s', RefAt w' s' ∧ s'.p = s.p ∧ s'.nodes = l ∧ s'.drawn = d ∧ (∀ k, s'.own k → s.own k ∨ w.heap.size ≤ k) ∧ Chg s.own w w'
theorem RNext.same {s : Rf} {w w' : World} (h : RefAt w s) (hc : Chg none_ w w') : RNext s w s.nodes s.drawn w' :=
  ⟨⟨s, h.chg hc (fun _ _ h => h), rfl, rfl, rfl, fun k hk => .inl hk, hc.mono fun _ _ h => h.elim⟩⟩
set_option maxHeartbeats 1000000 in
theorem rknown_calls {s : Rf} {w : World} (h : RefAt w s) (t : Int) :
    Calls Tryd.prog 31 #[s.ptr, .int .i64 t] w fun e w' => e = .returned (.bool (knownB s.nodes.length t)) ∧ w' = w := by
  obtain ⟨a, c, hs⟩ := h.slice
  have h0 := h.cell0
  rw [hs] at h0
  have hl := h.len
  generalize s.nodes.length = L at *
  clear h hs
  unfold Rf.ptr
  go_enter Tryd.func31, Tryd.ntmps31
  go_wp2
  all_goals go_ret
  all_goals go_light
  all_goals refine ⟨?_, rfl⟩
  all_goals (simp [knownB]; omega)
def FindRel (l : List Nd) (n : Nd) (w : World) (iv : Value) (wr : World) : Prop :=
  ∃ k : Nat, k ≤ l.length ∧ iv = .int .i64 ((k : Int) - 1) ∧ (∀ j (h : j < l.length), k ≤ j → l[j] ≠ n) ∧ Chg none_ (w.alloc (.cells n.cells.toArray 40)) wr
def findT (l : List Nd) (n : Nd) : Int := match idx l n with | some k => (k : Int) + 1 | none => 0
theorem findT_yes {l : List Nd} (hn : l.Nodup) {i : Nat} (hi : i < l.length) : findT l l[i] = (i : Int) + 1 := by unfold findT; rw [idx_of_get hn hi]
theorem findT_no {l : List Nd} {n : Nd} (h : ∀ j (h : j < l.length), 0 ≤ j → l[j] ≠ n) : findT l n = 0 := by
  unfold findT
  rw [idx_none.2]
  intro hm
  obtain ⟨j, hj, e⟩ := List.getElem_of_mem hm
  exact h j hj (Nat.zero_le _) e
theorem node_ite {α : Type} (f : Bool → α) (k k0 a a0 b b0 : Int) (l l0 : ByteArray) :
    (if k = k0 then if l.toList = l0.toList then if a = a0 then if b = b0 then f true else f false else f false else f false else f false) = f (decide ((⟨k, l, a, b⟩ : Nd) = ⟨k0, l0, a0, b0⟩)) := by
  have hl : l.toList = l0.toList ↔ l = l0 := by have := bytes_beq l l0; rw [Bool.eq_iff_iff] at this; simpa using this
  by_cases h1 : k = k0 <;> by_cases h2 : l.toList = l0.toList <;> by_cases h3 : a = a0 <;> by_cases h4 : b = b0 <;> simp [h1, h2, h3, h4, hl.1 , mt hl.2] <;> simp [mt hl.2 h2]
def posOf (v : Value) : Nat := match v with | .int _ n => (n + 1).toNat | _ => 0
set_option maxHeartbeats 1000000 in
theorem rfind_calls {s : Rf} {w : World} (h : RefAt w s) (n : Nd) :
    Calls Tryd.prog 47 #[s.ptr, n.v] w fun e w' => e = .returned (.int .i64 (findT s.nodes n)) ∧ Chg none_ w w' := by
  obtain ⟨a0, c0, hs⟩ := h.slice
  have h0 := h.cell0
  rw [hs] at h0
  have hp := h.p_lt
  have hlen := h.len
  have H := Lib.hid h
  have HS := Lib.hid hs
  clear h hs
  obtain ⟨k0, l, a, b⟩ := n
  unfold Nd.v Rf.ptr
  go_enter Tryd.func47, Tryd.ntmps47
  go_wp2
  have hst : FindRel s.nodes ⟨k0, l, a, b⟩ w (.int .i64 ((s.nodes.length : Int) - 1)) (w.alloc (.cells (Nd.cells ⟨k0, l, a, b⟩).toArray 40)) := ⟨s.nodes.length, Nat.le_refl _, rfl, fun j h1 h2 => absurd h1 (by omega), Chg.refl _ _⟩
  have HST := Lib.hid hst
  clear hst
  go_loopw [5] (fun iv wr => FindRel s.nodes ⟨k0, l, a, b⟩ w iv wr) (fun iv _ => posOf iv)
  case atStart => exact HST.out
  case round =>
    obtain ⟨k, hk, rfl, hno, hc⟩ := hrel
    have HN := Lib.hid hno
    have HC := Lib.hid hc
    clear hno HST
    have hbx : wr.heap[w.heap.size]? = some (.cells (Nd.cells ⟨k0, l, a, b⟩).toArray 40 (0, 0)) := (hc.block _ (by simp) (fun h => h)).trans heap_alloc_at
    have e0 := cell_of hbx 0
    have e1 := cell_of hbx 1
    have e2 := cell_of hbx 2
    have e3 := cell_of hbx 3
    simp only [Nd.cells, List.getElem?_toArray, List.getElem?_cons_zero, List.getElem?_cons_succ] at e0 e1 e2 e3
    have hr : RefAt wr s := (H.out.alloc _).chg hc (fun _ _ h => h)
    have HR := Lib.hid hr
    clear hbx hc hr
    cases k with
    | zero =>
      go_wp2
      go_ret
      exact ⟨by rw [findT_no HN.out]; rfl, ((Chg.refl _ _).alloc _).trans HC.out fun _ _ h => h⟩
    | succ i =>
      have hi : i < s.nodes.length := hk
      have r0 := HR.out.cell0
      rw [HS.out] at r0
      obtain ⟨bb, c, hs, hb, q0, q1, q2, q3⟩ := HR.out.row_cells hi
      rw [HS.out] at hs
      cases hs
      have hwp : s.p < wr.heap.size := HR.out.p_lt
      have hwb : w.heap.size < wr.heap.size := by have := HC.out.size; simp at this; omega
      have hne := @findT_yes s.nodes HR.out.nodup i hi
      have HF := Lib.hid hne
      have hin : ∀ j (h : j < s.nodes.length), i ≤ j → s.nodes[i] ≠ ⟨k0, l, a, b⟩ → s.nodes[j] ≠ ⟨k0, l, a, b⟩ := fun j h h2 h3 => by
        rcases Nat.eq_or_lt_of_le h2 with e | e
        · subst e; exact h3
        · exact HN.out j h e
      have HI := Lib.hid hin
      clear hne hin
      rw [show (((i + 1 : Nat) : Int) - 1) = (i : Int) by omega]
      generalize s.nodes[i] = q at *
      obtain ⟨qk, ql, qa, qb⟩ := q
      dsimp only at q0 q1 q2 q3
      go_wp2
      refine Mix.wp_region_mix (fun _ => True) (fun i => [0, 1, 3, 7, 0, 31, 63, 0, 255].getD i 0) (fun i => [2, 2, 2, 2, 2, 2, 2, 2, 2].getD i 0) (by kernel_rfl) ⟨by kernel_rfl, by kernel_rfl, by kernel_rfl, by kernel_rfl, by kernel_rfl⟩ trivial ?_; simp only [Mix.whole, List.getD_cons_zero, List.getD_cons_succ, Nat.reduceAdd]
      repeat (first | (refine Mix.pin_no rfl rfl (fun K hK => ?_); go_step; refine hK _ ?_; clear hK K) | (refine Mix.pin_not rfl rfl rfl rfl (fun K hK => ?_); simp only [List.setIfInBounds_toArray, List.set_cons_zero, List.set_cons_succ]; refine hK _ ?_; clear hK K) | (refine Mix.pin_yes rfl rfl rfl rfl (fun K hK => ?_); go_step; refine hK _ ?_; clear hK K))
      refine Mix.pin_no rfl rfl (fun K hK => ?_)
      go_step
      rw [node_ite (fun x => Result.ok (Next.value (Value.bool x)) wr.drew)]
      by_cases heq : (⟨qk, ql, qa, qb⟩ : Nd) = ⟨k0, l, a, b⟩
      · have hd : decide ((⟨qk, ql, qa, qb⟩ : Nd) = ⟨k0, l, a, b⟩) = true := by simpa using heq
        rw [hd]
        have HE := Lib.hid heq
        clear heq hd
        refine hK _ ?_
        clear hK K
        refine Mix.walk_nil ?_
        go_wp2
        go_ret
        exact ⟨by rw [← HE.out, HF.out]; rfl, (((Chg.refl _ _).alloc _).trans HC.out fun _ _ h => h).drew⟩
      · have hd : decide ((⟨qk, ql, qa, qb⟩ : Nd) = ⟨k0, l, a, b⟩) = false := by simpa using heq
        rw [hd]
        have HE := Lib.hid heq
        clear heq hd
        refine hK _ ?_
        clear hK K
        refine Mix.walk_nil ?_
        go_wp2
        refine ⟨⟨i, by omega, rfl, fun j h h2 => HI.out j h h2 HE.out, HC.out.drew⟩, ?_⟩
        simp [posOf]
theorem bytes_size (l : ByteArray) : l.toList = [] ↔ l.size = 0 := by
  obtain ⟨⟨x⟩⟩ := l
  rw [ByteArray.toList_eq]
  exact List.length_eq_zero_iff.symm
theorem rightB_tab (L : List Nd) (k a b : Int) (l : ByteArray) : rightB L ⟨k, l, a, b⟩ =
    if k = 1 then decide (1 ≤ a) && decide (a ≤ 1099511627776) && decide (b = 0) && l.toList.isEmpty
    else if k = 2 then decide (a = 0) && decide (b = 0) && decide ((l.size : Int) ≤ 1024)
    else if k = 3 ∨ k = 7 ∨ k = 9 then knownB L.length a && knownB L.length b && l.toList.isEmpty
    else if k = 4 then knownB L.length a && decide (b = 0) && decide ((l.size : Int) ≤ 32)
    else if k = 5 then knownB L.length a && knownB L.length b && decide ((l.size : Int) ≤ 32)
    else if k = 6 then knownB L.length a && decide (b = 0) && l.toList.isEmpty
    else if k = 8 then knownB L.length a && knownB L.length b && l.toList.isEmpty && decide ((nodeAt L a).kind = 6)
    else false := by
  have hz : knownB L.length 0 = false := rfl
  have he : l.toList.isEmpty = decide (l.size = 0) := by rw [Bool.eq_iff_iff]; simp only [List.isEmpty_iff, bytes_size, decide_eq_true_iff]
  have he2 : decide (l.toList = []) = decide (l.size = 0) := by rw [Bool.eq_iff_iff]; simp only [bytes_size, decide_eq_true_iff]
  simp only [rightB, he, he2]
  by_cases h1 : k = 1
  · simp only [if_pos h1]
    generalize decide (1 ≤ a) = p1
    generalize decide (a ≤ 1099511627776) = p2
    generalize decide (b = 0) = p3
    generalize decide (l.size = 0) = p4
    cases p1 <;> cases p2 <;> cases p3 <;> cases p4 <;> rfl
  · simp only [if_neg h1, rightO]
    by_cases h2 : k = 2
    · subst h2; rw [Bool.eq_iff_iff]; simp [partsL, partsT]; omega
    by_cases h3 : k = 3
    · subst h3; rw [Bool.eq_iff_iff]; simp [partsL, partsT]; constructor <;> (intro h; simp_all)
    by_cases h4 : k = 4
    · subst h4; rw [Bool.eq_iff_iff]; simp [partsL, partsT]; cases knownB L.length a <;> simp <;> omega
    by_cases h5 : k = 5
    · subst h5; rw [Bool.eq_iff_iff]; simp [partsL, partsT]; cases knownB L.length a <;> cases knownB L.length b <;> simp <;> omega
    by_cases h6 : k = 6
    · subst h6; rw [Bool.eq_iff_iff]; simp [partsL, partsT]; constructor <;> (intro h; simp_all)
    by_cases h7 : k = 7
    · subst h7; rw [Bool.eq_iff_iff]; simp [partsL, partsT]; constructor <;> (intro h; simp_all)
    by_cases h8 : k = 8
    · subst h8; rw [Bool.eq_iff_iff]; simp [partsL, partsT]; cases knownB L.length a <;> cases knownB L.length b <;> simp
    by_cases h9 : k = 9
    · subst h9; rw [Bool.eq_iff_iff]; simp [partsL, partsT]; constructor <;> (intro h; simp_all)
    simp [partsL, h1, h2, h3, h4, h5, h6, h7, h8, h9]; omega
set_option maxHeartbeats 2000000 in
set_option maxRecDepth 100000 in
theorem rright_other {s : Rf} {w : World} (h : RefAt w s) (n : Nd) (h8 : n.kind ≠ 8) :
    Calls Tryd.prog 46 #[s.ptr, n.v] w fun e w' => e = .returned (.bool (rightB s.nodes n)) ∧ Chg none_ w w' := by
  have ha := h.alloc (.cells n.cells.toArray 40)
  have hbx : (w.alloc (.cells n.cells.toArray 40)).heap[w.heap.size]? = some (.cells n.cells.toArray 40 (0, 0)) := heap_alloc_at
  have HC : Chg none_ w (w.alloc (.cells n.cells.toArray 40)) := (Chg.refl _ _).alloc _
  have hsz : w.heap.size < (w.alloc (.cells n.cells.toArray 40)).heap.size := by simp
  obtain ⟨k, l, a, b⟩ := n
  dsimp only at h8
  have e0 := cell_of hbx 0
  have e1 := cell_of hbx 1
  have e2 := cell_of hbx 2
  have e3 := cell_of hbx 3
  simp only [Nd.cells, List.getElem?_toArray, List.getElem?_cons_zero, List.getElem?_cons_succ] at e0 e1 e2 e3
  have hk8 : (k == 8) = false := by simpa using h8
  have HA := Lib.hid ha
  have hp := ha.p_lt
  have H8 := Lib.hid h8
  clear ha h hbx h8
  unfold Nd.v Rf.ptr
  simp only [Nd.cells] at *
  go_enter Tryd.func46, Tryd.ntmps46
  go_wp2
  generalize w.alloc (.cells #[.int .i64 k, .string l, .int .i64 a, .int .i64 b] 40) = wa at *
  refine Mix.wp_region_mix (fun w' => w'.cell? ⟨w.heap.size, 3, none⟩ = some (.int .i64 b)) (fun i => [0, 0, 2, 7, 0, 0, 32, 127, 255, 511].getD i 0) (fun i => [2, 2, 2, 0, 1, 1, 1, 3, 2, 2].getD i 0) (by kernel_rfl) ⟨by kernel_rfl, by kernel_rfl, by kernel_rfl, by kernel_rfl, by kernel_rfl⟩ e3 ?_; simp only [Mix.whole, List.getD_cons_zero, List.getD_cons_succ, Nat.reduceAdd]; (repeat (first | (refine Mix.pin_no rfl rfl (fun K hK => ?_); go_step; refine hK _ ?_; clear hK K) | (refine Mix.soft_no rfl rfl ?_; apply Exists.intro; refine ⟨fun w' hS => ?_, fun K hK => ?_⟩; (first | (go_simp; done) | (go_simp; exact rfl)); simp only [List.setIfInBounds_toArray, List.set_cons_zero, List.set_cons_succ]; refine hK _ ?_; clear hK K) | (refine Mix.pin_not rfl rfl rfl rfl (fun K hK => ?_); simp only [List.setIfInBounds_toArray, List.set_cons_zero, List.set_cons_succ]; refine hK _ ?_; clear hK K) | (refine Mix.soft_not rfl rfl rfl rfl (fun K hK => ?_); simp only [List.setIfInBounds_toArray, List.set_cons_zero, List.set_cons_succ]; refine hK _ ?_; clear hK K) | (refine Mix.pin_yes rfl rfl rfl rfl (fun K hK => ?_); go_step; refine hK _ ?_; clear hK K) | (refine Mix.soft_yes rfl rfl rfl rfl ?_; apply Exists.intro; refine ⟨fun w' hS => ?_, fun K hK => ?_⟩; (first | (go_simp; done) | (go_simp; exact rfl)); simp only [List.setIfInBounds_toArray, List.set_cons_zero, List.set_cons_succ]; refine hK _ ?_; clear hK K))); refine Mix.hard_no rfl (fun K hK => ?_); go_step; refine (rknown_calls HA.out.drew a).mono ?_; rintro e w5 ⟨rfl, rfl⟩; dsimp only; refine hK _ _ ⟨e3, ?_⟩; clear hK K; (try simp only [Act.put, List.setIfInBounds_toArray, List.set_cons_zero, List.set_cons_succ]); (repeat (first | (refine Mix.pin_no rfl rfl (fun K hK => ?_); go_step; refine hK _ ?_; clear hK K) | (refine Mix.soft_no rfl rfl ?_; apply Exists.intro; refine ⟨fun w' hS => ?_, fun K hK => ?_⟩; (first | (go_simp; done) | (go_simp; exact rfl)); simp only [List.setIfInBounds_toArray, List.set_cons_zero, List.set_cons_succ]; refine hK _ ?_; clear hK K) | (refine Mix.pin_not rfl rfl rfl rfl (fun K hK => ?_); simp only [List.setIfInBounds_toArray, List.set_cons_zero, List.set_cons_succ]; refine hK _ ?_; clear hK K) | (refine Mix.soft_not rfl rfl rfl rfl (fun K hK => ?_); simp only [List.setIfInBounds_toArray, List.set_cons_zero, List.set_cons_succ]; refine hK _ ?_; clear hK K) | (refine Mix.pin_yes rfl rfl rfl rfl (fun K hK => ?_); go_step; refine hK _ ?_; clear hK K) | (refine Mix.soft_yes rfl rfl rfl rfl ?_; apply Exists.intro; refine ⟨fun w' hS => ?_, fun K hK => ?_⟩; (first | (go_simp; done) | (go_simp; exact rfl)); simp only [List.setIfInBounds_toArray, List.set_cons_zero, List.set_cons_succ]; refine hK _ ?_; clear hK K))); refine Mix.last_no rfl (fun K hK => ?_); go_step; refine (rknown_calls HA.out.drew b).mono ?_; rintro e w6 ⟨rfl, rfl⟩; dsimp only; refine hK _ _ ?_; clear hK K; (try simp only [Act.put, List.setIfInBounds_toArray, List.set_cons_zero, List.set_cons_succ]); (repeat (first | (refine Mix.pin_no rfl rfl (fun K hK => ?_); go_step; refine hK _ ?_; clear hK K) | (refine Mix.pin_not rfl rfl rfl rfl (fun K hK => ?_); simp only [List.setIfInBounds_toArray, List.set_cons_zero, List.set_cons_succ]; refine hK _ ?_; clear hK K) | (refine Mix.pin_yes rfl rfl rfl rfl (fun K hK => ?_); go_step; refine hK _ ?_; clear hK K))); refine Mix.walk_nil ?_
  generalize hka : knownB s.nodes.length a = ka
  generalize hkb : knownB s.nodes.length b = kb
  go_wp2
  all_goals go_ret
  all_goals go_light
  all_goals refine ⟨?_, HC.drew⟩
  all_goals (clear e0 e1 e2 e3 hp hsz HA HC; clear hk8; rw [rightB_tab, hka, hkb]; simp only [beq_iff_eq, beq_eq_false_iff_ne, ne_eq] at *)
  all_goals first | (simp [*]; done) | (simp [*]; omega) | (simp [*]; exact fun h => absurd h H8.out)
set_option maxRecDepth 100000 in
set_option maxHeartbeats 2000000 in
set_option maxRecDepth 100000 in
theorem rright_box_no {s : Rf} {w : World} (h : RefAt w s) (n : Nd) (h8 : n.kind = 8) (hno : knownB s.nodes.length n.a = false ∨ knownB s.nodes.length n.b = false ∨ n.label.toList ≠ []) :
    Calls Tryd.prog 46 #[s.ptr, n.v] w fun e w' => e = .returned (.bool (rightB s.nodes n)) ∧ Chg none_ w w' := by
  have ha := h.alloc (.cells n.cells.toArray 40)
  have hbx : (w.alloc (.cells n.cells.toArray 40)).heap[w.heap.size]? = some (.cells n.cells.toArray 40 (0, 0)) := heap_alloc_at
  have HC : Chg none_ w (w.alloc (.cells n.cells.toArray 40)) := (Chg.refl _ _).alloc _
  have hsz : w.heap.size < (w.alloc (.cells n.cells.toArray 40)).heap.size := by simp
  obtain ⟨k, l, a, b⟩ := n; dsimp only at h8; subst h8; have e0 := cell_of hbx 0; have e1 := cell_of hbx 1; have e2 := cell_of hbx 2; have e3 := cell_of hbx 3; simp only [Nd.cells, List.getElem?_toArray, List.getElem?_cons_zero, List.getElem?_cons_succ] at e0 e1 e2 e3; have HA := Lib.hid ha; have hp := ha.p_lt
  dsimp only at hno
  have HNO := Lib.hid hno
  clear ha h hbx hno
  unfold Nd.v Rf.ptr
  simp only [Nd.cells] at *
  go_enter Tryd.func46, Tryd.ntmps46
  go_wp2
  generalize w.alloc (.cells #[.int .i64 8, .string l, .int .i64 a, .int .i64 b] 40) = wa at *
  refine Mix.wp_region_mix (fun w' => w'.cell? ⟨w.heap.size, 3, none⟩ = some (.int .i64 b)) (fun i => [0, 0, 2, 7, 0, 0, 32, 127, 255, 511].getD i 0) (fun i => [2, 2, 2, 0, 1, 1, 1, 3, 2, 2].getD i 0) (by kernel_rfl) ⟨by kernel_rfl, by kernel_rfl, by kernel_rfl, by kernel_rfl, by kernel_rfl⟩ e3 ?_; simp only [Mix.whole, List.getD_cons_zero, List.getD_cons_succ, Nat.reduceAdd]; (repeat (first | (refine Mix.pin_no rfl rfl (fun K hK => ?_); go_step; refine hK _ ?_; clear hK K) | (refine Mix.soft_no rfl rfl ?_; apply Exists.intro; refine ⟨fun w' hS => ?_, fun K hK => ?_⟩; (first | (go_simp; done) | (go_simp; exact rfl)); simp only [List.setIfInBounds_toArray, List.set_cons_zero, List.set_cons_succ]; refine hK _ ?_; clear hK K) | (refine Mix.pin_not rfl rfl rfl rfl (fun K hK => ?_); simp only [List.setIfInBounds_toArray, List.set_cons_zero, List.set_cons_succ]; refine hK _ ?_; clear hK K) | (refine Mix.soft_not rfl rfl rfl rfl (fun K hK => ?_); simp only [List.setIfInBounds_toArray, List.set_cons_zero, List.set_cons_succ]; refine hK _ ?_; clear hK K) | (refine Mix.pin_yes rfl rfl rfl rfl (fun K hK => ?_); go_step; refine hK _ ?_; clear hK K) | (refine Mix.soft_yes rfl rfl rfl rfl ?_; apply Exists.intro; refine ⟨fun w' hS => ?_, fun K hK => ?_⟩; (first | (go_simp; done) | (go_simp; exact rfl)); simp only [List.setIfInBounds_toArray, List.set_cons_zero, List.set_cons_succ]; refine hK _ ?_; clear hK K))); refine Mix.hard_no rfl (fun K hK => ?_); go_step; refine (rknown_calls HA.out.drew a).mono ?_; rintro e w5 ⟨rfl, rfl⟩; dsimp only; refine hK _ _ ⟨e3, ?_⟩; clear hK K; (try simp only [Act.put, List.setIfInBounds_toArray, List.set_cons_zero, List.set_cons_succ]); (repeat (first | (refine Mix.pin_no rfl rfl (fun K hK => ?_); go_step; refine hK _ ?_; clear hK K) | (refine Mix.soft_no rfl rfl ?_; apply Exists.intro; refine ⟨fun w' hS => ?_, fun K hK => ?_⟩; (first | (go_simp; done) | (go_simp; exact rfl)); simp only [List.setIfInBounds_toArray, List.set_cons_zero, List.set_cons_succ]; refine hK _ ?_; clear hK K) | (refine Mix.pin_not rfl rfl rfl rfl (fun K hK => ?_); simp only [List.setIfInBounds_toArray, List.set_cons_zero, List.set_cons_succ]; refine hK _ ?_; clear hK K) | (refine Mix.soft_not rfl rfl rfl rfl (fun K hK => ?_); simp only [List.setIfInBounds_toArray, List.set_cons_zero, List.set_cons_succ]; refine hK _ ?_; clear hK K) | (refine Mix.pin_yes rfl rfl rfl rfl (fun K hK => ?_); go_step; refine hK _ ?_; clear hK K) | (refine Mix.soft_yes rfl rfl rfl rfl ?_; apply Exists.intro; refine ⟨fun w' hS => ?_, fun K hK => ?_⟩; (first | (go_simp; done) | (go_simp; exact rfl)); simp only [List.setIfInBounds_toArray, List.set_cons_zero, List.set_cons_succ]; refine hK _ ?_; clear hK K))); refine Mix.last_no rfl (fun K hK => ?_); go_step; refine (rknown_calls HA.out.drew b).mono ?_; rintro e w6 ⟨rfl, rfl⟩; dsimp only; refine hK _ _ ?_; clear hK K; (try simp only [Act.put, List.setIfInBounds_toArray, List.set_cons_zero, List.set_cons_succ]); (repeat (first | (refine Mix.pin_no rfl rfl (fun K hK => ?_); go_step; refine hK _ ?_; clear hK K) | (refine Mix.pin_not rfl rfl rfl rfl (fun K hK => ?_); simp only [List.setIfInBounds_toArray, List.set_cons_zero, List.set_cons_succ]; refine hK _ ?_; clear hK K) | (refine Mix.pin_yes rfl rfl rfl rfl (fun K hK => ?_); go_step; refine hK _ ?_; clear hK K))); refine Mix.walk_nil ?_
  cases hka : knownB s.nodes.length a with
  | false =>
    go_wp2
    refine Mix.wp_region_mix (fun _ => True) (fun i => [0, 1, 3, 7, 15, 31, 63, 127, 255, 511, 1023, 2047, 4095, 8191, 1023, 17407, 50175, 131071, 262143, 524287, 1048575, 2097151, 4194303].getD i 0) (fun i => [2, 2, 2, 2, 2, 2, 2, 2, 2, 2, 2, 2, 2, 2, 2, 2, 2, 2, 2, 2, 2, 2, 2].getD i 0) (by kernel_rfl) ⟨by kernel_rfl, by kernel_rfl, by kernel_rfl, by kernel_rfl, by kernel_rfl⟩ trivial ?_; simp only [Mix.whole, List.getD_cons_zero, List.getD_cons_succ, Nat.reduceAdd]
    repeat (first | (refine Mix.pin_no rfl rfl (fun K hK => ?_); go_step; refine hK _ ?_; clear hK K) | (refine Mix.pin_not rfl rfl rfl rfl (fun K hK => ?_); simp only [List.setIfInBounds_toArray, List.set_cons_zero, List.set_cons_succ]; refine hK _ ?_; clear hK K) | (refine Mix.pin_yes rfl rfl rfl rfl (fun K hK => ?_); go_step; refine hK _ ?_; clear hK K))
    refine Mix.walk_nil ?_
    go_wp2
    go_ret
    refine ⟨?_, HC.drew.drew⟩
    rw [rightB_tab, hka]; rfl
  | true =>
    cases hkb : knownB s.nodes.length b with
    | false =>
      go_wp2
      refine Mix.wp_region_mix (fun _ => True) (fun i => [0, 1, 3, 7, 15, 31, 63, 127, 255, 511, 1023, 2047, 4095, 8191, 1023, 17407, 50175, 131071, 262143, 524287, 1048575, 2097151, 4194303].getD i 0) (fun i => [2, 2, 2, 2, 2, 2, 2, 2, 2, 2, 2, 2, 2, 2, 2, 2, 2, 2, 2, 2, 2, 2, 2].getD i 0) (by kernel_rfl) ⟨by kernel_rfl, by kernel_rfl, by kernel_rfl, by kernel_rfl, by kernel_rfl⟩ trivial ?_; simp only [Mix.whole, List.getD_cons_zero, List.getD_cons_succ, Nat.reduceAdd]
      repeat (first | (refine Mix.pin_no rfl rfl (fun K hK => ?_); go_step; refine hK _ ?_; clear hK K) | (refine Mix.pin_not rfl rfl rfl rfl (fun K hK => ?_); simp only [List.setIfInBounds_toArray, List.set_cons_zero, List.set_cons_succ]; refine hK _ ?_; clear hK K) | (refine Mix.pin_yes rfl rfl rfl rfl (fun K hK => ?_); go_step; refine hK _ ?_; clear hK K))
      refine Mix.walk_nil ?_
      go_wp2
      go_ret
      refine ⟨?_, HC.drew.drew⟩
      rw [rightB_tab, hka, hkb]; rfl
    | true =>
      have hl : l.toList ≠ [] := by
        rcases HNO.out with h | h | h
        · rw [hka] at h; cases h
        · rw [hkb] at h; cases h
        · exact h
      have hl2 : l.toList.isEmpty = false := by simpa using hl
      go_wp2
      refine Mix.wp_region_mix (fun _ => True) (fun i => [0, 1, 3, 7, 15, 31, 63, 127, 255, 511, 1023, 2047, 4095, 8191, 1023, 17407, 50175, 131071, 262143, 524287, 1048575, 2097151, 4194303].getD i 0) (fun i => [2, 2, 2, 2, 2, 2, 2, 2, 2, 2, 2, 2, 2, 2, 2, 2, 2, 2, 2, 2, 2, 2, 2].getD i 0) (by kernel_rfl) ⟨by kernel_rfl, by kernel_rfl, by kernel_rfl, by kernel_rfl, by kernel_rfl⟩ trivial ?_; simp only [Mix.whole, List.getD_cons_zero, List.getD_cons_succ, Nat.reduceAdd]
      repeat (first | (refine Mix.pin_no rfl rfl (fun K hK => ?_); go_step; refine hK _ ?_; clear hK K) | (refine Mix.pin_not rfl rfl rfl rfl (fun K hK => ?_); simp only [List.setIfInBounds_toArray, List.set_cons_zero, List.set_cons_succ]; refine hK _ ?_; clear hK K) | (refine Mix.pin_yes rfl rfl rfl rfl (fun K hK => ?_); go_step; refine hK _ ?_; clear hK K))
      refine Mix.walk_nil ?_
      go_wp2
      go_ret
      refine ⟨?_, HC.drew.drew⟩
      rw [rightB_tab, hka, hkb, hl2]; rfl
set_option maxRecDepth 100000 in
set_option maxHeartbeats 2000000 in
set_option maxRecDepth 100000 in
theorem rright_box_yes {s : Rf} {w : World} (h : RefAt w s) (n : Nd) (h8 : n.kind = 8) (ya : knownB s.nodes.length n.a = true) (yb : knownB s.nodes.length n.b = true) (yl : n.label.toList = []) :
    Calls Tryd.prog 46 #[s.ptr, n.v] w fun e w' => e = .returned (.bool (rightB s.nodes n)) ∧ Chg none_ w w' := by
  have ha := h.alloc (.cells n.cells.toArray 40)
  have hbx : (w.alloc (.cells n.cells.toArray 40)).heap[w.heap.size]? = some (.cells n.cells.toArray 40 (0, 0)) := heap_alloc_at
  have HC : Chg none_ w (w.alloc (.cells n.cells.toArray 40)) := (Chg.refl _ _).alloc _
  have hsz : w.heap.size < (w.alloc (.cells n.cells.toArray 40)).heap.size := by simp
  obtain ⟨k, l, a, b⟩ := n; dsimp only at h8; subst h8; have e0 := cell_of hbx 0; have e1 := cell_of hbx 1; have e2 := cell_of hbx 2; have e3 := cell_of hbx 3; simp only [Nd.cells, List.getElem?_toArray, List.getElem?_cons_zero, List.getElem?_cons_succ] at e0 e1 e2 e3; have HA := Lib.hid ha; have hp := ha.p_lt
  dsimp only at ya yb yl
  have hr : 1 ≤ a ∧ a ≤ s.nodes.length := by simpa [knownB] using ya
  obtain ⟨i, rfl⟩ : ∃ i : Nat, a = (i : Int) + 1 := ⟨(a - 1).toNat, by omega⟩
  have hi : i < s.nodes.length := by omega
  have hlen := ha.len
  obtain ⟨bb, c, hs, hbb, q0, q1, q2, q3⟩ := ha.row_cells hi
  have hn : nodeAt s.nodes ((i : Int) + 1) = s.nodes[i] := nodeAt_get _ hi
  have h0 := ha.cell0
  rw [hs] at h0
  have hl2 : l.toList.isEmpty = true := by simpa using yl
  have HN := Lib.hid hn
  clear hn
  generalize s.nodes[i] = q at *
  obtain ⟨qk, ql, qa, qb⟩ := q
  dsimp only at q0
  clear ha h hbx q1 q2 q3 hr hs
  unfold Nd.v Rf.ptr
  simp only [Nd.cells] at *
  go_enter Tryd.func46, Tryd.ntmps46
  go_wp2
  generalize w.alloc (.cells #[.int .i64 8, .string l, .int .i64 ((i : Int) + 1), .int .i64 b] 40) = wa at *
  refine Mix.wp_region_mix (fun w' => w'.cell? ⟨w.heap.size, 3, none⟩ = some (.int .i64 b)) (fun i => [0, 0, 2, 7, 0, 0, 32, 127, 255, 511].getD i 0) (fun i => [2, 2, 2, 0, 1, 1, 1, 3, 2, 2].getD i 0) (by kernel_rfl) ⟨by kernel_rfl, by kernel_rfl, by kernel_rfl, by kernel_rfl, by kernel_rfl⟩ e3 ?_; simp only [Mix.whole, List.getD_cons_zero, List.getD_cons_succ, Nat.reduceAdd]
  repeat (first | (refine Mix.pin_no rfl rfl (fun K hK => ?_); go_step; refine hK _ ?_; clear hK K) | (refine Mix.soft_no rfl rfl ?_; apply Exists.intro; refine ⟨fun w' hS => ?_, fun K hK => ?_⟩; (first | (go_simp; done) | (go_simp; exact rfl)); simp only [List.setIfInBounds_toArray, List.set_cons_zero, List.set_cons_succ]; refine hK _ ?_; clear hK K) | (refine Mix.pin_not rfl rfl rfl rfl (fun K hK => ?_); simp only [List.setIfInBounds_toArray, List.set_cons_zero, List.set_cons_succ]; refine hK _ ?_; clear hK K) | (refine Mix.soft_not rfl rfl rfl rfl (fun K hK => ?_); simp only [List.setIfInBounds_toArray, List.set_cons_zero, List.set_cons_succ]; refine hK _ ?_; clear hK K) | (refine Mix.pin_yes rfl rfl rfl rfl (fun K hK => ?_); go_step; refine hK _ ?_; clear hK K) | (refine Mix.soft_yes rfl rfl rfl rfl ?_; apply Exists.intro; refine ⟨fun w' hS => ?_, fun K hK => ?_⟩; (first | (go_simp; done) | (go_simp; exact rfl)); simp only [List.setIfInBounds_toArray, List.set_cons_zero, List.set_cons_succ]; refine hK _ ?_; clear hK K))
  refine Mix.hard_no rfl (fun K hK => ?_)
  go_step
  refine (rknown_calls HA.out.drew _).mono ?_; rintro e w5 ⟨rfl, rfl⟩; dsimp only; refine hK _ _ ⟨e3, ?_⟩
  clear hK K
  (try simp only [Act.put, List.setIfInBounds_toArray, List.set_cons_zero, List.set_cons_succ])
  repeat (first | (refine Mix.pin_no rfl rfl (fun K hK => ?_); go_step; refine hK _ ?_; clear hK K) | (refine Mix.soft_no rfl rfl ?_; apply Exists.intro; refine ⟨fun w' hS => ?_, fun K hK => ?_⟩; (first | (go_simp; done) | (go_simp; exact rfl)); simp only [List.setIfInBounds_toArray, List.set_cons_zero, List.set_cons_succ]; refine hK _ ?_; clear hK K) | (refine Mix.pin_not rfl rfl rfl rfl (fun K hK => ?_); simp only [List.setIfInBounds_toArray, List.set_cons_zero, List.set_cons_succ]; refine hK _ ?_; clear hK K) | (refine Mix.soft_not rfl rfl rfl rfl (fun K hK => ?_); simp only [List.setIfInBounds_toArray, List.set_cons_zero, List.set_cons_succ]; refine hK _ ?_; clear hK K) | (refine Mix.pin_yes rfl rfl rfl rfl (fun K hK => ?_); go_step; refine hK _ ?_; clear hK K) | (refine Mix.soft_yes rfl rfl rfl rfl ?_; apply Exists.intro; refine ⟨fun w' hS => ?_, fun K hK => ?_⟩; (first | (go_simp; done) | (go_simp; exact rfl)); simp only [List.setIfInBounds_toArray, List.set_cons_zero, List.set_cons_succ]; refine hK _ ?_; clear hK K))
  refine Mix.last_no rfl (fun K hK => ?_)
  go_step
  refine (rknown_calls HA.out.drew b).mono ?_; rintro e w6 ⟨rfl, rfl⟩; dsimp only; refine hK _ _ ?_
  clear hK K
  (try simp only [Act.put, List.setIfInBounds_toArray, List.set_cons_zero, List.set_cons_succ])
  repeat (first | (refine Mix.pin_no rfl rfl (fun K hK => ?_); go_step; refine hK _ ?_; clear hK K) | (refine Mix.pin_not rfl rfl rfl rfl (fun K hK => ?_); simp only [List.setIfInBounds_toArray, List.set_cons_zero, List.set_cons_succ]; refine hK _ ?_; clear hK K) | (refine Mix.pin_yes rfl rfl rfl rfl (fun K hK => ?_); go_step; refine hK _ ?_; clear hK K))
  refine Mix.walk_nil ?_
  rw [ya, yb]
  go_wp2
  refine Mix.wp_region_mix (fun _ => True) (fun i => [0, 1, 3, 7, 15, 31, 63, 127, 255, 511, 1023, 2047, 4095, 8191, 1023, 17407, 50175, 131071, 262143, 524287, 1048575, 2097151, 4194303].getD i 0) (fun i => [2, 2, 2, 2, 2, 2, 2, 2, 2, 2, 2, 2, 2, 2, 2, 2, 2, 2, 2, 2, 2, 2, 2].getD i 0) (by kernel_rfl) ⟨by kernel_rfl, by kernel_rfl, by kernel_rfl, by kernel_rfl, by kernel_rfl⟩ trivial ?_; simp only [Mix.whole, List.getD_cons_zero, List.getD_cons_succ, Nat.reduceAdd]
  repeat (first | (refine Mix.pin_no rfl rfl (fun K hK => ?_); go_step; refine hK _ ?_; clear hK K) | (refine Mix.pin_not rfl rfl rfl rfl (fun K hK => ?_); simp only [List.setIfInBounds_toArray, List.set_cons_zero, List.set_cons_succ]; refine hK _ ?_; clear hK K) | (refine Mix.pin_yes rfl rfl rfl rfl (fun K hK => ?_); go_step; refine hK _ ?_; clear hK K))
  refine Mix.walk_nil ?_
  go_wp2
  go_ret
  refine ⟨?_, HC.drew.drew⟩
  rw [rightB_tab, ya, yb, hl2, HN.out]
  simp <;> (rw [Bool.eq_iff_iff]; simp)
theorem rright_calls {s : Rf} {w : World} (h : RefAt w s) (n : Nd) :
    Calls Tryd.prog 46 #[s.ptr, n.v] w fun e w' => e = .returned (.bool (rightB s.nodes n)) ∧ Chg none_ w w' := by
  by_cases h8 : n.kind = 8
  · cases ya : knownB s.nodes.length n.a with
    | false => exact rright_box_no h n h8 (.inl ya)
    | true =>
      cases yb : knownB s.nodes.length n.b with
      | false => exact rright_box_no h n h8 (.inr (.inl yb))
      | true =>
        by_cases yl : n.label.toList = []
        · exact rright_box_yes h n h8 ya yb yl
        · exact rright_box_no h n h8 (.inr (.inr yl))
  · exact rright_other h n h8
theorem knownB_mono {i : Nat} {l : List Nd} {t : Int} (h : knownB (l.take i).length t = true) : knownB l.length t = true := by
  rw [knownB_iff] at *; simp at h; omega
theorem nodeAt_take {i : Nat} {l : List Nd} {t : Int} (h : knownB (l.take i).length t = true) : nodeAt (l.take i) t = nodeAt l t := by
  rw [knownB_iff] at h
  simp at h
  unfold nodeAt
  rw [List.getD_eq_getElem?_getD, List.getD_eq_getElem?_getD, List.getElem?_take, if_pos (by omega)]
theorem rightB_mono {i : Nat} {l : List Nd} {n : Nd} (h : rightB (l.take i) n = true) : rightB l n = true := by
  obtain ⟨k, lb, a, b⟩ := n
  rw [rightB_tab] at *
  by_cases ka : knownB (l.take i).length a = true
  · have ka' := knownB_mono ka
    rw [nodeAt_take ka, ka] at h
    rw [ka']
    by_cases kb : knownB (l.take i).length b = true
    · rw [kb] at h
      rw [knownB_mono kb]
      exact h
    · rw [Bool.not_eq_true] at kb
      rw [kb] at h
      (repeat' split at h) <;> simp_all
  · rw [Bool.not_eq_true] at ka
    rw [ka] at h
    (repeat' split at h) <;> simp_all
theorem idx_right {l : List Nd} (h : WF l) {n : Nd} {k : Nat} (hk : idx l n = some k) : rightB l n = true := by
  obtain ⟨h1, rfl⟩ := idx_some hk
  exact rightB_mono (h k h1)
set_option maxHeartbeats 1000000 in
theorem rmake_bad {s : Rf} {w : World} (h : RefAt w s) (n : Nd) (hr : rightB s.nodes n = false) :
    Calls Tryd.prog 41 #[s.ptr, n.v] w fun e w' => e = .returned (.tuple #[.int .i64 0, .int .i64 10]) ∧ Chg none_ w w' := by
  have hcall := rright_calls (h.alloc (.cells n.cells.toArray 40)) n
  rw [hr] at hcall
  obtain ⟨k0, l, a, b⟩ := n
  clear h hr
  unfold Nd.v Rf.ptr at *
  simp only [Nd.cells] at hcall
  have HC := Lib.hid hcall
  clear hcall
  go_enter Tryd.func41, Tryd.ntmps41
  go_wp2_with (go_at_call 46; refine HC.out.mono ?_; rintro e w1 ⟨rfl, hc1⟩)
  go_ret2
  exact ⟨rfl, ((Chg.refl _ _).alloc _).trans hc1 (fun _ _ h => h)⟩
set_option maxHeartbeats 1000000 in
theorem rmake_old {s : Rf} {w : World} (h : RefAt w s) (n : Nd) {k : Nat} (hk : idx s.nodes n = some k) :
    Calls Tryd.prog 41 #[s.ptr, n.v] w fun e w' => e = .returned (.tuple #[.int .i64 ((k : Int) + 1), .int .i64 0]) ∧ Chg none_ w w' := by
  have hcall := rright_calls (h.alloc (.cells n.cells.toArray 40)) n
  rw [idx_right h.wf hk] at hcall
  have hfind := fun w' (h : RefAt w' s) => rfind_calls h n
  unfold findT at hfind
  rw [hk] at hfind
  dsimp only at hfind
  have HA := Lib.hid (h.alloc (.cells n.cells.toArray 40))
  obtain ⟨k0, l, a, b⟩ := n
  clear h hk
  unfold Nd.v Rf.ptr at *
  simp only [Nd.cells] at *
  have HF := Lib.hid hfind
  have hk0 : (0 : Int) < (k : Int) + 1 := by omega
  clear hfind
  have HC := Lib.hid hcall; clear hcall; go_enter Tryd.func41, Tryd.ntmps41
  go_wp2_with (go_at_call 46; refine HC.out.mono ?_; rintro e w1 ⟨rfl, hc1⟩; obtain ⟨q1, q2⟩ := hc1.cells; have qs := hc1.size; simp only [World.size_alloc] at qs)
  refine (HF.out _ (HA.out.chg hc1 (fun _ _ h => h))).mono ?_
  rintro e w2 ⟨rfl, hc2⟩
  go_wp2
  go_ret2
  exact ⟨rfl, (((Chg.refl _ _).alloc _).trans hc1 (fun _ _ h => h)).trans hc2 (fun _ _ h => h)⟩
theorem findT_none {l : List Nd} {n : Nd} (hk : idx l n = none) : findT l n = 0 := by unfold findT; rw [hk]
set_option maxHeartbeats 1000000 in
theorem rmake_full {s : Rf} {w : World} (h : RefAt w s) (n : Nd) (hk : idx s.nodes n = none) (hr : rightB s.nodes n = true) (hf : 262144 ≤ s.nodes.length) :
    Calls Tryd.prog 41 #[s.ptr, n.v] w fun e w' => e = .returned (.tuple #[.int .i64 0, .int .i64 11]) ∧ Chg none_ w w' := by
  have hcall := rright_calls (h.alloc (.cells n.cells.toArray 40)) n
  rw [hr] at hcall
  have hfind := fun w' (h : RefAt w' s) => rfind_calls h n
  rw [findT_none hk] at hfind
  obtain ⟨a0, c0, hs⟩ := h.slice
  have hp := h.p_lt
  have hlen := h.len
  rw [show s.nodes.length = 262144 by omega] at hs
  have HSL := Lib.hid hs
  clear hlen hf
  have HA := Lib.hid (h.alloc (.cells n.cells.toArray 40))
  obtain ⟨k0, l, a, b⟩ := n
  clear h hk hr hs
  unfold Nd.v Rf.ptr at *
  simp only [Nd.cells] at *
  have HF := Lib.hid hfind
  clear hfind
  have HC := Lib.hid hcall; clear hcall; go_enter Tryd.func41, Tryd.ntmps41
  go_wp2_with (go_at_call 46; refine HC.out.mono ?_; rintro e w1 ⟨rfl, hc1⟩; obtain ⟨q1, q2⟩ := hc1.cells; have qs := hc1.size; simp only [World.size_alloc] at qs)
  have hra := HA.out.chg hc1 (fun _ _ h => h)
  refine (HF.out _ hra).mono ?_
  rintro e w2 ⟨rfl, hc2⟩
  have hw2 : RefAt w2 s := hra.chg hc2 (fun _ _ h => h)
  have h10 := hw2.cell0
  rw [HSL.out] at h10
  go_wp2
  go_ret2
  exact ⟨rfl, (((Chg.refl _ _).alloc _).trans hc1 (fun _ _ h => h)).trans hc2 (fun _ _ h => h)⟩
set_option maxRecDepth 100000 in
set_option maxHeartbeats 1000000 in
theorem rmake_new {s : Rf} {w : World} (h : RefAt w s) (n : Nd) (hk : idx s.nodes n = none) (hr : rightB s.nodes n = true) (hf : s.nodes.length < 262144) :
    Calls Tryd.prog 41 #[s.ptr, n.v] w fun e w' => e = .returned (.tuple #[.int .i64 ((s.nodes.length : Int) + 1), .int .i64 0]) ∧ RNext s w (s.nodes ++ [n]) s.drawn w' := by
  have hcall := rright_calls (h.alloc (.cells n.cells.toArray 40)) n
  rw [hr] at hcall
  have hfind := fun w' (h : RefAt w' s) => rfind_calls h n
  rw [findT_none hk] at hfind
  obtain ⟨a0, c0, hs⟩ := h.slice
  have hp := h.p_lt
  have HS := Lib.hid h
  have HSL := Lib.hid hs
  have HK := Lib.hid hk
  have HR := Lib.hid hr
  have hfi : decide ((262144 : Int) ≤ (s.nodes.length : Int)) = false := by simp; omega
  have HFL := Lib.hid hf
  clear hf
  have HA := Lib.hid (h.alloc (.cells n.cells.toArray 40))
  obtain ⟨k0, l, a, b⟩ := n
  clear h hk hr hs
  unfold Nd.v Rf.ptr at *
  simp only [Nd.cells] at *
  have HF := Lib.hid hfind
  clear hfind
  have HC := Lib.hid hcall; clear hcall; go_enter Tryd.func41, Tryd.ntmps41
  go_wp2_with (go_at_call 46; refine HC.out.mono ?_; rintro e w1 ⟨rfl, hc1⟩; obtain ⟨q1, q2⟩ := hc1.cells; have qs := hc1.size; simp only [World.size_alloc] at qs)
  have hra := HA.out.chg hc1 (fun _ _ h => h)
  refine (HF.out _ hra).mono ?_
  rintro e w2 ⟨rfl, hc2⟩
  have hw2 : RefAt w2 s := hra.chg hc2 (fun _ _ h => h)
  have hbx : w2.heap[w.heap.size]? = some (.cells #[.int .i64 k0, .string l, .int .i64 a, .int .i64 b] 40 (0, 0)) := by
    rw [hc2.block _ (by omega) (fun h => h), hc1.block _ (by simp) (fun h => h)]
    exact heap_alloc_at
  have HC2 : Chg none_ w w2 := (((Chg.refl _ _).alloc _).trans hc1 (fun _ _ h => h)).trans hc2 (fun _ _ h => h)
  have hsz : w.heap.size < w2.heap.size := by have := hc2.size; omega
  have HBX := Lib.hid hbx
  have e0 := cell_of hbx 0
  have e1 := cell_of hbx 1
  have e2 := cell_of hbx 2
  have e3 := cell_of hbx 3
  simp only [List.getElem?_toArray, List.getElem?_cons_zero, List.getElem?_cons_succ] at e0 e1 e2 e3
  have h10 := hw2.cell0
  rw [HSL.out] at h10
  have hf0 := hw2.free 0
  have hp2 : s.p < w2.heap.size := by omega
  have HW2 := Lib.hid hw2
  have HCC := Lib.hid HC2
  clear q1 q2 hc1 hc2 HC hbx hw2 hra HC2 HF HA qs
  go_wp2
  refine Mix.wp_region_mix (fun w' => w'.cell? ⟨s.p, 0, none⟩ = some (.slice a0 s.nodes.length c0)) (fun i => [0, 0, 2, 6, 14, 0, 32, 126, 255, 511, 1023].getD i 0) (fun i => [1, 1, 1, 1, 1, 2, 0, 0, 2, 2, 3].getD i 0) (by kernel_rfl) ⟨by kernel_rfl, by kernel_rfl, by kernel_rfl, by kernel_rfl, by kernel_rfl⟩ h10 ?_; simp only [Mix.whole, List.getD_cons_zero, List.getD_cons_succ, Nat.reduceAdd]
  repeat (first | (refine Mix.pin_no rfl rfl (fun K hK => ?_); go_step; refine hK _ ?_; clear hK K) | (refine Mix.soft_no rfl rfl ?_; apply Exists.intro; refine ⟨fun w' hS => ?_, fun K hK => ?_⟩; (first | (go_simp; done) | (go_simp; exact rfl)); simp only [List.setIfInBounds_toArray, List.set_cons_zero, List.set_cons_succ]; refine hK _ ?_; clear hK K) | (refine Mix.pin_not rfl rfl rfl rfl (fun K hK => ?_); simp only [List.setIfInBounds_toArray, List.set_cons_zero, List.set_cons_succ]; refine hK _ ?_; clear hK K) | (refine Mix.soft_not rfl rfl rfl rfl (fun K hK => ?_); simp only [List.setIfInBounds_toArray, List.set_cons_zero, List.set_cons_succ]; refine hK _ ?_; clear hK K) | (refine Mix.pin_yes rfl rfl rfl rfl (fun K hK => ?_); go_step; refine hK _ ?_; clear hK K) | (refine Mix.soft_yes rfl rfl rfl rfl ?_; apply Exists.intro; refine ⟨fun w' hS => ?_, fun K hK => ?_⟩; (first | (go_simp; done) | (go_simp; exact rfl)); simp only [List.setIfInBounds_toArray, List.set_cons_zero, List.set_cons_succ]; refine hK _ ?_; clear hK K))
  refine Mix.hard_no rfl (fun K hK => ?_)
  go_step
  refine hK _ _ ⟨by go_simp, ?_⟩
  clear hK K
  refine Mix.hard_no rfl (fun K hK => ?_)
  obtain ⟨i0, hi, hz0, hz1, hz2⟩ := info_parts infoNode
  have hown : (w2.drew.alloc (.cells #[.int .i64 k0, .string l, .int .i64 a, .int .i64 b] 40)).ownsRow 0 40 4 s.sl s.nodes.length (flat s.nodes) := ((HW2.out.drew).alloc _).arr
  refine wp_append_lies _ (.tmp 27) (.tmp 29) 50 (by rfl) 0 40 i0 _ 4 40 Tryd.underlying50 hi hz0 hz1 hz2 rfl (by decide) s.sl s.nodes.length (flat s.nodes) (by rw [HSL.out]; rfl) hown
    ⟨w2.heap.size, 0, none⟩ 1 1 (Nd.cells ⟨k0, l, a, b⟩) (by rfl) rfl (World.news_of_block (w := w2.drew.alloc (.cells #[.int .i64 k0, .string l, .int .i64 a, .int .i64 b] 40)) (B := w2.heap.size) heap_alloc_at) (Nd.oneCells _) (by decide) (by have := HFL.out; unfold maxLen; omega) (by have := HFL.out; omega) (Nat.zero_le _) _ rfl ?_
  intro g cap w3 hown3 hg3 hat3 hlt3
  have hk3 : ∀ k, k < w2.heap.size → s.sl.ownBlock ≠ some k → w3.heap[k]? = w2.heap[k]? := fun k hk hn => by
    rw [hg3.block k (by simp; omega) (fun e => hn e.symm), heap_drew, heap_alloc_lt hk]
  have hs3 : w2.heap.size + 1 ≤ w3.heap.size := by have := hg3.size; simpa using this
  have hpn : s.sl.ownBlock ≠ some s.p := fun e => HW2.out.arr_ne_p e rfl
  have hobj := (hk3 s.p hp2 hpn).trans HW2.out.obj
  have hc3 : Chg s.own w w3 := by
    refine (HCC.out.mono (fun _ _ h => h.elim)).trans (M' := fun k => s.sl.ownBlock = some k) ⟨hg3.os, hg3.tape, hg3.output, by omega, fun k hk hn => hk3 k hk hn⟩ (fun k _ h => .inr h)
  have hg1 : s.sl.ownBlock = some g ∨ w.heap.size ≤ g := hat3.imp id fun e => by rw [e]; simp; omega
  have hgp : g ≠ s.p := by rintro rfl; rcases hat3 with h | h; exact hpn h; simp at h; omega
  have h20 := cell_of hobj 0
  have f20 := free_of hobj 0
  rw [HSL.out] at h20
  simp only [List.getElem?_toArray, List.getElem?_cons_zero, List.getElem?_cons_succ] at h20
  refine hK _ _ ⟨h20, ?_⟩
  clear hK K hg3 hat3 hown
  have HOBJ := Lib.hid hobj
  have HOWN := Lib.hid hown3
  have HC3 := Lib.hid hc3
  have HG1 := Lib.hid hg1
  have HGP := Lib.hid hgp
  clear hobj hown3 hk3 hc3 hg1 hgp hpn e0 e1 e2 e3 h10 hf0 hi hz0 hz1 hz2
  simp only [Act.put, List.setIfInBounds_toArray, List.set_cons_zero, List.set_cons_succ]
  repeat (first | (refine Mix.pin_no rfl rfl (fun K hK => ?_); go_step; refine hK _ ?_; clear hK K) | (refine Mix.pin_not rfl rfl rfl rfl (fun K hK => ?_); simp only [List.setIfInBounds_toArray, List.set_cons_zero, List.set_cons_succ]; refine hK _ ?_; clear hK K) | (refine Mix.pin_yes rfl rfl rfl rfl (fun K hK => ?_); go_step; refine hK _ ?_; clear hK K))
  refine Mix.last_no rfl (fun K hK => ?_)
  go_step
  refine hK _ _ ?_
  clear hK K
  refine Mix.walk_nil ?_
  have hobj4 : (w3.setCell ⟨s.p, 0, none⟩ (.slice (some ⟨g, 0, none⟩) (s.nodes.length + 1) cap)).heap[s.p]? = some (.cells #[.slice (some ⟨g, 0, none⟩) (s.nodes.length + 1) cap, .int .i64 s.drawn] 52 (0, 0)) := by
    rw [heap_setCell_at HOBJ.out]; rfl
  have hown4 : (w3.setCell ⟨s.p, 0, none⟩ (.slice (some ⟨g, 0, none⟩) (s.nodes.length + 1) cap)).ownsRow 0 40 4 (.slice (some ⟨g, 0, none⟩) (s.nodes.length + 1) cap) (s.nodes.length + 1) (flat s.nodes ++ Nd.cells ⟨k0, l, a, b⟩) :=
    row_keep HOWN.out fun b hb => by simp [Value.ownBlock] at hb; subst hb; exact heap_setCell_ne HGP.out
  have hc4 : Chg s.own w (w3.setCell ⟨s.p, 0, none⟩ (.slice (some ⟨g, 0, none⟩) (s.nodes.length + 1) cap)) := HC3.out.setCell (.inl (.inl rfl)) _
  generalize w3.setCell ⟨s.p, 0, none⟩ (.slice (some ⟨g, 0, none⟩) (s.nodes.length + 1) cap) = w4 at *
  have o0 := cell_of hobj4 0
  simp only [List.getElem?_toArray, List.getElem?_cons_zero, List.getElem?_cons_succ] at o0
  have HO4 := Lib.hid hobj4
  have HW4 := Lib.hid hown4
  have HC4 := Lib.hid hc4
  clear hobj4 hown4 hc4 HOBJ HOWN HC3 h20 f20 hs3
  go_wp2
  go_ret2
  refine ⟨by simp, ⟨⟨⟨s.p, .slice (some ⟨g, 0, none⟩) (s.nodes.length + 1) cap, s.nodes ++ [⟨k0, l, a, b⟩], s.drawn⟩, ⟨HO4.out, ?_, ?_, ?_, HS.out.drawn0, HS.out.drawn1, HS.out.wf.snoc HR.out⟩, rfl, rfl, rfl, ?_, HC4.out⟩⟩⟩
  · simp only [flat_append, flat_one, List.length_append, List.length_cons, List.length_nil]
    exact HW4.out
  · exact nodup_snoc HS.out.nodup HK.out
  · simp only [List.length_append, List.length_cons, List.length_nil]; have := HFL.out; omega
  · rintro k (rfl | hk)
    · exact .inl (.inl rfl)
    · simp [Value.ownBlock] at hk
      subst hk
      exact HG1.out.imp (fun h => .inr h) id
theorem rmake_calls {s : Rf} {w : World} (h : RefAt w s) (n : Nd) :
    Calls Tryd.prog 41 #[s.ptr, n.v] w fun e w' => e = .returned (.tuple #[.int .i64 (mkT s.nodes n), .int .i64 (mkE s.nodes n)]) ∧ RNext s w (mkL s.nodes n) s.drawn w' := by
  cases hk : idx s.nodes n with
  | some k =>
    refine (rmake_old h n hk).mono ?_
    rintro e w' ⟨rfl, hc⟩
    simp only [mkT, mkE, mkL, hk]
    exact ⟨trivial, .same h hc⟩
  | none =>
    cases hr : rightB s.nodes n with
    | false =>
      refine (rmake_bad h n hr).mono ?_
      rintro e w' ⟨rfl, hc⟩
      simp only [mkT, mkE, mkL, hk, hr, Bool.false_eq_true, if_false]
      exact ⟨trivial, .same h hc⟩
    | true =>
      rcases Nat.lt_or_ge s.nodes.length 262144 with hf | hf
      · refine (rmake_new h n hk hr hf).mono ?_
        rintro e w' ⟨rfl, hc⟩
        simp only [mkT, mkE, mkL, hk, hr, if_true, if_neg (Nat.not_le.2 hf)]
        exact ⟨trivial, hc⟩
      · refine (rmake_full h n hk hr hf).mono ?_
        rintro e w' ⟨rfl, hc⟩
        simp only [mkT, mkE, mkL, hk, hr, if_true, if_pos hf]
        exact ⟨trivial, .same h hc⟩
theorem RNext.get {s : Rf} {w w' : World} {l : List Nd} {d : Int} (h : RNext s w l d w') : ∃ sl', RefAt w' ⟨s.p, sl', l, d⟩ ∧ (∀ k, Rf.own ⟨s.p, sl', l, d⟩ k → s.own k ∨ w.heap.size ≤ k) ∧ Chg s.own w w' := by
  obtain ⟨⟨⟨p, sl, l', d'⟩, h1, h2, h3, h4, h5, h6⟩⟩ := h
  dsimp only at h2 h3 h4
  subst h2 h3 h4
  exact ⟨sl, h1, h5, h6⟩
set_option maxHeartbeats 1000000 in
theorem rput_calls {s : Rf} {w : World} (h : RefAt w s) (k a b : Int) (l : ByteArray) :
    Calls Tryd.prog 34 #[s.ptr, .int .i64 k, .string l, .int .i64 a, .int .i64 b] w fun e w' => e = .returned (.int .i64 (mkT s.nodes ⟨k, l, a, b⟩)) ∧ RNext s w (mkL s.nodes ⟨k, l, a, b⟩) s.drawn w' := by
  have hcall := rmake_calls h ⟨k, l, a, b⟩
  unfold Nd.v at hcall
  have HC := Lib.hid hcall
  clear hcall h
  unfold Rf.ptr at *
  go_enter Tryd.func34, Tryd.ntmps34
  go_wp2_with (go_at_call 41; refine HC.out.mono ?_; rintro e w1 ⟨rfl, hc1⟩)
  go_ret
  exact ⟨rfl, hc1⟩
set_option maxHeartbeats 1000000 in
theorem rfresh_calls {s : Rf} {w : World} (h : RefAt w s) :
    Calls Tryd.prog 20 #[s.ptr] w fun e w' => e = .returned (.int .i64 (mkT s.nodes (freshN s.drawn))) ∧ RNext s w (mkL s.nodes (freshN s.drawn)) (freshD s.nodes s.drawn) w' := by
  have hcall := rput_calls h 1 (s.drawn + 1) 0 ByteArray.empty
  have hd := freshD_le h.wf h.drawn1
  have h2 := h.cell1
  have hd0 := h.drawn0
  have hd1 := h.drawn1
  have H := Lib.hid h
  have HD := Lib.hid hd
  have hrg := (mkT_range s.nodes (freshN s.drawn) h.len).1
  by_cases hz : mkT s.nodes (freshN s.drawn) = 0
  · have e : freshD s.nodes s.drawn = s.drawn := by unfold freshD; rw [if_pos hz]
    rw [e]
    simp only [freshN] at *
    generalize mkT s.nodes ⟨1, ByteArray.empty, s.drawn + 1, 0⟩ = T at *
    subst hz
    generalize mkL s.nodes ⟨1, ByteArray.empty, s.drawn + 1, 0⟩ = L at *
    simp only [ByteArray.empty] at hcall
    have HC := Lib.hid hcall
    clear hcall h e hd
    unfold Rf.ptr at *
    go_enter Tryd.func20, Tryd.ntmps20
    go_wp2_with (go_at_call 34; refine (HC.out).mono ?_; rintro e w1 ⟨rfl, hc1⟩)
    go_ret
    exact ⟨rfl, hc1⟩
  · have hnz2 : 0 < mkT s.nodes (freshN s.drawn) := by omega
    have e : freshD s.nodes s.drawn = s.drawn + 1 := by unfold freshD; rw [if_neg hz]
    have HDX : Hid (s.drawn + 1 ≤ 1099511627776) := by rw [e] at hd; exact hd
    rw [e]
    simp only [freshN] at *
    generalize mkT s.nodes ⟨1, ByteArray.empty, s.drawn + 1, 0⟩ = T at *
    generalize mkL s.nodes ⟨1, ByteArray.empty, s.drawn + 1, 0⟩ = L at *
    simp only [ByteArray.empty] at hcall
    have hnz : decide (0 < T) = true := by simpa using hnz2
    have HC := Lib.hid hcall
    clear hcall h e hd hz
    unfold Rf.ptr at *
    go_enter Tryd.func20, Tryd.ntmps20
    go_wp2_with (go_at_call 34; refine (HC.out).mono ?_; rintro e w1 ⟨rfl, hc1⟩; obtain ⟨⟨s', h1, hp, hn, hdr, hown, hchg⟩⟩ := hc1; have g2 := h1.cell1; rw [hp, hdr] at g2; have gf := h1.free 1; rw [hp] at gf; have H1 := Lib.hid h1; have HP := Lib.hid hp; have HN := Lib.hid hn; have HDR := Lib.hid hdr; clear h1 hp hn hdr)
    go_ret
    refine ⟨rfl, ⟨⟨{ s' with drawn := s.drawn + 1 }, ⟨?_, ?_, H1.out.nodup, H1.out.len, by show 0 ≤ s.drawn + 1; omega, HDX.out, H1.out.wf⟩, HP.out, HN.out, rfl, hown, hchg.setCell (.inl (.inl rfl)) _⟩⟩⟩
    · have := heap_setCell_at (i := 1) (v := .int .i64 (s.drawn + 1)) H1.out.obj
      rw [HP.out] at this
      rw [show ({ s' with drawn := s.drawn + 1 } : Rf).p = s.p from HP.out]
      exact this
    · exact row_keep H1.out.arr fun b hb => heap_setCell_ne (by show b ≠ s.p; rw [← HP.out]; exact H1.out.arr_ne_p hb)
set_option maxHeartbeats 1000000 in
theorem rpub_calls {s : Rf} {w : World} (h : RefAt w s) (a : Int) :
    Calls Tryd.prog 21 #[s.ptr, .int .i64 a] w fun e w' => e = .returned (.int .i64 (mkT s.nodes ⟨6, ByteArray.empty, a, 0⟩)) ∧ RNext s w (mkL s.nodes ⟨6, ByteArray.empty, a, 0⟩) s.drawn w' := by
  have hcall := rput_calls h 6 a 0 ByteArray.empty
  (try simp only [ByteArray.empty] at hcall)
  have HC := Lib.hid hcall
  clear hcall h
  unfold Rf.ptr at *
  go_enter Tryd.func21, Tryd.ntmps21
  go_wp2_with (go_at_call 34; refine HC.out.mono ?_; rintro e w1 ⟨rfl, hc1⟩)
  go_ret
  exact ⟨rfl, hc1⟩
end Go.Proofs.YteljmaebhjhedaaDoor
