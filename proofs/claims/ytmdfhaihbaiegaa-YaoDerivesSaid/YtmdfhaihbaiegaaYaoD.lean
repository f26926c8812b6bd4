/- What Learn does, piece by piece: zeros appended, an entry laid into the map, what is known and what can be made. -/
import Derived.Test.YtmdfhaihbaiegaaYaoC
import Derived.Laws.AppendOwn
import Derived.Lib.AppendZeros
import Derived.Deep.AppendLies
set_option linter.unusedVariables false
set_option linter.unusedSimpArgs false
namespace Go.Proofs.Ytmdfhaihbaiegaa
open Go.RowKit Go.MapKept

theorem infoBool : (Try.prog.info? 4).map (fun i => (i.zero, i.size, i.bytes)) = some (some (.bool false), 1, 1) := by kernel_rfl
theorem zeros_bool (m : Nat) : (Builtin.zeroCells (Value.bool false).cells m).toList = (List.replicate m false).map Value.bool := by
  apply List.ext_getElem
  · simp [Builtin.zeroCells, Value.cells]
  · intro i h1 h2
    have h3 : (Value.bool false).cells = #[.bool false] := rfl
    simp [Builtin.zeroCells, h3, Nat.mod_one]

theorem list_put {α : Type} (l : List α) (o : Nat) (v : α) (r : List α) (h : o + (r.length + 1) ≤ l.length) :
    (l.set o v).take (o + 1) ++ r ++ (l.set o v).drop (o + 1 + r.length) = l.take o ++ v :: r ++ l.drop (o + (r.length + 1)) := by
  have ho : o < l.length := by omega
  have e1 : (l.set o v).take (o + 1) = l.take o ++ [v] := by
    rw [List.take_succ_eq_append_getElem (by simpa using ho), List.take_set, List.set_eq_of_length_le (by simp; omega), List.getElem_set_self]
  have e2 : (l.set o v).drop (o + 1 + r.length) = l.drop (o + (r.length + 1)) := by
    rw [List.drop_set_of_lt (by omega)]
    congr 1
    omega
  rw [e1, e2]
  simp

/-- Cells put one behind the other into a block that is known whole. -/
theorem puts_row {g : Nat} {e : TypeId} : ∀ (vs : List Value) (o : Nat) (w : World) (cur : Array Value), w.heap[g]? = some (.cells cur e (0, 0)) → o + vs.length ≤ cur.size →
    (∃ cur', (w.setCells g o vs).heap[g]? = some (.cells cur' e (0, 0)) ∧ cur'.size = cur.size ∧ cur'.toList = cur.toList.take o ++ vs ++ cur.toList.drop (o + vs.length)) ∧ Chg (fun k => k = g) w (w.setCells g o vs)
  | [], o, w, cur, h, _ => ⟨⟨cur, h, rfl, by simp⟩, Chg.refl _ _⟩
  | v :: r, o, w, cur, h, hl => by
    simp only [List.length_cons] at hl
    have h2 := heap_setCell_at (i := o) (v := v) h
    obtain ⟨⟨cur', h3, h4, h5⟩, hc⟩ := puts_row r (o + 1) (w.setCell ⟨g, o, none⟩ v) _ h2 (by simp; omega)
    refine ⟨⟨cur', h3, by rw [h4]; simp, ?_⟩, ((Chg.refl (fun k => k = g) w).setCell (p := ⟨g, o, none⟩) (.inl rfl) v).trans hc (fun _ _ h => h)⟩
    rw [h5, Array.toList_setIfInBounds]
    simp only [List.length_cons]
    exact list_put _ _ _ _ (by rw [Array.length_toList]; omega)

/-- append(v, make([]bool, m)...) at a row of the call's own. -/
theorem run_append_falses (w : World) (base : Nat) (v : Value) (D : List Bool) (m : Nat) (ty : TypeId) (hown : w.ownsRow base 4 1 v D.length (D.map Value.bool)) (hb : D.length + m ≤ 1000000) (hbase : base ≤ w.heap.size) :
    ∃ v' w', (Builtin.append_ #[30, 3] ty #[v, .int .i64 m]).run Try.prog w = .ok v' w' ∧ w'.ownsRow base 4 1 v' (D.length + m) ((D ++ List.replicate m false).map Value.bool) ∧ w.grownBy w' v.ownBlock ∧
      (v'.ownBlock = v.ownBlock ∨ v'.ownBlock = some w.heap.size) := by
  obtain ⟨i, hi, hz, hsize, hbytes⟩ := info_parts infoBool
  have ht := Try.underlying30
  have hti := Try.underlying3
  have hw : IntKind.i64.wrap (m : Int) = m := by rw [IntKind.wrap_i64]; omega
  have hneg : ¬ ((m : Int) < 0) := by omega
  have hbig : ¬ (281474976710656 < (m : Int) * ((1 : Nat) : Int)) := by omega
  generalize hN : (List.replicate m false).map Value.bool = news
  have hnews : (Builtin.zeroCells (Value.bool false).cells m).toList = news := by rw [zeros_bool, hN]
  have hna : Builtin.zeroCells (Value.bool false).cells m = news.toArray := by rw [← hnews]
  have hl : news.length = m := by rw [← hN]; simp
  have h1 : ∀ u ∈ news, u.oneCell' = true := by
    intro u hu
    rw [← hN] at hu
    obtain ⟨b, _, rfl⟩ := List.mem_map.1 hu
    rfl
  rw [List.map_append, hN]
  generalize hX : D.map Value.bool = xs at *
  have hxl : xs.length = D.length := by rw [← hX]; simp
  generalize D.length = n at *
  have hlen : (xs ++ news).length = n + m := by simp [hxl, hl]
  have hm0 : ∀ k, (Builtin.zeroCells (Value.bool false).cells k).size = k := fun k => by simp [Builtin.zeroCells, Value.cells]
  have grown : ∀ (old : Nat), old < n + m → ∀ (row : Option Nat),
      (w.drew.alloc (.cells (xs.toArray ++ news.toArray ++ Builtin.zeroCells (Value.bool false).cells (grownCap w (n + m) old 4 - (n + m))) 4)).ownsRow base 4 1
        (.slice (some ⟨w.heap.size, 0, none⟩) (n + m) (grownCap w (n + m) old 4)) (n + m) (xs ++ news) ∧
      w.grownBy (w.drew.alloc (.cells (xs.toArray ++ news.toArray ++ Builtin.zeroCells (Value.bool false).cells (grownCap w (n + m) old 4 - (n + m))) 4)) row := by
    intro old ho row
    have hge := grownCap_ge w (n + m) old 4
    have hcm : grownCap w (n + m) old 4 ≤ maxLen := grownCap_le_maxLen w (n + m) old 4 (by simp only [maxLen]; omega)
    refine ⟨⟨by rw [hlen, Nat.mul_one], .inr ⟨w.heap.size, _, _, rfl, hbase, heap_alloc_at (w := w.drew), hge, hcm, ?_, ?_⟩⟩, ⟨rfl, rfl, rfl, by simp, fun k hk _ => heap_alloc_lt (w := w.drew) hk⟩⟩
    · simp only [Array.size_append, List.size_toArray, hm0, hxl, hl]
      omega
    · rw [Nat.mul_one]
      simp only [Array.toList_append, List.append_assoc]
      rw [← List.append_assoc, ← hlen]
      exact List.take_left
  have runs : ∀ (A : Option Addr) (cap : Nat), cap < n + m → (Builtin.firstCells 1 n (.slice A n cap)).run Try.prog w.drew = .ok xs.toArray w.drew → (Builtin.append_ #[30, 3] ty #[.slice A n cap, .int .i64 m]).run Try.prog w =
      .ok (.slice (some ⟨w.heap.size, 0, none⟩) (n + m) (grownCap w (n + m) cap 4)) (w.drew.alloc (.cells (xs.toArray ++ news.toArray ++ Builtin.zeroCells (Value.bool false).cells (grownCap w (n + m) cap 4 - (n + m))) 4)) := by
    intro A cap hcap hfo
    have hn : ¬ (n + m ≤ cap) := by omega
    have h63' : ¬ (9223372036854775807 < ((n : Int) + (m : Int))) := by omega
    have hfit := growslice_fits (bytes := 1) hcap (by omega)
    have h48' : ¬ (281474976710656 < Builtin.nextslicecap (n + m) cap * 1) := by omega
    by_cases hm : m = 0
    · have hnl : news = [] := List.eq_nil_of_length_eq_zero (by omega)
      subst hm
      have hw0 : IntKind.i64.wrap 0 = 0 := by rw [IntKind.wrap_i64]; rfl
      rw [hnl]
      simp only [Nat.add_zero, Nat.mul_one] at hn h63' h48' ⊢
      have h63'' : ¬ (9223372036854775807 < (n : Int)) := by omega
      simp [Builtin.append_, run_underlying ht, run_underlying hti, sizeOf, typeInfo, zeroValue, hi, hz, hsize, hbytes, asInt, asIntOf, hw0, hn, h63'', h48', Question.forced, hfo, newRow, grownCap]
    · simp only [Nat.mul_one] at h48'
      simp [Builtin.append_, run_underlying ht, run_underlying hti, sizeOf, typeInfo, zeroValue, hi, hz, hsize, hbytes, asInt, asIntOf, hw, hneg, hn, h63', h48', Question.forced, hfo, newRow, grownCap, hm, hna]
      rw [if_neg (by omega), show ∀ Z : Array Value, (xs ++ news).toArray ++ Z = xs.toArray ++ (news.toArray ++ Z) from fun Z => by apply Array.ext'; simp]
  rcases hown.2 with ⟨rfl, rfl⟩ | ⟨g, cap, cur, rfl, hbg, hg, hnc, hcm, hcs, htake⟩
  · have hx : xs = [] := List.eq_nil_of_length_eq_zero hxl
    subst hx
    by_cases hm : m = 0
    · have hnl : news = [] := List.eq_nil_of_length_eq_zero (by omega)
      subst hm
      rw [hnl]
      have hw0 : IntKind.i64.wrap 0 = 0 := by rw [IntKind.wrap_i64]; rfl
      refine ⟨.slice none 0 0, w, ?_, World.ownsRow_nil w base 4 1, ⟨rfl, rfl, rfl, Nat.le_refl _, fun _ _ _ => rfl⟩, Or.inl rfl⟩
      simp [Builtin.append_, run_underlying ht, run_underlying hti, sizeOf, typeInfo, hi, hsize, asInt, asIntOf, hw0]
    · have hgr := grown 0 (by omega) (Value.ownBlock (.slice none 0 0))
      exact ⟨_, _, runs none 0 (by omega) (by simp [Builtin.firstCells]), hgr.1, hgr.2, Or.inr rfl⟩
  · by_cases hroom : n + m ≤ cap
    · have hfit : n * 1 + news.length ≤ cur.size := by omega
      obtain ⟨⟨cur', h3, h4, h5⟩, hch⟩ := puts_row news (n * 1) w cur hg hfit
      have hst := run_storeCells_cells (P := Try.prog) g (n * 1) news 0 w (fun j hj => by rw [cell_of hg, Array.getElem?_eq_getElem (by omega)]; rfl) (fun j _ => free_of hg _) h1
      simp only [Nat.add_zero] at hst
      refine ⟨.slice (some ⟨g, 0, none⟩) (n + m) cap, w.setCells g (n * 1) news, ?_, ⟨by rw [hlen, Nat.mul_one], .inr ⟨g, cap, cur', rfl, hbg, h3, hroom, hcm, by rw [h4, hcs], ?_⟩⟩, ⟨hch.os, hch.tape, hch.output, hch.size, fun k hk1 hk => hch.block k hk1 (fun e => hk (by simp [Value.ownBlock, e]))⟩, Or.inl rfl⟩
      · have hap : (⟨g, 0, none⟩ : Addr).add (n * 1) = ⟨g, 0 + n * 1, none⟩ := by unfold Addr.add; split <;> simp_all
        by_cases hm : m = 0
        · have hnl : news = [] := List.eq_nil_of_length_eq_zero (by omega)
          have hw0 : IntKind.i64.wrap 0 = 0 := by rw [IntKind.wrap_i64]; rfl
          subst hm
          rw [hnl] at hst ⊢
          simp [Builtin.append_, run_underlying ht, run_underlying hti, sizeOf, typeInfo, hi, hsize, asInt, asIntOf, hw0, hnc, storeCells] at hst ⊢
          rfl
        · simp only [Nat.zero_add, Nat.mul_one] at hap hst ⊢
          simp [Builtin.append_, run_underlying ht, run_underlying hti, sizeOf, typeInfo, zeroValue, hi, hz, hsize, hbytes, asInt, asIntOf, hw, hneg, hroom, hm, hna, hap, hst]
          omega
      · rw [h5]
        have h6 : cur.toList.take (n * 1) = xs := htake
        rw [h6, Nat.mul_one, ← hlen]
        exact List.take_left
    · have holds : ∀ j u, xs[j]? = some u → w.cell? ((⟨g, 0, none⟩ : Addr).add j) = some u := hown.cells (g := g) rfl
      have hgr := grown cap (by omega) (Value.ownBlock (.slice (some ⟨g, 0, none⟩) n cap))
      exact ⟨_, _, runs (some ⟨g, 0, none⟩) cap (by omega) (run_firstCells_some (P := Try.prog) w.drew 1 n _ n cap xs (by omega) (by simpa using holds)), hgr.1, hgr.2, Or.inr rfl⟩


/-- m.known[t] = true, told as the entry's place first and then what goes there: a key that wasn't there. -/
theorem MapAt.enter {w : World} {m : Nat} {es : Array MapEntry} {clock : Nat} {ks : List Int} (h : MapAt w m es clock ks) {t : Int} (hn : t ∉ ks) :
    (Instr.mapEntry 53 (.map (some m)) (.int .i64 t)).run Try.prog w = .ok (.tuple #[.bool false, .int .i64 clock]) (putObj w m (.map (es.push { key := .int .i64 t, val := .bool false, born := clock }) (clock + 1))) ∧
    (Instr.entryStore 53 (.map (some m)) (.int .i64 clock) (.bool true)).run Try.prog (putObj w m (.map (es.push { key := .int .i64 t, val := .bool false, born := clock }) (clock + 1))) =
      .ok () (putObj w m (.map (es.push { key := .int .i64 t, val := .bool true, born := clock }) (clock + 1))) ∧
    MapAt (putObj w m (.map (es.push { key := .int .i64 t, val := .bool true, born := clock }) (clock + 1))) m (es.push { key := .int .i64 t, val := .bool true, born := clock }) (clock + 1) (ks ++ [t]) := by
  have hf : (Instr.findKey 3 (.int .i64 t) es.toList).run Try.prog w = .ok none w := by
    rcases run_findKey_int h w t with ⟨_, e⟩ | ⟨hy, _⟩
    · exact e
    · exact absurd hy hn
  have hb : ∀ x ∈ es.toList, x.born < clock := h.stamped.1
  refine ⟨?_, ?_, ?_⟩
  · unfold Instr.mapEntry
    simp only [Sem.run_bind, run_underlying mapIB, Result.andThen_ok, run_getObj_map h.obj, run_checkKey_int, hf, zeroBool, run_setObj_map h.obj, Sem.run_pure]
    rfl
  · unfold Instr.entryStore
    have hg := heap_putObj_at (w := w) (m := m) (o := .map (es.push { key := .int .i64 t, val := .bool false, born := clock }) (clock + 1)) h.lt
    simp only [Sem.run_bind, run_getObj_map hg, Result.andThen_ok, asInt, asIntOf, Sem.run_pure]
    have hidx : (es.push { key := .int .i64 t, val := .bool false, born := clock }).findIdx? (fun e => (e.born : Int) == (clock : Int)) = some es.size := by
      rw [Array.findIdx?_push]
      have : es.findIdx? (fun e => (e.born : Int) == (clock : Int)) = none := by
        rw [Array.findIdx?_eq_none_iff]
        intro x hx
        have := hb x (Array.mem_toList_iff.2 hx)
        simp
        omega
      rw [this]
      simp
    rw [hidx]
    simp only [run_setObj_map hg]
    have hm : (es.push { key := .int .i64 t, val := .bool false, born := clock }).modify es.size (fun e => { key := e.key, val := .bool true, born := e.born }) = es.push { key := .int .i64 t, val := .bool true, born := clock } := by
      apply Array.ext_getElem?
      intro i
      rw [Array.getElem?_modify, Array.getElem?_push, Array.getElem?_push]
      by_cases hi : es.size = i
      · subst hi; simp
      · rw [if_neg hi]
        simp only [show ¬ i = es.size from fun e => hi e.symm, if_false]
    rw [hm]
    simp [putObj]
  · refine ⟨heap_putObj_at h.lt, by simp [h.keys], ?_, stamped_push h.stamped fun x hx ex => hn (h.mem.2 ⟨x, hx, ex⟩)⟩
    intro y hy
    simp only [Array.toList_push, List.mem_append, List.mem_singleton] at hy
    rcases hy with hy | rfl
    · exact h.vals y hy
    · rfl

/-- A list without a number twice, all of whose numbers are in another one, isn't longer. -/
theorem nodup_len {α : Type} [DecidableEq α] : ∀ (l r : List α), l.Nodup → (∀ x ∈ l, x ∈ r) → l.length ≤ r.length
  | [], r, _, _ => Nat.zero_le _
  | x :: l, r, hn, hs => by
    have hx : x ∈ r := hs x (.head _)
    obtain ⟨hx1, hl⟩ := List.nodup_cons.1 hn
    have h1 := nodup_len l (r.erase x) hl (fun y hy => (List.mem_erase_of_ne (fun e => hx1 (by rw [e] at hy; exact hy))).2 (hs y (.tail _ hy)))
    rw [List.length_erase_of_mem hx] at h1
    have : 0 < r.length := List.length_pos_of_mem hx
    simp only [List.length_cons]
    omega

/-- What is known is at most all. -/
theorem known_len {n : Nat} {ks : List Int} (hn : ks.Nodup) (hk : ∀ t ∈ ks, knownB n t = true) : ks.length ≤ n := by
  have h := nodup_len ks ((List.range n).map fun (i : Nat) => (i : Int) + 1) hn (fun t ht => by
    have := knownB_iff.1 (hk t ht)
    exact List.mem_map.2 ⟨(t - 1).toNat, by simp; omega, by omega⟩)
  simpa using h

/-! ### what holds while Learn works -/

/-- The mind q, grown out of q0 of world W, over the store s; what it says can be derived from S. -/
structure Lrn (W : World) (q0 : Mind) (s : St) (S : Int → Prop) (q : Mind) (w : World) : Prop where
  mind : MindAt w q
  st : StoreAt w s
  hp : q.p = q0.p
  hm : q.m = q0.m
  hsp : q.sp = s.p
  rown : ∀ b, q.sl.ownBlock = some b → q0.sl.ownBlock = some b ∨ W.heap.size ≤ b
  chg : Chg q0.own W w
  ck : ∀ t ∈ q.ks, KnD s.nodes S t
  cc : ∀ i : Nat, q.can.getD i false = true → CanD s.nodes S i

/-- The mind's blocks are none of the store's. -/
def Sep (q0 : Mind) (s : St) : Prop := ∀ k, q0.own k → ¬ s.own k

theorem Lrn.own {W w : World} {q0 q : Mind} {s : St} {S : Int → Prop} (h : Lrn W q0 s S q w) {k : Nat} (hk : q.own k) : q0.own k ∨ W.heap.size ≤ k := by
  rcases hk with rfl | rfl | hk
  · exact .inl (.inl h.hp)
  · exact .inl (.inr (.inl h.hm))
  · exact (h.rown _ hk).imp (fun e => .inr (.inr e)) id

theorem Lrn.still {W w w' : World} {q0 q : Mind} {s : St} {S : Int → Prop} (h : Lrn W q0 s S q w) (hc : Chg none_ w w') : Lrn W q0 s S q w' :=
  { h with mind := h.mind.chg hc (fun _ _ h => h), st := h.st.chg hc (fun _ _ h => h), chg := h.chg.trans hc (fun _ _ h => h.elim) }

theorem Lrn.drew {W w : World} {q0 q : Mind} {s : St} {S : Int → Prop} (h : Lrn W q0 s S q w) : Lrn W q0 s S q w.drew := h.still ((Chg.refl _ _).drew)
theorem Lrn.alloc {W w : World} {q0 q : Mind} {s : St} {S : Int → Prop} (h : Lrn W q0 s S q w) (o : Obj) : Lrn W q0 s S q (w.alloc o) := h.still ((Chg.refl _ _).alloc o)

/-- What Learn changed of the mind's own blocks leaves the store as it was: the store's blocks lie in W. -/
theorem Lrn.store_keep {W w w' : World} {q0 q : Mind} {s : St} {S : Int → Prop} (h : Lrn W q0 s S q w) (hs : ∀ k, s.own k → k < W.heap.size) (sep : Sep q0 s) {M : Nat → Prop} (hc : Chg M w w') (hM : ∀ k, M k → q0.own k ∨ W.heap.size ≤ k) : StoreAt w' s :=
  h.st.chg hc fun k hk hm => by
    rcases hM k hm with h1 | h1
    · exact sep k h1 hk
    · have := hs k hk; omega

/-- Behind a step that turned the map alone. -/
theorem Lrn.turned {W w : World} {q0 q : Mind} {s : St} {S : Int → Prop} (h : Lrn W q0 s S q w) (hs : ∀ k, s.own k → k < W.heap.size) (sep : Sep q0 s) {es' : Array MapEntry} {clock' : Nat} {ks' : List Int}
    (hm : MapAt (putObj w q.m (.map es' clock')) q.m es' clock' ks') (hk : ∀ t ∈ ks', KnD s.nodes S t) : Lrn W q0 s S { q with ks := ks', es := es', clock := clock' } (putObj w q.m (.map es' clock')) := by
  have hc : Chg (fun k => k = q.m) w (putObj w q.m (.map es' clock')) := (Chg.refl (fun k => k = q.m) w).putObj (.inl rfl) _
  refine ⟨⟨?_, hm, ?_⟩, h.store_keep hs sep hc (fun k e => .inl (.inr (.inl (e.trans h.hm)))), h.hp, h.hm, h.hsp, h.rown, h.chg.trans hc (fun k _ e => .inr (.inl (e.trans h.hm))), hk, h.cc⟩
  · show (putObj w q.m _).heap[q.p]? = _
    rw [heap_putObj_ne h.mind.p_ne_m]; exact h.mind.obj
  · exact row_keep h.mind.row fun b hb => heap_putObj_ne (h.mind.row_ne_m hb)

/-- Behind a store into 'can'. -/
theorem Lrn.setCan {W w : World} {q0 q : Mind} {s : St} {S : Int → Prop} (h : Lrn W q0 s S q w) (hs : ∀ k, s.own k → k < W.heap.size) (sep : Sep q0 s) {g i : Nat} (hg : q.sl.ownBlock = some g) (hi : i < q.can.length) {x : Bool} (hx : x = true → CanD s.nodes S i) :
    Lrn W q0 s S { q with can := q.can.set i x } (w.setCell ⟨g, i, none⟩ (.bool x)) := by
  have hc : Chg (fun k => k = g) w (w.setCell ⟨g, i, none⟩ (.bool x)) := (Chg.refl (fun k => k = g) w).setCell (p := ⟨g, i, none⟩) (.inl rfl) _
  have hg2 : q0.own g ∨ W.heap.size ≤ g := h.own (.inr (.inr hg))
  refine ⟨⟨?_, ?_, ?_⟩, h.store_keep hs sep hc (fun k e => e ▸ hg2), h.hp, h.hm, h.hsp, h.rown, ?_, h.ck, ?_⟩
  · rw [heap_setCell_ne (show q.p ≠ g from fun e => h.mind.row_ne_p hg e.symm)]; exact h.mind.obj
  · exact h.mind.map.keep (heap_setCell_ne (show q.m ≠ g from fun e => h.mind.row_ne_m hg e.symm))
  · exact row_bool_set h.mind.row hi hg x
  · exact ⟨h.chg.os, h.chg.tape, h.chg.output, by simpa using h.chg.size, fun k hk hn => by
      rw [heap_setCell_ne (show k ≠ g by rintro rfl; rcases hg2 with h1 | h1; exact hn h1; omega)]; exact h.chg.block k hk hn⟩
  · intro j hj
    rw [List.getD_eq_getElem?_getD, List.getElem?_set] at hj
    by_cases e : i = j
    · subst e
      rw [if_pos rfl, if_pos hi] at hj
      exact hx hj
    · rw [if_neg e, ← List.getD_eq_getElem?_getD] at hj
      exact h.cc j hj

end Go.Proofs.Ytmdfhaihbaiegaa
