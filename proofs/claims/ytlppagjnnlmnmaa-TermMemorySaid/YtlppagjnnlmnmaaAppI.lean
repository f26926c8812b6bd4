/- append of a slice of integers onto one that the call owns; a list, made again. -/
import Derived.Test.YtlppagjnnlmnmaaAppend
import Derived.Test.YtlppagjnnlmnmaaInts
import Derived.Test.YtlppagjnnlmnmaaPure2
set_option linter.unusedVariables false
set_option linter.unusedSimpArgs false
namespace Go.Proofs.Ytlppagjnnlmnmaa
open Go.RowKit

theorem infoI : (Try.prog.info? 3).map (fun i => (i.zero, i.size, i.bytes)) = some (some (.int .i64 0), 1, 8) := by kernel_rfl

theorem wpList_append_ints (w : World) {ops : Array Oper} {rest : List Oper} {o : Oper} {a : Act} {Q : Exit → Act → World → Prop} (hgd : o.guard = none) (s x : Operand)
    (ho : o.op = .call { callee := .builtin .append, args := #[s, x], argTypes := #[35, 35] })
    (base : Nat) (v : Value) (n : Nat) (xs : List Int) (hs : a.eval s = v) (hown : w.ownsRow base 3 1 v n (xs.map (Value.int .i64)))
    (sa : Option Addr) (c : Nat) (news : List Int) (hx : a.eval x = .slice sa news.length c) (hr : ReadsI w sa news) (h63 : n + news.length ≤ 1000000000) (hbase : base ≤ w.heap.size)
    (h : ∀ ao cap w', w'.ownsRow base 3 1 (.slice ao (n + news.length) cap) (n + news.length) ((xs ++ news).map (Value.int .i64)) → w.grownBy w' v.ownBlock → ((Value.slice ao (n + news.length) cap).ownBlock = v.ownBlock ∨ (Value.slice ao (n + news.length) cap).ownBlock = some w.heap.size) → (∀ a, ao = some a → ∃ g, a = ⟨g, 0, none⟩ ∧ g < w'.heap.size ∧ base ≤ g) → wpList Try.prog ops Q rest (a.put o.dst (.slice ao (n + news.length) cap)) w') :
    wpList Try.prog ops Q (o :: rest) a w := by
  obtain ⟨i0, hi, hz0, hz1, hz2⟩ := info_parts infoI
  refine wpList_append_any w hgd s x 35 ho base 3 i0 _ 1 8 Try.underlying35 hi hz0 hz1 hz2 rfl (by decide) v n (xs.map (Value.int .i64)) hs hown sa news.length c (news.map (Value.int .i64)) hx (by simp) ?_ (by simp [Value.oneCell']) (by unfold maxLen; omega) (by omega) hbase ?_
  · rcases hr with rfl | ⟨b, off, rfl, hb, hc⟩
    · exact .inr rfl
    · refine .inl ⟨_, rfl, fun j u hj => ?_⟩
      rw [List.getElem?_map] at hj
      rcases Nat.lt_or_ge j news.length with h1 | h1
      · rw [List.getElem?_eq_getElem h1] at hj
        simp at hj
        subst hj
        rw [show (⟨b, off, none⟩ : Addr).add j = ⟨b, off + j, none⟩ by unfold Addr.add; split <;> simp_all]
        exact hc j h1
      · rw [List.getElem?_eq_none h1] at hj; simp at hj
  · intro ao cap w' h1 h2 h3 h4
    rw [← List.map_append] at h1
    exact h ao cap w' h1 h2 h3 h4

/-- A row of integers reads as what it is. -/
theorem reads_row {w : World} {base : Nat} {ao : Option Addr} {n c : Nat} {D : List Int} (h : w.ownsRow base 3 1 (.slice ao n c) n (D.map (Value.int .i64))) : ReadsI w ao D ∧ n = D.length := by
  have hl : D.length = n := by have := h.1; simpa using this
  refine ⟨?_, hl.symm⟩
  rcases h.2 with ⟨hv, h0⟩ | ⟨g, cap, cur, hv, hb, hg, _, _, hcs, htk⟩
  · exact .inl (List.length_eq_zero_iff.1 (by omega))
  · simp only [Value.slice.injEq] at hv
    obtain ⟨rfl, _, rfl⟩ := hv
    refine .inr ⟨g, 0, rfl, (Array.getElem?_eq_some_iff.1 hg).1, fun i hi => ?_⟩
    rw [cell_of hg, ← Array.getElem?_toList]
    have := congrArg (fun l => l[i]?) htk
    simp only [List.getElem?_take, List.getElem?_map, List.getElem?_eq_getElem hi, Option.map_some] at this
    rw [if_pos (by omega)] at this
    simpa using this

theorem mk_again {L : List Nd} (hn : L.Nodup) {t : Int} {n : Nd} (hk : knownB L.length t = true) (hg : getN L t = n) : mkT L n = t ∧ mkL L n = L := by
  have hr : 1 ≤ t ∧ t ≤ L.length := by simpa [knownB] using hk
  obtain ⟨i, rfl⟩ : ∃ i : Nat, t = (i : Int) + 1 := ⟨(t - 1).toNat, by omega⟩
  have hi : i < L.length := by omega
  have hgi : L[i] = n := by rw [← hg]; unfold getN; rw [if_pos hk, nodeAt_get L hi]
  have h1 := idx_of_get hn hi
  rw [hgi] at h1
  exact ⟨by simp [mkT, h1], by simp [mkL, h1]⟩

theorem mkL_nodup {L : List Nd} (n : Nd) (h : L.Nodup) : (mkL L n).Nodup := by
  rcases mk_cases L n with ⟨_, _, _, _, _, e⟩ | ⟨_, _, _, _, e⟩ | ⟨_, _, _, _, _, e⟩ | ⟨hm, _, _, _, _, e⟩ <;> rw [e]
  · exact h
  · exact h
  · exact h
  · exact nodup_snoc h (idx_none.2 hm)

theorem listM_nodup {L : List Nd} (h : L.Nodup) : ∀ xs, (listM L xs).2.Nodup
  | [] => mkL_nodup _ h
  | x :: xs => mkL_nodup _ (listM_nodup h xs)
theorem listM_wf {L : List Nd} (h : WF L) : ∀ xs, WF (listM L xs).2
  | [] => mkL_wf _ h
  | x :: xs => mkL_wf _ (listM_wf h xs)

/-- A list that was made is made again as what it is. -/
theorem listM_again {L L' : List Nd} (hn : L'.Nodup) : ∀ {xs : List Int}, (∀ x ∈ xs, knownB L.length x = true) → L.length + xs.length + 1 ≤ 262144 → (listM L xs).2 <+: L' → listM L' xs = ((listM L xs).1, L')
  | [], _, hL, hp => by
    have h := mk_new (L := L) ⟨2, ByteArray.empty, 0, 0⟩ (by rfl) (by simp at hL; omega)
    have h2 := getN_keep hp ⟨h.1, h.2.1⟩
    have h3 := mk_again hn h2.1 h2.2
    exact Prod.ext h3.1 h3.2
  | x :: xs, hx, hL, hp => by
    have hxs : ∀ y ∈ xs, knownB L.length y = true := fun y hy => hx y (List.mem_cons_of_mem _ hy)
    have h1 := (listM_items hxs (by simp at hL; omega)).1
    have hp0 := listM_prefix L xs
    have hg := listM_grow L xs
    have hr := right_two (q := 3) (.inl rfl) (known_mono hp0.length_le (hx x (List.mem_cons_self ..))) h1
    have h := mk_new _ hr (by simp at hL; omega)
    have hm := mkL_prefix (listM L xs).2 ⟨3, ByteArray.empty, x, (listM L xs).1⟩
    have h2 := getN_keep hp ⟨h.1, h.2.1⟩
    have h3 := mk_again hn h2.1 h2.2
    have ih := listM_again hn hxs (by simp at hL; omega) (hm.trans hp)
    show (mkT (listM L' xs).2 ⟨3, ByteArray.empty, x, (listM L' xs).1⟩, mkL (listM L' xs).2 ⟨3, ByteArray.empty, x, (listM L' xs).1⟩) = _
    rw [ih]
    exact Prod.ext h3.1 h3.2

/-- Fuel beyond the number makes no odds. -/
theorem itemsF_big {L : List Nd} (hw : WF L) : ∀ (n n' : Nat) (t : Int), 1 ≤ n → 1 ≤ n' → t < n → t < n' → itemsF L n t = itemsF L n' t
  | 0, _, _, h, _, _, _ => by omega
  | _, 0, _, _, h, _, _ => by omega
  | n + 1, n' + 1, t, _, _, h1, h2 => by
    unfold itemsF
    by_cases c1 : knownB L.length t = true ∧ getN L t = ⟨2, ByteArray.empty, 0, 0⟩
    · rw [if_pos c1, if_pos c1]
    · rw [if_neg c1, if_neg c1]
      by_cases c2 : knownB L.length t = true ∧ (getN L t).kind = 3
      · rw [if_pos c2, if_pos c2]
        obtain ⟨i, hi, rfl, e, hr⟩ := getN_right hw c2.1
        have hlow := wf_low hw hi
        rw [← e] at hlow
        have hp := hlow.parts (by omega) (by omega)
        rw [itemsF_big hw n n' _ (by omega) (by omega) (by omega) (by omega)]
      · rw [if_neg c2, if_neg c2]

theorem list_items {L L' : List Nd} (hw : WF L') {xs : List Int} (hx : ∀ x ∈ xs, knownB L.length x = true) (hL : L.length + xs.length + 1 ≤ 262144) (hp : (listM L xs).2 <+: L') : itemsOf L' (listM L xs).1 = some xs := by
  obtain ⟨h1, h2⟩ := listM_items hx hL
  have h3 := itemsF_mono hp h1 (h2 L'.length)
  have h4 := knownB_iff.1 (known_mono hp.length_le h1)
  unfold itemsOf
  rw [itemsF_big hw (L'.length + 1) (xs.length + 1 + L'.length) _ (by omega) (by omega) (by omega) (by omega)]
  exact h3

end Go.Proofs.Ytlppagjnnlmnmaa
