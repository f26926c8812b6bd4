/- The calls that make lists and read them. -/
import Derived.Test.YtlppagjnnlmnmaaAnchor1
import Derived.Test.YtlppagjnnlmnmaaPure2
set_option linter.unusedVariables false
set_option linter.unusedSimpArgs false
namespace Go.Proofs.Ytlppagjnnlmnmaa
open Go.RowKit

theorem Own.known {X : Nat → Prop} {w : World} {p : Nat} {l : List Nd} {d : Int} (h : Own X w p l d) (t : Int) : Calls Try.prog 29 #[.pointer (some ⟨p, 0, none⟩), .int .i64 t] w fun e w' => e = .returned (.bool (knownB l.length t)) ∧ w' = w := by
  obtain ⟨⟨m, sl, h1, h2⟩, h3⟩ := h
  exact known_calls h1 t

/-- Integers that lie in a block of X. -/
def LieIn (X : Nat → Prop) (w : World) (a : Option Addr) (xs : List Int) : Prop :=
  xs = [] ∨ ∃ b off, a = some ⟨b, off, none⟩ ∧ X b ∧ b < w.heap.size ∧ ∀ i (h : i < xs.length), w.cell? ⟨b, off + i, none⟩ = some (.int .i64 xs[i])

structure List2 (X : Nat → Prop) (W w : World) (p : Nat) (l : List Nd) (d : Int) (xs : List Int) (k : Nat) (t : Int) : Prop where
  le : k ≤ xs.length
  t : t = (listM l (xs.drop k)).1
  own : Own X w p (listM l (xs.drop k)).2 d
  kept : Kept X W w

def ListRel1 (xs : List Int) (L : Nat) (i : Value) : Prop := ∃ k : Nat, k ≤ xs.length ∧ i = .int .i64 k ∧ ∀ j (h : j < xs.length), j < k → knownB L xs[j] = true
def ListRel2 (X : Nat → Prop) (W : World) (p : Nat) (l : List Nd) (d : Int) (xs : List Int) (tv i : Value) (w : World) : Prop :=
  ∃ (k : Nat) (t : Int), tv = .int .i64 t ∧ List2 X W w p l d xs k t ∧ (k = 0 ∧ i = .int .i64 (-1) ∨ ∃ j : Nat, k = j + 1 ∧ i = .int .i64 j)

theorem drop_cons {xs : List Int} {k : Nat} (h : k < xs.length) : xs.drop k = xs[k] :: xs.drop (k + 1) := List.drop_eq_getElem_cons h

theorem allKnown_iff {L : List Nd} {xs : List Int} : allKnown L xs = true ↔ ∀ j (h : j < xs.length), knownB L.length xs[j] = true := by
  unfold allKnown
  rw [List.all_eq_true]
  exact ⟨fun h j hj => h _ (List.getElem_mem hj), fun h x hx => by obtain ⟨j, hj, rfl⟩ := List.getElem_of_mem hx; exact h j hj⟩

theorem list_no {L : List Nd} {xs : List Int} (h : ¬ ∀ j (h : j < xs.length), knownB L.length xs[j] = true) : listT L xs = 0 ∧ listL L xs = L := by
  have : ¬ allKnown L xs = true := fun q => h (allKnown_iff.1 q)
  exact ⟨if_neg this, if_neg this⟩
theorem list_yes {L : List Nd} {xs : List Int} (h : ∀ j (h : j < xs.length), knownB L.length xs[j] = true) : listT L xs = (listM L xs).1 ∧ listL L xs = (listM L xs).2 := by
  have : allKnown L xs = true := allKnown_iff.2 h
  exact ⟨if_pos this, if_pos this⟩

def intAt (v : Value) : Int := match v with | .int _ n => n | _ => 0

set_option maxHeartbeats 2000000 in
theorem Own.list {X : Nat → Prop} {w : World} {p : Nat} {l : List Nd} {d : Int} (h : Own X w p l d) {a : Option Addr} {xs : List Int} (hl : LieIn X w a xs) (hlen : xs.length ≤ maxLen) (cap : Nat) :
    Calls Try.prog 24 #[.pointer (some ⟨p, 0, none⟩), .slice a xs.length cap] w fun e w' => e = .returned (.int .i64 (listT l xs)) ∧ Own X w' p (listL l xs) d ∧ Kept X w w' := by
  have hll : (xs.length : Int) ≤ 9223372036854775807 := by unfold maxLen at hlen; omega
  clear hlen
  have H := Lib.hid h
  have HL := Lib.hid hl
  clear h hl
  go_enter Try.func24, Try.ntmps24
  go_wp2
  go_loop [11] (fun i => ListRel1 xs l.length i) (fun i => xs.length - (intOf i).toNat)
  case atStart => exact ⟨0, Nat.zero_le _, rfl, fun j h1 h2 => absurd h2 (Nat.not_lt_zero _)⟩
  case round =>
    obtain ⟨k, hk, rfl, hall⟩ := hrel
    have HA := Lib.hid hall
    clear hall
    by_cases hlt : k < xs.length
    · rcases HL.out with h0 | ⟨b, off, rfl, hX, hb, hc⟩
      · rw [h0] at hlt; simp at hlt
      have g0 := hc k hlt
      have hkn := (H.out).known xs[k]
      have hnext : knownB l.length xs[k] = true → ∀ j (h : j < xs.length), j < k + 1 → knownB l.length xs[j] = true := fun q j h1 h2 => by
        rcases Nat.lt_or_ge j k with h3 | h3
        · exact HA.out j h1 h3
        · have : j = k := by omega
          subst this; exact q
      have hno : knownB l.length xs[k] = false → listT l xs = 0 ∧ listL l xs = l := fun q => list_no fun h => by rw [h k hlt] at q; cases q
      have HN := Lib.hid hnext
      have HO := Lib.hid hno
      clear hc hnext hno
      generalize xs[k] = x at *
      have HK := Lib.hid hkn
      clear hkn
      cases hkb : knownB l.length x with
      | false =>
        have HE := Lib.hid (HO.out hkb)
        go_wp2_with (go_at_call 29; refine (HK.out).mono ?_; rintro e w1 ⟨rfl, rfl⟩; simp only [hkb])
        go_ret
        exact ⟨by rw [HE.out.1]; rfl, by rw [HE.out.2]; exact H.out, Kept.refl _ _⟩
      | true =>
        go_wp2_with (go_at_call 29; refine (HK.out).mono ?_; rintro e w1 ⟨rfl, rfl⟩; simp only [hkb])
        go_round
        case rel => exact ⟨k + 1, by omega, by go_num, HN.out hkb⟩
        case measure => simp [intOf]; omega
    · have hall : ∀ j (h : j < xs.length), knownB l.length xs[j] = true := fun j h => HA.out j h (by omega)
      obtain ⟨e1, e2⟩ := list_yes hall
      have HE := Lib.hid (And.intro e1 e2)
      clear e1 e2 HA hall hk
      have htx : Calls Try.prog 16 #[.pointer (some ⟨p, 0, none⟩), .string ByteArray.empty] w fun e w' => e = .returned (.int .i64 (listM l []).1) ∧ Own X w' p (listM l []).2 d ∧ Kept X w w' := (H.out).text ByteArray.empty
      have HT := Lib.hid htx
      clear htx
      go_wp2_with (go_at_call 16; refine (HT.out).mono ?_; rintro e w1 ⟨rfl, O1, K1⟩)
      have hst : ListRel2 X w p l d xs (.int .i64 (listM l []).1) (.int .i64 ((xs.length : Int) - 1)) w1 := by
        refine ⟨xs.length, _, rfl, ⟨Nat.le_refl _, by rw [List.drop_length], by rw [List.drop_length]; exact O1, K1⟩, ?_⟩
        cases hz : xs.length with
        | zero => exact .inl ⟨rfl, rfl⟩
        | succ j => exact .inr ⟨j, rfl, by simp⟩
      have HST := Lib.hid hst
      clear hst O1 K1
      generalize (listM l []).1 = t0 at *
      clear HT hlt
      go_loopw [7, 8] (fun tv i wr => ListRel2 X w p l d xs tv i wr) (fun tv i _ => (intAt i + 1).toNat)
      case atStart => exact HST.out
      case round =>
        clear HST
        obtain ⟨k, t, rfl, hr2, hi⟩ := hrel
        have HR := Lib.hid hr2
        clear hr2
        rcases hi with ⟨rfl, rfl⟩ | ⟨j, rfl, rfl⟩
        · go_wp2
          go_ret
          have ht := HR.out.t
          have ho := HR.out.own
          rw [List.drop_zero] at ht ho
          exact ⟨by rw [HE.out.1, ht]; rfl, by rw [HE.out.2]; exact ho, HR.out.kept⟩
        · have hj : j < xs.length := HR.out.le
          rcases HL.out with h0 | ⟨b, off, rfl, hX, hb, hc⟩
          · rw [h0] at hj; simp at hj
          have g0 := (HR.out.kept.cells.1 b (off + j) hX).trans (hc j hj)
          have hb1 : b < wr.heap.size := HR.out.own.lt b hX
          have hpr := (HR.out.own).pair xs[j] t
          have hnx : mkT (listM l (xs.drop (j + 1))).2 ⟨3, ByteArray.empty, xs[j], t⟩ = (listM l (xs.drop j)).1 ∧ mkL (listM l (xs.drop (j + 1))).2 ⟨3, ByteArray.empty, xs[j], t⟩ = (listM l (xs.drop j)).2 := by
            rw [HR.out.t, drop_cons hj]; exact ⟨rfl, rfl⟩
          rw [hnx.1, hnx.2] at hpr
          have HP := Lib.hid hpr
          have hjl : (j : Int) < (xs.length : Int) := by omega
          clear hpr hnx hc
          generalize xs[j] = x at *
          go_wp2_with (go_at_call 27; refine (HP.out).mono ?_; rintro e w2 ⟨rfl, O2, K2⟩)
          refine ⟨⟨j, _, rfl, ⟨by omega, rfl, O2, HR.out.kept.trans K2 fun _ h => h⟩, ?_⟩, ?_⟩
          · cases j with
            | zero => exact .inl ⟨rfl, rfl⟩
            | succ q => exact .inr ⟨q, rfl, by first | rfl | (go_num; done) | (simp; done) | (congr 1; omega)⟩
          · first | (simp [intAt]; done) | (simp [intAt]; omega)

theorem infoInt : (Try.prog.info? 3).map (fun i => (i.zero, i.size, i.bytes)) = some (some (.int .i64 0), 1, 8) := by kernel_rfl

theorem row_int {w : World} {base g c n : Nat} {D : List Int} (h : w.ownsRow base 3 1 (.slice (some ⟨g, 0, none⟩) n c) D.length (D.map (Value.int .i64))) {k : Nat} (hk : k < D.length) :
    w.cell? ⟨g, k, none⟩ = some (.int .i64 D[k]) := by
  obtain ⟨cap, cur, _, q1, _, _, _, q2⟩ := own_row h (b := g) rfl
  rw [cell_of q1, ← Array.getElem?_toList]
  have := congrArg (fun l => l[k]?) q2
  simp only [List.getElem?_take, List.getElem?_map, List.getElem?_eq_getElem hk, Option.map_some] at this
  rw [if_pos (by omega)] at this
  exact this

theorem grown_chg' {w w' : World} {row : Option Nat} (h : w.grownBy w' row) : Chg (fun k => row = some k) w w' :=
  ⟨h.os, h.tape, h.output, h.size, fun k hk hn => h.block k hk (fun e => hn e.symm)⟩

/-- What Items reads so far: D, and t is still to be read, with fuel n. -/
structure Items1 (W w : World) (L : List Nd) (t0 : Int) (v : Value) (t : Int) (D : List Int) (n : Nat) : Prop where
  chg : Chg none_ W w
  row : w.ownsRow W.heap.size 3 1 v D.length (D.map (Value.int .i64))
  res : itemsOf L t0 = (itemsF L n t).map (D ++ ·)
  fuel : knownB L.length t = true → t < n
  pos : 1 ≤ n
  le : D.length + n ≤ L.length + 1
def ItemsRel (W : World) (L : List Nd) (t0 : Int) (tv v : Value) (w : World) : Prop := ∃ (t : Int) (D : List Int) (n : Nat), tv = .int .i64 t ∧ Items1 W w L t0 v t D n

/-- What Items answers. -/
structure ItemsRes (W w : World) (L : List Nd) (t : Int) (e : Ending) : Prop where
  chg : Chg none_ W w
  out : (itemsOf L t = none ∧ e = .returned (.tuple #[.slice none 0 0, .bool false])) ∨ ∃ v D, itemsOf L t = some D ∧ e = .returned (.tuple #[v, .bool true]) ∧ w.ownsRow W.heap.size 3 1 v D.length (D.map (Value.int .i64))

theorem Items1.grow {W w w5 w6 : World} {L : List Nd} {t0 : Int} {v : Value} {t : Int} {D : List Int} {n m c g : Nat} {o1 o2 : Obj} {q : Nd} (hw : WF L) (h : Items1 W w L t0 v t D n) (hk : knownB L.length t = true) (hq : getN L t = q) (h3 : q.kind = 3) (c5 : Chg none_ w w5)
    (hown : w6.ownsRow W.heap.size 3 1 (.slice (some ⟨g, 0, none⟩) m c) (D.length + 1) (D.map (Value.int .i64) ++ [.int .i64 q.a])) (hg : ((w5.alloc o1).alloc o2).grownBy w6 v.ownBlock) :
    Items1 W w6 L t0 (.slice (some ⟨g, 0, none⟩) m c) q.b (D ++ [q.a]) (n - 1) := by
  have hc := grown_chg' hg
  obtain ⟨i, hi, rfl, e, hr⟩ := getN_right hw hk
  have hlow := wf_low hw hi
  rw [← e, hq] at hlow
  have hp := hlow.parts (by omega) (by omega)
  have hf := h.fuel hk
  have hn : 2 ≤ n := by omega
  obtain ⟨n', rfl⟩ : ∃ n', n = n' + 1 := ⟨n - 1, by omega⟩
  refine ⟨?_, by simpa using hown, ?_, fun _ => by omega, by omega, by have := h.le; simp; omega⟩
  · refine (((h.chg.trans c5 (fun _ _ h => h)).alloc o1).alloc o2).trans hc (fun b hb e => ?_)
    have := (h.row.lt b e).1
    omega
  · rw [h.res]
    conv => lhs; unfold itemsF
    rw [if_neg (by rw [hq]; intro c; rw [c.2] at h3; simp at h3), if_pos ⟨hk, by rw [hq]; exact h3⟩, hq]
    simp only [Nat.add_sub_cancel, Option.map_map]
    congr 1
    funext l
    simp

theorem Items1.end_no {W w : World} {L : List Nd} {t0 : Int} {v : Value} {t : Int} {D : List Int} {n : Nat} (h : Items1 W w L t0 v t D n) (hq : knownB L.length t = false ∨ (getN L t ≠ ⟨2, ByteArray.empty, 0, 0⟩ ∧ (getN L t).kind ≠ 3)) : itemsOf L t0 = none := by
  rw [h.res]
  obtain ⟨n', rfl⟩ : ∃ n', n = n' + 1 := ⟨n - 1, by have := h.pos; omega⟩
  unfold itemsF
  rcases hq with hq | ⟨h1, h2⟩
  · rw [if_neg (by rw [hq]; simp), if_neg (by rw [hq]; simp)]; rfl
  · rw [if_neg (fun c => h1 c.2), if_neg (fun c => h2 c.2)]; rfl
theorem Items1.end_yes {W w : World} {L : List Nd} {t0 : Int} {v : Value} {t : Int} {D : List Int} {n : Nat} (h : Items1 W w L t0 v t D n) (hk : knownB L.length t = true) (hq : getN L t = ⟨2, ByteArray.empty, 0, 0⟩) : itemsOf L t0 = some D := by
  rw [h.res]
  obtain ⟨n', rfl⟩ : ∃ n', n = n' + 1 := ⟨n - 1, by have := h.pos; omega⟩
  unfold itemsF
  rw [if_pos ⟨hk, hq⟩]
  simp

theorem empty_of_toList {b : ByteArray} (h : b.toList = []) : b = ByteArray.empty := by
  rw [ByteArray.toList_eq] at h
  rcases b with ⟨d⟩
  have : d = #[] := by simpa using h
  rw [this]; rfl

set_option maxHeartbeats 2000000 in
theorem items_calls {X : Nat → Prop} {w : World} {p : Nat} {l : List Nd} {d : Int} (h : Own X w p l d) (t : Int) :
    Calls Try.prog 25 #[.pointer (some ⟨p, 0, none⟩), .int .i64 t] w fun e w' => ItemsRes w w' l t e := by
  obtain ⟨⟨m, sl, hS, _⟩, _⟩ := h
  have H := Lib.hid hS
  clear hS
  have hL : l.length ≤ 262144 := H.out.len
  go_enter Try.func25, Try.ntmps25
  go_wp2
  go_loopw [1, 6] (fun tv v wr => ItemsRel w l t tv v wr) (fun tv _ _ => (intOf tv).toNat)
  case atStart => exact ⟨t, [], l.length + 1, rfl, ⟨Chg.refl _ _, World.ownsRow_nil _ _ _ _, by simp [itemsOf], fun hk => by have := knownB_iff.1 hk; omega, by omega, by simp⟩⟩
  case round =>
    obtain ⟨t', D, n, rfl, hr⟩ := hrel
    obtain ⟨av, cv, rfl⟩ : ∃ av cv, u6 = .slice av D.length cv := by
      rcases hr.row.2 with ⟨hv, hz⟩ | ⟨g, cap2, cur, hv, _⟩
      · exact ⟨none, 0, by rw [hv, hz]⟩
      · exact ⟨_, _, hv⟩
    have hget := get_calls (H.out.chg hr.chg (fun _ _ h => h)) t'
    have HG := Lib.hid hget
    have HR := Lib.hid hr
    clear hget hr
    generalize hq : getN l t' = q at *
    generalize hk : knownB l.length t' = b at *
    have HQ := Lib.hid hq
    have HK := Lib.hid hk
    clear hq hk
    obtain ⟨q0, q1, q2, q3⟩ := q
    cases b with
    | false =>
      go_wp2_with (go_at_call 14; refine (HG.out).mono ?_; rintro e w5 ⟨rfl, c5⟩)
      go_ret2
      exact ⟨(HR.out.chg.trans c5 (fun _ _ h => h)).alloc _, .inl ⟨HR.out.end_no (.inl HK.out), rfl⟩⟩
    | true =>
      by_cases h2 : q0 = 2
      · subst h2
        by_cases hl : q1.toList = []
        · by_cases ha : q2 = 0
          · subst ha
            by_cases hb : q3 = 0
            · subst hb
              have he := empty_of_toList hl
              subst he
              clear hl
              go_wp2_with (go_at_call 14; refine (HG.out).mono ?_; rintro e w5 ⟨rfl, c5⟩)
              go_ret2
              exact ⟨(HR.out.chg.trans c5 (fun _ _ h => h)).alloc _, .inr ⟨_, D, HR.out.end_yes HK.out HQ.out, rfl, row_keep HR.out.row fun b hb => (heap_alloc_lt (Nat.lt_of_lt_of_le (own_block_lt HR.out.row hb) c5.size)).trans (c5.block b (own_block_lt HR.out.row hb) (fun h => h))⟩⟩
            · have HX := Lib.hid hb
              go_wp2_with (go_at_call 14; refine (HG.out).mono ?_; rintro e w5 ⟨rfl, c5⟩)
              go_ret2
              exact ⟨(HR.out.chg.trans c5 (fun _ _ h => h)).alloc _, .inl ⟨HR.out.end_no (.inr ⟨by rw [HQ.out]; intro h; exact HX.out (by injection h), by rw [HQ.out]; show (2 : Int) ≠ 3; decide⟩), rfl⟩⟩
          · have HX := Lib.hid ha
            go_wp2_with (go_at_call 14; refine (HG.out).mono ?_; rintro e w5 ⟨rfl, c5⟩)
            go_ret2
            exact ⟨(HR.out.chg.trans c5 (fun _ _ h => h)).alloc _, .inl ⟨HR.out.end_no (.inr ⟨by rw [HQ.out]; intro h; exact HX.out (by injection h), by rw [HQ.out]; show (2 : Int) ≠ 3; decide⟩), rfl⟩⟩
        · have HX := Lib.hid hl
          go_wp2_with (go_at_call 14; refine (HG.out).mono ?_; rintro e w5 ⟨rfl, c5⟩)
          go_ret2
          exact ⟨(HR.out.chg.trans c5 (fun _ _ h => h)).alloc _, .inl ⟨HR.out.end_no (.inr ⟨by rw [HQ.out]; intro h; exact HX.out (by have h7 : q1 = ByteArray.empty := (by injection h); rw [h7]; rw [ByteArray.toList_eq]; rfl), by rw [HQ.out]; show (2 : Int) ≠ 3; decide⟩), rfl⟩⟩
      · by_cases h3 : q0 = 3
        · subst h3
          clear h2
          obtain ⟨i0, hi, hz0, hz1, hz2⟩ := info_parts infoInt
          have HI := Lib.hid (And.intro hi (And.intro hz0 (And.intro hz1 hz2)))
          clear hi hz0 hz1 hz2
          go_wp2_with (first
            | (go_at_call 14; refine (HG.out).mono ?_; rintro e w5 ⟨rfl, c5⟩)
            | (at_builtin; refine wpList_append_lies _ rfl _ _ _ rfl w.heap.size 3 i0 _ 1 8 Try.underlying35 HI.out.1 HI.out.2.1 HI.out.2.2.1 HI.out.2.2.2 rfl (by decide) (.slice av D.length cv) D.length (D.map (Value.int .i64)) rfl ?c1 ⟨w5.heap.size + 1, 0, none⟩ 1 1 [.int .i64 q2] rfl rfl ?c2 (by simp [Value.oneCell']) (by decide) ?c3 ?c4 ?c5 _ rfl ?_))
          case c1 =>
            have h1 : w5.ownsRow w.heap.size 3 1 (.slice av D.length cv) D.length (D.map (Value.int .i64)) := row_keep HR.out.row fun b hb => c5.block b (own_block_lt HR.out.row hb) (fun h => h)
            have h3 : (w5.alloc (.cells #[.int .i64 3, .string q1, .int .i64 q2, .int .i64 q3] 27)).ownsRow w.heap.size 3 1 (.slice av D.length cv) D.length (D.map (Value.int .i64)) := h1.alloc _
            exact h3.alloc _
          case c2 =>
            intro j v hj
            cases j with
            | zero =>
              simp at hj; subst hj
              rw [show (⟨w5.heap.size + 1, 0, none⟩ : Addr).add 0 = ⟨w5.heap.size + 1, 0, none⟩ from rfl]
              rw [cell_of (by have := heap_alloc_at (w := w5.alloc (.cells #[.int .i64 3, .string q1, .int .i64 q2, .int .i64 q3] 27)) (o := .cells #[.int .i64 q2] 3); simpa using this)]
              rfl
            | succ j => simp at hj
          case c3 => have := HR.out.le; unfold maxLen; omega
          case c4 => have := HR.out.le; omega
          case c5 => have := HR.out.chg.size; have := c5.size; simp; omega
          intro g cap3 w6 hown6 hg6 hat6 hlt6
          have gq : w6.cell? ⟨w5.heap.size, 3, none⟩ = some (.int .i64 q3) := by
            have hlt7 : w5.heap.size < ((w5.alloc (.cells #[.int .i64 3, .string q1, .int .i64 q2, .int .i64 q3] 27)).alloc (.cells #[.int .i64 q2] 3)).heap.size := by simp; omega
            rw [cell_eq ((grown_chg' hg6).block w5.heap.size hlt7 (fun e => by have := own_block_lt HR.out.row e; have := c5.size; omega)), cell_eq (heap_alloc_lt (by simp)), cell_of heap_alloc_at]
            rfl
          go_wp2
          refine ⟨⟨q3, D ++ [q2], n - 1, rfl, HR.out.grow H.out.wf HK.out HQ.out rfl c5 hown6 hg6⟩, ?_⟩
          have h5 := (HR.out.grow H.out.wf HK.out HQ.out rfl c5 hown6 hg6).fuel
          obtain ⟨i, hi, e, e2, hr⟩ := getN_right H.out.wf HK.out
          have hlow := wf_low H.out.wf hi
          rw [← e2, HQ.out] at hlow
          have hp := hlow.parts (by show (3 : Int) ≠ 1; decide) (by show (3 : Int) ≠ 2; decide)
          simp only [intOf]
          dsimp only at hp
          omega
        · have HX := Lib.hid h2
          have HY := Lib.hid h3
          go_wp2_with (go_at_call 14; refine (HG.out).mono ?_; rintro e w5 ⟨rfl, c5⟩)
          go_ret2
          exact ⟨(HR.out.chg.trans c5 (fun _ _ h => h)).alloc _, .inl ⟨HR.out.end_no (.inr ⟨by rw [HQ.out]; intro h; exact HX.out (by injection h), by rw [HQ.out]; exact HY.out⟩), rfl⟩⟩

end Go.Proofs.Ytlppagjnnlmnmaa
