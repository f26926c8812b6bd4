/- 'TermDraws' returns true. -/
import Derived.Test.YtlppagjnnlmnmaaAnchor1
import Derived.Test.YtlppagjnnlmnmaaOpen1
set_option linter.unusedVariables false
set_option linter.unusedSimpArgs false
namespace Go.Proofs.Ytlppagjnnlmnmaa
open Go.RowKit

theorem known_mono {a b : Nat} (h : a ≤ b) {t : Int} (hk : knownB a t = true) : knownB b t = true := by
  rw [knownB_iff] at *; omega

theorem getN_prefix {L L' : List Nd} (h : L <+: L') {t : Int} (hk : knownB L.length t = true) : getN L' t = getN L t := by
  obtain ⟨r, rfl⟩ := h
  have hk' := known_mono (b := (L ++ r).length) (by simp) hk
  unfold getN
  rw [if_pos hk, if_pos hk']
  rw [knownB_iff] at hk
  unfold nodeAt
  rw [List.getD_eq_getElem?_getD, List.getD_eq_getElem?_getD, List.getElem?_append_left (by omega)]

theorem getN_new {L : List Nd} (n : Nd) (h : mkT L n ≠ 0) : knownB (mkL L n).length (mkT L n) = true ∧ getN (mkL L n) (mkT L n) = n := by
  rcases mk_cases L n with ⟨k, hk, e, h1, _, h3⟩ | ⟨_, _, h1, _, h3⟩ | ⟨_, _, _, h1, _, h3⟩ | ⟨_, _, _, h1, _, h3⟩
  · rw [h1, h3]
    have hb : knownB L.length ((k : Int) + 1) = true := by rw [knownB_iff]; omega
    exact ⟨hb, by unfold getN; rw [if_pos hb, nodeAt_get L hk, e]⟩
  · exact absurd h1 h
  · exact absurd h1 h
  · rw [h1, h3]
    have hlt : L.length < (L ++ [n]).length := by simp
    have hb : knownB (L ++ [n]).length ((L.length : Int) + 1) = true := by rw [knownB_iff]; simp; omega
    exact ⟨hb, by unfold getN; rw [if_pos hb, nodeAt_get _ hlt]; simp⟩

theorem fresh_ok {L : List Nd} {k : Nat} (hL : L.length < 262144) (hk : k ≤ 1000000) : mkT L (freshN k) ≠ 0 ∧ freshD L k = (k : Int) + 1 ∧ (mkL L (freshN k)).length ≤ L.length + 1 := by
  have hT : mkT L (freshN k) ≠ 0 ∧ (mkL L (freshN k)).length ≤ L.length + 1 := by
    rcases mk_cases L (freshN k) with ⟨j, hj, e, h1, _, h3⟩ | ⟨_, hr, _⟩ | ⟨_, _, h, _⟩ | ⟨_, _, _, h1, _, h3⟩
    · rw [h1, h3]; omega
    · exfalso
      unfold rightB at hr
      rw [if_pos (show (freshN k).kind = 1 from rfl)] at hr
      have : (ByteArray.empty).toList = [] := by rw [ByteArray.toList_eq]; rfl
      have e : (decide (1 ≤ (freshN (k : Int)).a) && decide ((freshN (k : Int)).a ≤ 1099511627776) && (decide ((freshN (k : Int)).label.toList = []) && decide ((freshN (k : Int)).b = 0))) = true := by
        rw [show (freshN (k : Int)).a = (k : Int) + 1 from rfl, show (freshN (k : Int)).b = 0 from rfl, show (freshN (k : Int)).label = ByteArray.empty from rfl, this]
        simp; omega
      rw [e] at hr; cases hr
    · omega
    · rw [h1, h3]; simp; omega
  exact ⟨hT.1, by unfold freshD; rw [if_neg hT.1], hT.2⟩

def DrawRel1 (W : World) (l : List Int) (p : Nat) (i : Value) (wr : World) : Prop := ∃ (k : Nat) (L : List Nd), k ≤ l.length ∧ i = .int .i64 k ∧ Own (fun b => b < W.heap.size) wr p L 0 ∧ Kept (fun b => b < W.heap.size) W wr ∧ L.length ≤ min k 300

structure Draw2 (W : World) (p : Nat) (v : Value) (k : Nat) (wr : World) (L : List Nd) (D : List Int) : Prop where
  own : Own (fun b => b < W.heap.size ∨ v.ownBlock = some b) wr p L k
  row : wr.ownsRow W.heap.size 3 1 v k (D.map (Value.int .i64))
  kept : Kept (fun b => b < W.heap.size) W wr
  small : L.length ≤ 300 + k
  len : D.length = k
  each : ∀ j (h : j < D.length), knownB L.length D[j] = true ∧ getN L D[j] = freshN (j : Int)

theorem grown_chg' {w w' : World} {row : Option Nat} (h : w.grownBy w' row) : Chg (fun k => row = some k) w w' :=
  ⟨h.os, h.tape, h.output, h.size, fun k hk hn => h.block k hk (fun e => hn e.symm)⟩

theorem Draw2.step {W : World} {p : Nat} {v : Value} {j : Nat} {wr w4 w5 w6 : World} {L L' : List Nd} {D : List Int} {T : Int} {o1 o2 : Obj} {g c n : Nat} (h : Draw2 W p v j wr L D)
    (KB : Kept (fun b => b < W.heap.size ∨ v.ownBlock = some b) wr w4) (OC : Own (fun b => b < W.heap.size ∨ v.ownBlock = some b) w5 p L' ((j : Int) + 1)) (KC : Kept (fun b => b < W.heap.size ∨ v.ownBlock = some b) w4 w5)
    (hown : w6.ownsRow W.heap.size 3 1 (.slice (some ⟨g, 0, none⟩) n c) (j + 1) (D.map (Value.int .i64) ++ [.int .i64 T])) (hg : ((w5.alloc o1).alloc o2).grownBy w6 v.ownBlock) (hat : v.ownBlock = some g ∨ g = w5.heap.size + 1 + 1) (hlt : g < w6.heap.size)
    (f1 : L'.length ≤ L.length + 1) (f2 : knownB L'.length T = true) (f3 : getN L' T = freshN (j : Int)) (f4 : L <+: L') : Draw2 W p (.slice (some ⟨g, 0, none⟩) n c) (j + 1) w6 L' (D ++ [T]) := by
  have hc := grown_chg' hg
  have hsz := hc.size
  simp only [World.size_alloc] at hsz
  have h1 := ((OC.alloc o1).alloc o2).chg hc (fun b hb => .inl (.inl (.inr hb)))
  refine ⟨?_, ?_, ?_, ?_, by simp [h.len], ?_⟩
  · rw [show (((j + 1 : Nat) : Int)) = (j : Int) + 1 by omega]
    refine h1.mono fun b hb => ?_
    rcases hb with hb | hb
    · exact .inl (.inl (.inl (.inl hb)))
    · simp [Value.ownBlock] at hb
      subst hb
      rcases hat with h | h
      · exact .inl (.inl (.inl (.inr h)))
      · exact .inr ⟨by simp; omega, hlt⟩
  · simpa using hown
  · have k1 : Kept (fun b => b < W.heap.size) W w5 := (h.kept.trans KB (fun b hb => .inl hb)).trans KC fun b hb => .inl hb
    have k2 := (k1.alloc (fun b hb => OC.lt b (.inl hb)) o1).alloc (fun b hb => by have := OC.lt b (.inl hb); simp; omega) o2
    refine k2.trans (Y := fun b => b < W.heap.size) ⟨hc.os, hc.tape, hc.output, hc.size, fun b hb => hc.block b ?_ ?_⟩ (fun _ h => h)
    · have := OC.lt b (.inl hb); simp; omega
    · intro e; have := (h.row.lt b e).1; omega
  · have := h.small; omega
  · intro i hi
    rcases Nat.lt_or_ge i D.length with h2 | h2
    · rw [List.getElem_append_left h2]
      obtain ⟨a1, a2⟩ := h.each i h2
      exact ⟨known_mono f4.length_le a1, (getN_prefix f4 a1).trans a2⟩
    · have e : i = D.length := by simp at hi; omega
      subst e
      simp only [List.getElem_append_right (Nat.le_refl _), Nat.sub_self, List.getElem_cons_zero]
      rw [h.len]; exact ⟨f2, f3⟩

def DrawRel2 (W : World) (n p : Nat) (v i : Value) (wr : World) : Prop := ∃ (k : Nat) (L : List Nd) (D : List Int), k ≤ n ∧ i = .int .i64 k ∧ Draw2 W p v k wr L D

theorem infoInt : (Try.prog.info? 3).map (fun i => (i.zero, i.size, i.bytes)) = some (some (.int .i64 0), 1, 8) := by kernel_rfl

theorem row_int {w : World} {base g c n : Nat} {D : List Int} (h : w.ownsRow base 3 1 (.slice (some ⟨g, 0, none⟩) n c) D.length (D.map (Value.int .i64))) {k : Nat} (hk : k < D.length) :
    w.cell? ⟨g, k, none⟩ = some (.int .i64 D[k]) := by
  obtain ⟨cap, cur, _, q1, _, _, _, q2⟩ := own_row h (b := g) rfl
  rw [cell_of q1, ← Array.getElem?_toList]
  have := congrArg (fun l => l[k]?) q2
  simp only [List.getElem?_take, List.getElem?_map, List.getElem?_eq_getElem hk, Option.map_some] at this
  rw [if_pos (by omega)] at this
  exact this


set_option maxRecDepth 100000 in
set_option maxHeartbeats 4000000 in
theorem draws_walk (a : Option Addr) (cap : Nat) (l : List Int) (n : Int) (w : World) (h : InInts w a l) (hlen : l.length ≤ maxLen) (hwn : (Lit.int .i64 n).wf = true) :
    Calls Try.prog 4 #[.slice a l.length cap, .int .i64 n] w fun e w' => e = .returned (.bool true) ∧ Below w.heap.size w w' := by
  have hll : (l.length : Int) ≤ 9223372036854775807 := by unfold maxLen at hlen; omega
  clear hlen hwn
  by_cases hn : n < 0 ∨ 300 < n
  · rcases hn with hn | hn
    · have hb : decide (n < 0) = true := by simpa using hn
      clear hn
      go_enter Try.func4, Try.ntmps4
      go_wp2_with (go_at_call 10; refine (anchor_calls _).mono ?_; rintro e w1 ⟨rfl, c1⟩)
      go_ret
      exact ⟨rfl, c1.below (Nat.le_refl _) (fun _ _ h => h)⟩
    · have hb : decide (n < 0) = false := by simp; omega
      have hb2 : decide (300 < n) = true := by simpa using hn
      clear hn
      go_enter Try.func4, Try.ntmps4
      go_wp2_with (go_at_call 10; refine (anchor_calls _).mono ?_; rintro e w1 ⟨rfl, c1⟩)
      go_ret
      exact ⟨rfl, c1.below (Nat.le_refl _) (fun _ _ h => h)⟩
  have hb : decide (n < 0) = false := by simp; omega
  have hb2 : decide (300 < n) = false := by simp; omega
  obtain ⟨N, rfl⟩ : ∃ N : Nat, n = N := ⟨n.toNat, by omega⟩
  have hN : N ≤ 300 := by omega
  clear hn
  have HN := Lib.hid hN
  clear hN
  go_enter Try.func4, Try.ntmps4
  go_wp2_with (first
    | (go_at_call 10; refine (anchor_calls _).mono ?_; rintro e w1 ⟨rfl, c1⟩)
    | (go_at_call 11; refine (new_own _).mono ?_; rintro e w2 ⟨p, rfl, O0, K0⟩))
  have O1 : Own (fun b => b < w.heap.size) w2 p [] 0 := O0.mono fun k hk => Nat.lt_of_lt_of_le hk c1.size
  have K1 : Kept (fun b => b < w.heap.size) w w2 := (c1.kept (fun _ h => h)).trans (K0.kept (X := fun b => b < w1.heap.size) (fun _ h => h)) (fun k hk => Nat.lt_of_lt_of_le hk c1.size)
  clear O0 K0 c1
  go_loopw [28] (fun i wr => DrawRel1 w l p i wr) (fun i _ => l.length - (intOf i).toNat)
  case atStart => exact ⟨0, [], Nat.zero_le _, rfl, O1, K1, Nat.zero_le _⟩
  case round =>
    clear O1 K1
    obtain ⟨k, L, hk, rfl, OR, KR, hL⟩ := hrel
    have HO := Lib.hid OR
    have HK := Lib.hid KR
    have HL := Lib.hid hL
    clear OR KR hL
    by_cases hlt : k < l.length
    · have hne : l ≠ [] := by rintro rfl; simp at hlt
      rcases h with h | ⟨b, off, rfl, hb', hc, _⟩
      · exact absurd h hne
      have g0 := (HK.out.cells.1 b (off + k) hb').trans (hc k hlt)
      clear hc hne
      generalize l[k] = x at *
      have hmk := HO.out.make ⟨1, ByteArray.empty, x, 0⟩
      have HM := Lib.hid hmk
      clear hmk
      by_cases h3 : k < 300
      · have h3' : decide ((k : Int) < 300) = true := by simp; omega
        go_wp2_with (go_at_call 13; refine (HM.out).mono ?_; rintro e w4 ⟨rfl, OB, KB⟩)
        refine ⟨⟨k + 1, _, by omega, by go_num, OB, HK.out.trans KB (fun _ h => h), ?_⟩, by simp [intOf]; omega⟩
        have := HL.out
        rcases mk_cases L ⟨1, ByteArray.empty, x, 0⟩ with ⟨_, _, _, _, _, e⟩ | ⟨_, _, _, _, e⟩ | ⟨_, _, _, _, _, e⟩ | ⟨_, _, _, _, _, e⟩ <;> rw [e] <;> simp <;> omega
      · have h3' : decide ((k : Int) < 300) = false := by simp; omega
        go_wp2
        exact ⟨⟨k + 1, L, by omega, by go_num, HO.out, HK.out, by have := HL.out; omega⟩, by simp [intOf]; omega⟩
    · go_wp2
      clear hk h hlt hll
      go_loopw [8, 9] (fun v i wr' => DrawRel2 w N p v i wr') (fun _ i _ => N - (intOf i).toNat)
      case atStart => exact ⟨0, L, [], Nat.zero_le _, rfl, ⟨HO.out.mono (fun b hb => by simpa [Value.ownBlock] using hb), World.ownsRow_nil _ _ _ _, HK.out, by have := HL.out; omega, rfl, fun j h => by simp at h⟩⟩
      case round =>
        clear HO HK HL L
        obtain ⟨j, L, D, hj, rfl, hr2⟩ := hrel
        have HR := Lib.hid hr2
        clear hr2
        have hji : (j : Int) ≤ 300 := by have := HN.out; omega
        obtain ⟨av, cv, rfl⟩ : ∃ av cv, u8 = .slice av j cv := by
          rcases HR.out.row.2 with ⟨hv, hz⟩ | ⟨g, cap2, cur, hv, _⟩
          · exact ⟨none, 0, by rw [hv, hz]⟩
          · exact ⟨_, _, hv⟩
        by_cases hlt2 : j < N
        · obtain ⟨f1, f2, f3⟩ := fresh_ok (L := L) (k := j) (by have := HR.out.small; omega) (by omega)
          obtain ⟨f4, f5⟩ := getN_new (freshN (j : Int)) f1
          have hpre := mkL_prefix L (freshN (j : Int))
          have hfr := HR.out.own.fresh
          rw [f2] at hfr
          generalize hT : mkT L (freshN (j : Int)) = T at *
          generalize hL' : mkL L (freshN (j : Int)) = L' at *
          clear hT hL'
          have HF := Lib.hid hfr
          have F := Lib.hid (And.intro f1 (And.intro f3 (And.intro f4 (And.intro f5 hpre))))
          clear hfr f1 f2 f3 f4 f5 hpre
          go_wp2_with (first
            | (go_at_call 15; refine (HF.out).mono ?_; rintro e w4 ⟨rfl, OB, KB⟩)
            | (go_at_call 14; refine (OB.get T).mono ?_; rintro e w5 ⟨rfl, OC, KC⟩; rw [F.out.2.2.1, F.out.2.2.2.1]; simp only [freshN]))
          have hnum : ∀ q, q < D.length → (D.getD q 0 == T) = false := fun q hq => by
            have h1 := HR.out.each q hq
            have h2 := F.out
            rw [beq_eq_false_iff_ne, List.getD_eq_getElem?_getD, List.getElem?_eq_getElem hq]
            simp only [Option.getD_some]
            intro e
            have h3 := getN_prefix h2.2.2.2.2 h1.1
            rw [e, h2.2.2.2.1, ← e, h1.2] at h3
            simp [freshN] at h3
            have := HR.out.len; omega
          have hcell : ∀ q, q < D.length → ∃ g, av = some ⟨g, 0, none⟩ ∧ g < w5.heap.size ∧ w5.cell? ⟨g, q, none⟩ = some (.int .i64 (D.getD q 0)) := fun q hq => by
            have hD := HR.out.len
            rcases HR.out.row.2 with ⟨hv, hz⟩ | ⟨g, cap2, cur, hv, _⟩
            · omega
            · simp only [Value.slice.injEq] at hv
              obtain ⟨rfl, _, rfl⟩ := hv
              have hr := HR.out.row
              rw [← hD] at hr
              have h1 := row_int hr hq
              refine ⟨g, rfl, ?_, ?_⟩
              · have := own_block_lt hr (b := g) rfl; have := KB.size; have := KC.size; omega
              · rw [cell_eq (KC.block g (.inr rfl)), cell_eq (KB.block g (.inr rfl)), h1, List.getD_eq_getElem?_getD, List.getElem?_eq_getElem hq]; rfl
          have HNU := Lib.hid hnum
          have HCE := Lib.hid hcell
          clear hnum hcell
          go_loop [64] (fun i => ∃ q : Nat, q ≤ j ∧ i = .int .i64 q) (fun i => j - (intOf i).toNat)
          case atStart => exact ⟨0, Nat.zero_le _, rfl⟩
          case round =>
            obtain ⟨q, hq, rfl⟩ := hrel
            by_cases hq2 : q < j
            · have hqD : q < D.length := by rw [HR.out.len]; exact hq2
              obtain ⟨g, rfl, hg1, hg2⟩ := HCE.out q hqD
              have hg3 := HNU.out q hqD
              generalize D.getD q 0 = x at *
              go_wp2
              go_round
              case rel => exact ⟨q + 1, by omega, by go_num⟩
              case measure => simp [intOf]; omega
            · obtain ⟨i0, hi, hz0, hz1, hz2⟩ := info_parts infoInt
              have HI := Lib.hid (And.intro hi (And.intro hz0 (And.intro hz1 hz2)))
              clear hi hz0 hz1 hz2
              go_wp2_with (at_builtin; refine wpList_append_lies _ rfl _ _ _ rfl w.heap.size 3 i0 _ 1 8 Try.underlying35 HI.out.1 HI.out.2.1 HI.out.2.2.1 HI.out.2.2.2 rfl (by decide) (.slice av j cv) j (D.map (Value.int .i64)) rfl ?c1 ⟨w5.heap.size + 1, 0, none⟩ 1 1 [.int .i64 T] rfl rfl ?c2 (by simp [Value.oneCell']) (by decide) ?c3 ?c4 ?c5 _ rfl ?_)
              case c1 =>
                have h1 := (KB.row HR.out.row (fun b hb => .inr hb))
                have h2 := (KC.row h1 (fun b hb => .inr hb))
                have h3 : (w5.alloc (.cells #[.int .i64 1, .string ByteArray.empty, .int .i64 ((j : Int) + 1), .int .i64 0] 27)).ownsRow w.heap.size 3 1 (.slice av j cv) j (D.map (Value.int .i64)) := h2.alloc _
                exact h3.alloc _
              case c3 => unfold maxLen; omega
              case c4 => omega
              case c5 => have := HR.out.kept.size; have := KB.size; have := KC.size; simp; omega
              intro g cap3 w6 hown6 hg6 hat6 hlt6
              go_wp2
              refine ⟨⟨j + 1, L', D ++ [T], by omega, by go_num, HR.out.step KB OC KC hown6 hg6 (by simpa using hat6) hlt6 F.out.2.1 F.out.2.2.1 F.out.2.2.2.1 F.out.2.2.2.2⟩, by simp [intOf]; omega⟩
        · go_wp2
          go_ret
          exact ⟨by simp, HR.out.kept.below (fun k hk => hk)⟩

end Go.Proofs.Ytlppagjnnlmnmaa
