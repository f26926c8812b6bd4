/- What this claim reaches of a longer text of this session. -/
import Derived.Test.YteljmaebhjhedaaDoorPureBoth
import Derived.DataShut
import Derived.Test.YteljmaebhjhedaaDoorPTwx9
set_option linter.unusedVariables false
set_option linter.unusedSimpArgs false
namespace Go.Proofs.YteljmaebhjhedaaDoor.Pure
open Go.RowKit Go.Proofs.YteljmaebhjhedaaDoor Go.Proofs.YteljmaebhjhedaaDoor.PTw Go.Proofs.YteljmaebhjhedaaDoorW.PrintWords
def I64 (a : Int) : Prop := -9223372036854775808 ≤ a ∧ a ≤ 9223372036854775807
theorem I64.of {a : Int} (h : (Lit.int .i64 a).wf = true) : I64 a := by
  have := (Lit.wf_int_iff .i64 a).1 h
  unfold I64
  exact ⟨this.1, this.2⟩
abbrev cardB : ByteArray := ⟨#[99, 97, 114, 100]⟩
def bodyG (s : TS) (c i l g u : Int) : Int × TS := listG (put (put s ⟨2, num c, 0, 0⟩).2 ⟨2, num u, 0, 0⟩).2 [(put s ⟨2, num c, 0, 0⟩).1, i, l, g, (put (put s ⟨2, num c, 0, 0⟩).2 ⟨2, num u, 0, 0⟩).1]
def signG (s : TS) (c i l g u : Int) : Int × TS := put (bodyG s c i l g u).2 ⟨4, cardB, (bodyG s c i l g u).1, 0⟩
def verG (s : TS) (pub text sig : Int) : Bool := rverifyOf (getN s.nodes sig) (getN s.nodes pub) text
theorem ver_eq (s : TS) (pub text sig : Int) : verifyOf (knownB s.nodes.length sig) (knownB s.nodes.length pub) (getN s.nodes sig) (getN s.nodes pub) text = verG s pub text sig := by
  have hk : ∀ t : Int, knownB s.nodes.length t = false → (getN s.nodes t).kind = 0 := fun t h => by unfold getN; rw [h]; rfl
  unfold verG verifyOf rverifyOf
  have h1 := hk sig
  have h2 := hk pub
  generalize getN s.nodes sig = n at *
  generalize getN s.nodes pub = p at *
  cases e1 : knownB s.nodes.length sig with
  | false => rw [h1 e1]; simp
  | true =>
    cases e2 : knownB s.nodes.length pub with
    | false => rw [h2 e2]; simp
    | true =>
      rw [Bool.eq_iff_iff]
      simp
      constructor
      · rintro ⟨⟨⟨a, b⟩, c⟩, d⟩; exact ⟨⟨⟨a, c⟩, b⟩, d.symm⟩
      · rintro ⟨⟨⟨a, b⟩, c⟩, d⟩; exact ⟨⟨⟨a, c⟩, b⟩, d.symm⟩
theorem pub_kind (s : TS) (t : Int) : publicB s t = decide ((getN s.nodes t).kind = 6) := by
  unfold publicB
  cases e : knownB s.nodes.length t with
  | true => simp
  | false => have : (getN s.nodes t).kind = 0 := by unfold getN; rw [e]; rfl
             rw [this]; rfl
theorem pbody (P R : TS) {c i l g u : Int} (m : Int) (hc : I64 c) (hu : I64 u) (k : Nat) (hk : 100 < k) : card_Body.f k ⟨P, R⟩ c i l g u m = some ((bodyG P c i l g u).1, ⟨(bodyG P c i l g u).2, R⟩) := by
  unfold card_Body.f
  rw [pnumber_eq _ _ _ hc.1 hc.2, Option.bind_some]
  dsimp only
  rw [pnumber_eq _ _ _ hu.1 hu.2, Option.bind_some]
  dsimp only
  rw [plist_eq _ _ _ _ (by simp) (by simp; omega), Option.bind_some]
  rfl
theorem rbody (P R : TS) {c i l g u : Int} (m : Int) (hc : I64 c) (hu : I64 u) (k : Nat) (hk : 100 < k) : conclaveref09_Body.f k ⟨P, R⟩ c i l g u m = some ((bodyG R c i l g u).1, ⟨P, (bodyG R c i l g u).2⟩) := by
  unfold conclaveref09_Body.f
  rw [rnumber_eq _ _ _ k hk hc.1 hc.2, Option.bind_some]
  dsimp only
  rw [rnumber_eq _ _ _ k hk hu.1 hu.2, Option.bind_some]
  dsimp only
  rw [rlist_eq _ _ _ _ (by simp) (by simp; omega), Option.bind_some]
  rfl
theorem rsign (P R : TS) {c i l g u : Int} (m : Int) (hc : I64 c) (hu : I64 u) (k : Nat) (hk : 100 < k) : conclaveref09_Signed.f k ⟨P, R⟩ c i l g u m = some ((signG R c i l g u).1, ⟨P, (signG R c i l g u).2⟩) := by
  unfold conclaveref09_Signed.f
  rw [rbody P R m hc hu k hk, Option.bind_some]
  rfl
def makeG (s : TS) (c sg i l u : Int) : (Int × Int × Int × Int) × TS :=
  let a := put s ⟨6, ByteArray.empty, i, 0⟩
  let b := put a.2 ⟨6, ByteArray.empty, l, 0⟩
  let d := put b.2 ⟨6, ByteArray.empty, sg, 0⟩
  let h := signG d.2 c a.1 b.1 d.1 u
  let m := put h.2 ⟨9, ByteArray.empty, sg, h.1⟩
  ((a.1, b.1, d.1, m.1), m.2)
theorem pmake (P R : TS) {c sg i l u : Int} (hc : I64 c) (hu : I64 u) (k : Nat) (hk : 100 < k) : card_Make.f k ⟨P, R⟩ c sg i l u = some (c, (makeG P c sg i l u).1.1, (makeG P c sg i l u).1.2.1, (makeG P c sg i l u).1.2.2.1, u, (makeG P c sg i l u).1.2.2.2, ⟨(makeG P c sg i l u).2, R⟩) := by
  unfold card_Make.f term_Store_Pub.f
  simp only [Option.bind_some]
  rw [pbody _ _ _ hc hu k hk, Option.bind_some]
  rfl
theorem rmake (P R : TS) {c sg i l u : Int} (hc : I64 c) (hu : I64 u) (k : Nat) (hk : 100 < k) : conclaveref09_Make.f k ⟨P, R⟩ c sg i l u = some (c, (makeG R c sg i l u).1.1, (makeG R c sg i l u).1.2.1, (makeG R c sg i l u).1.2.2.1, u, (makeG R c sg i l u).1.2.2.2, ⟨P, (makeG R c sg i l u).2⟩) := by
  unfold conclaveref09_Make.f conclaveref01_Store_Pub.f
  simp only [Option.bind_some]
  rw [rsign _ _ _ hc hu k hk, Option.bind_some]
  rfl
def errG (s : TS) (c i l g u m now : Int) (who : List Int) : Int :=
  if c < 0 then 90 else if (who.length : Int) ≤ c then 90 else if g = rd who c then
    (if (getN s.nodes i).kind = 6 then if (getN s.nodes l).kind = 6 then
      (if verG (signG s c i l g u).2 g (signG s c i l g u).1 m = true then (if u < now then 91 else 0) else 90) else 90 else 90) else 90
theorem pcheck (P R : TS) {c i l g u m now : Int} {who : List Int} (hc : I64 c) (hu : I64 u) (k : Nat) (hk : 200 < k) : ∃ P', card_Check.f k ⟨P, R⟩ c i l g u m now who = some (errG P c i l g u m now who, ⟨P', R⟩) := by
  obtain ⟨k, rfl⟩ : ∃ q, k = q + 2 := ⟨k - 2, by omega⟩
  have hb := pbody P R m (i := i) (l := l) (g := g) hc hu k (by omega)
  unfold card_Check.f errG
  by_cases c1 : c < 0
  · exact ⟨P, by rw [if_pos c1, if_pos c1, card_Check.j0, if_pos rfl]⟩
  rw [if_neg c1, if_neg c1]
  by_cases c2 : (who.length : Int) ≤ c
  · exact ⟨P, by rw [if_pos c2, if_pos c2, card_Check.j0, if_pos rfl]⟩
  rw [if_neg c2, if_neg (show ¬ c ≥ (who.length : Int) from c2), if_pos (by omega), if_pos (by omega), card_Check.j0]
  by_cases c3 : g = rd who c
  · rw [show (g != rd who c) = false by simpa using c3, if_neg (by decide), if_pos c3]
    unfold card_public.f
    rw [Option.bind_some, pub_kind]
    dsimp only
    by_cases c4 : (getN P.nodes i).kind = 6
    · rw [decide_eq_true c4, if_pos rfl, if_pos c4, Option.bind_some, card_Check.j1, pub_kind]
      by_cases c5 : (getN P.nodes l).kind = 6
      · rw [decide_eq_true c5, if_neg (fun h => by cases h), if_pos c5]
        rw [hb, Option.bind_some]
        unfold term_Store_Hash.f term_Store_Verify.f
        rw [Option.bind_some, Option.bind_some]
        dsimp only
        rw [ver_eq]
        by_cases c6 : verG (signG P c i l g u).2 g (signG P c i l g u).1 m = true
        · refine ⟨(signG P c i l g u).2, ?_⟩
          have c6' := c6
          unfold signG at c6'
          rw [if_pos c6', if_pos c6]
          by_cases c7 : u < now
          · rw [if_pos c7, if_pos c7]; rfl
          · rw [if_neg c7, if_neg c7]; rfl
        · refine ⟨(signG P c i l g u).2, ?_⟩
          have c6' := c6
          unfold signG at c6'
          rw [if_neg c6', if_neg c6]
          rfl
      · exact ⟨P, by rw [decide_eq_false c5, if_neg c5]; rfl⟩
    · refine ⟨P, ?_⟩
      rw [decide_eq_false c4, if_neg (by decide), if_neg c4, card_Check.j1, if_pos rfl]
  · exact ⟨P, by rw [show (g != rd who c) = true by simpa using c3, if_pos rfl, if_neg c3]⟩
theorem rcheck (P R : TS) {c i l g u m now : Int} {who : List Int} (hc : I64 c) (hu : I64 u) (k : Nat) (hk : 200 < k) : ∃ R', conclaveref09_Check.f k ⟨P, R⟩ c i l g u m now who = some (errG R c i l g u m now who, ⟨P, R'⟩) := by
  obtain ⟨k, rfl⟩ : ∃ q, k = q + 2 := ⟨k - 2, by omega⟩
  have hb := rsign P R m (i := i) (l := l) (g := g) hc hu k (by omega)
  unfold conclaveref09_Check.f errG
  by_cases c1 : c < 0
  · exact ⟨R, by rw [if_pos c1, if_pos c1, conclaveref09_Check.j0, if_pos rfl]⟩
  rw [if_neg c1, if_neg c1]
  by_cases c2 : (who.length : Int) ≤ c
  · exact ⟨R, by rw [if_pos c2, decide_eq_true (show c ≥ (who.length : Int) from c2), conclaveref09_Check.j0, if_pos rfl]⟩
  rw [if_neg c2, decide_eq_false (show ¬ c ≥ (who.length : Int) from c2), conclaveref09_Check.j0, if_neg (by decide), if_pos (by omega), if_pos (by omega)]
  by_cases c3 : g = rd who c
  · rw [if_pos c3.symm, if_pos c3]
    unfold conclaveref01_Store_Get.f
    rw [Option.bind_some]
    dsimp only
    by_cases c4 : (getN R.nodes i).kind = 6
    · rw [if_pos c4, if_pos c4, Option.bind_some, conclaveref09_Check.j1]
      dsimp only
      by_cases c5 : (getN R.nodes l).kind = 6
      · rw [show ((getN R.nodes l).kind != 6) = false by simpa using c5, if_neg (by decide), if_pos c5]
        rw [hb, Option.bind_some]
        unfold conclaveref01_Store_Verify.f
        rw [Option.bind_some]
        dsimp only
        by_cases c6 : verG (signG R c i l g u).2 g (signG R c i l g u).1 m = true
        · refine ⟨(signG R c i l g u).2, ?_⟩
          have c6' := c6
          unfold verG at c6'
          rw [if_pos c6', if_pos c6]
          by_cases c7 : u < now
          · rw [if_pos c7, if_pos c7]
          · rw [if_neg c7, if_neg c7]
        · refine ⟨(signG R c i l g u).2, ?_⟩
          have c6' := c6
          unfold verG at c6'
          rw [if_neg c6', if_neg c6]
      · exact ⟨R, by rw [show ((getN R.nodes l).kind != 6) = true by simpa using c5, if_pos rfl, if_neg c5]⟩
    · refine ⟨R, ?_⟩
      rw [if_neg c4, if_neg c4, conclaveref09_Check.j1, if_pos rfl]
  · exact ⟨R, by rw [if_neg (fun h => c3 h.symm), if_neg c3, conclaveref09_Check.j1, if_pos rfl]⟩
theorem checks_l0 (S : TS) (hS : S.nodes.length ≤ 1000000) {c i l g u m now : Int} {who : List Int} (hc : I64 c) (hu : I64 u) (hw : who.length ≤ 100) : ∀ (d j k : Nat), j + d = S.nodes.length + 1 → d + 300 < k →
    conclavelaw09_CardChecks.l0 k now who (j : Int) c i l g u m ⟨S, S⟩ = some true
  | 0, j, k + 1, hj, hk => by
    obtain ⟨P', hp⟩ := pcheck S S (i := i) (l := l) (g := g) (m := m) (now := now) (who := who) hc hu k (by omega)
    obtain ⟨R', hr⟩ := rcheck P' S (i := i) (l := l) (g := g) (m := m) (now := now) (who := who) hc hu k (by omega)
    unfold conclavelaw09_CardChecks.l0 term_Store_Len.f
    rw [Option.bind_some]
    dsimp only
    rw [if_neg (by omega), Option.bind_some, List.nil_append, if_pos (by simp; omega), hp, Option.bind_some]
    dsimp only
    rw [hr, Option.bind_some]
    simp
  | d + 1, j, k + 1, hj, hk => by
    have ih := checks_l0 S hS (i := i) (l := l) (g := g) (m := m) (now := now) hc hu hw d (j + 1) k (by omega) (by omega)
    unfold conclavelaw09_CardChecks.l0 term_Store_Len.f
    rw [Option.bind_some]
    dsimp only
    rw [if_pos (by omega)]
    unfold term_Store_Get.f conclaveref01_Store_Get.f
    rw [Option.bind_some, Option.bind_some]
    dsimp only
    rw [if_neg (by simp), wrap_up j (by omega)]
    exact ih
theorem cstores2 : conclavelaw09_stores.f 9 = some ⟨pubs (freshes ⟨[], 0⟩ 9) 9, pubs (freshes ⟨[], 0⟩ 9) 9⟩ := by
  unfold conclavelaw09_stores.f
  rw [if_pos ⟨by decide, by decide +kernel⟩]
  rfl
theorem clen : ((makeG (pubs (freshes ⟨[], 0⟩ 9) 9) 1 1 2 3 7).2).nodes.length ≤ 1000000 := by decide +kernel
theorem CardChecks : conclavelaw09_CardChecks.Pure := by
  intro c i l g u m now who hc hi hl hg hu hm hn hw
  refine ⟨(makeG (pubs (freshes ⟨[], 0⟩ 9) 9) 1 1 2 3 7).2.nodes.length + 2000, ?_⟩
  unfold conclavelaw09_CardChecks.f conclavelaw09_anchor.f
  rw [Option.bind_some, if_pos rfl]
  by_cases hlen : (who.length : Int) > 100
  · rw [if_pos hlen]
  rw [if_neg hlen, cstores2, Option.bind_some, pmake _ _ (by unfold I64; omega) (by unfold I64; omega) _ (by omega), Option.bind_some]
  dsimp only
  rw [rmake _ _ (by unfold I64; omega) (by unfold I64; omega) _ (by omega), Option.bind_some]
  dsimp only
  have hlen2 := clen
  generalize makeG (pubs (freshes ⟨[], 0⟩ 9) 9) 1 1 2 3 7 = M at *
  have key : ∀ m', conclavelaw09_CardChecks.j0 (M.2.nodes.length + 2000) now who c i l g u m' ⟨M.2, M.2⟩ = some true := fun m' => by
    rw [show M.2.nodes.length + 2000 = (M.2.nodes.length + 1999) + 1 by omega, conclavelaw09_CardChecks.j0]
    exact checks_l0 M.2 hlen2 (I64.of hc) (I64.of hu) (by omega) M.2.nodes.length 1 _ (by omega) (by omega)
  split
  · exact key _
  · exact key _
end Go.Proofs.YteljmaebhjhedaaDoor.Pure
