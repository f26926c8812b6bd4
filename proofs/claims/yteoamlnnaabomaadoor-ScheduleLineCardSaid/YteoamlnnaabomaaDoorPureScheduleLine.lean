/- The plain statement behind ScheduleLine. -/
import Derived.Test.YteoamlnnaabomaaDoorPureSched2
import Derived.Test.YteoamlnnaabomaaDoorPureList
import Derived.Test.YteoamlnnaabomaaDoorPScx5
import Derived.Test.YteoamlnnaabomaaDoorPScx4
set_option linter.unusedVariables false
set_option linter.unusedSimpArgs false
namespace Go.Proofs.YteoamlnnaabomaaDoor.Pure
open Go.RowKit Go.Proofs.YteoamlnnaabomaaDoor Go.Proofs.YteoamlnnaabomaaDoor.PSc Go.Proofs.YteoamlnnaabomaaDoorW.PrintWords

/-- What a context is made of. -/
theorem context_ok {s : TS} (hg : Good s) (k : Nat) (hk : 20 < k) {a b c d : Int} (ha : -9223372036854775808 ≤ a) (ha1 : a ≤ 9223372036854775807) (hb : -9223372036854775808 ≤ b) (hb1 : b ≤ 9223372036854775807)
    (hc : knownB s.nodes.length c = true) (hd : knownB s.nodes.length d = true) (hl : s.nodes.length < 200000) :
    ∃ (p q t : Int) (s' : TS), schedule_Context.f k s a b c d = some (t, s') ∧ Grow s s' 7 ∧ Has s' p ⟨2, num a, 0, 0⟩ ∧ Has s' q ⟨2, num b, 0, 0⟩ ∧ IsL s' t [p, q, c, d] := by
  obtain ⟨g1, h1⟩ := number_ok hg a ha ha1 (by omega)
  obtain ⟨g2, h2⟩ := number_ok g1.good b hb hb1 (by have := g1.len; omega)
  have g := g1.trans g2
  have hk4 : ∀ x ∈ [(put s ⟨2, num a, 0, 0⟩).1, (put (put s ⟨2, num a, 0, 0⟩).2 ⟨2, num b, 0, 0⟩).1, c, d], knownB (put (put s ⟨2, num a, 0, 0⟩).2 ⟨2, num b, 0, 0⟩).2.nodes.length x = true := by
    intro x hx
    simp only [List.mem_cons, List.not_mem_nil, or_false] at hx
    rcases hx with rfl | rfl | rfl | rfl
    · exact g2.known h1.1
    · exact h2.1
    · exact g.known hc
    · exact g.known hd
  obtain ⟨g3, h3⟩ := lsM_ok g2.good hk4 (by have := g.len; simp; omega)
  refine ⟨_, _, _, _, ?_, g.trans g3, g3.has (g2.has h1), g3.has h2, h3⟩
  unfold schedule_Context.f
  rw [number_eq s a ha ha1, Option.bind_some, number_eq _ b hb hb1, Option.bind_some, list_eq _ _ k (by simp) hk4 (by simp; omega), Option.bind_some]

/-- No derivation from t. -/
def NoK (s : TS) (t : Int) : Prop := ∀ n ∈ s.nodes, n.kind = 5 → n.a ≠ t
theorem noK_put {s : TS} {t : Int} (h : NoK s t) (n : Nd) (hn : n.kind = 5 → n.a ≠ t) : NoK (put s n).2 t := by
  intro m hm h5
  rcases put_only s n m hm with q | rfl
  · exact h m q h5
  · exact hn h5
theorem noK_lsM {s : TS} {t : Int} (h : NoK s t) : ∀ l, NoK (lsM s l).2 t
  | [] => noK_put h _ (fun e => by simp at e)
  | x :: l => noK_put (noK_lsM h l) _ (fun e => by simp at e)
theorem noK_high {s : TS} (hg : Good s) {t : Int} (ht : (s.nodes.length : Int) < t) : NoK s t := by
  intro n hn h5
  obtain ⟨i, hi, rfl⟩ := List.getElem_of_mem hn
  have := (wf_low hg.wf hi).parts (by omega) (by omega)
  omega
theorem noK_jS {s : TS} {x e t : Int} (h : NoK s t) (hx : x ≠ t) : ∀ j, NoK (jS s x e j) t
  | 0 => h
  | j + 1 => noK_put (noK_jS h hx j) _ (fun _ => hx)
theorem join_noK {s s' : TS} {j sh c m w x t : Int} {v : Nat → Int} (h : schedule_Join.f s j sh c = some (j, m, w, x, v 0, v 1, v 2, v 3, v 4, v 5, v 6, v 7, v 8, s')) (hk : NoK s t) (hj : j ≠ t) (hm : m ≠ t) (hx : x ≠ t) : NoK s' t := by
  unfold schedule_Join.f at h
  simp only [Option.some.injEq, Prod.mk.injEq] at h
  obtain ⟨_, hm', _, hx', _, _, _, _, _, _, _, _, _, hs⟩ := h
  rw [← hs]
  rw [← hx'] at hx
  rw [← hm'] at hm
  refine noK_jS ?_ hx 9
  refine noK_put ?_ _ (fun _ => hm)
  refine noK_put ?_ _ (fun _ => hm)
  refine noK_put ?_ _ (fun _ => hj)
  exact noK_put hk _ (fun e => by simp at e)
theorem context_noK {s s' : TS} {k : Nat} {a b c d t u : Int} (ha : -9223372036854775808 ≤ a) (ha1 : a ≤ 9223372036854775807) (hb : -9223372036854775808 ≤ b) (hb1 : b ≤ 9223372036854775807) (hk : 20 < k)
    (hl : ∀ x ∈ [(put s ⟨2, num a, 0, 0⟩).1, (put (put s ⟨2, num a, 0, 0⟩).2 ⟨2, num b, 0, 0⟩).1, c, d], knownB (put (put s ⟨2, num a, 0, 0⟩).2 ⟨2, num b, 0, 0⟩).2.nodes.length x = true)
    (h : schedule_Context.f k s a b c d = some (u, s')) (hn : NoK s t) : NoK s' t := by
  unfold schedule_Context.f at h
  rw [number_eq s a ha ha1, Option.bind_some, number_eq _ b hb hb1, Option.bind_some, list_eq _ _ k (by simp) hl (by simp; omega), Option.bind_some] at h
  simp only [Option.some.injEq, Prod.mk.injEq] at h
  rw [← h.2]
  refine noK_lsM ?_ _
  refine noK_put ?_ _ (fun e => by simp at e)
  exact noK_put hn _ (fun e => by simp at e)
/-- What is there is not made again: a second Join. -/
theorem jS_has {s : TS} (hg : Good s) {x e : Int} {v : Nat → Int} (hv : ∀ i, i < 9 → Has s (v i) ⟨5, jl i, x, e⟩) : ∀ j, j ≤ 9 → jS s x e j = s
  | 0, _ => rfl
  | j + 1, hj => by
    show (put (jS s x e j) ⟨5, jl j, x, e⟩).2 = s
    rw [jS_has hg hv j (by omega), put_has hg (hv j (by omega))]
theorem join_again {s : TS} (hg : Good s) {j sh c m w x e : Int} {v : Nat → Int} (h : Ep s j sh c m w x v e) : schedule_Join.f s j sh c = some (j, m, w, x, v 0, v 1, v 2, v 3, v 4, v 5, v 6, v 7, v 8, s) := by
  have eA : jA s = (e, s) := put_has hg h.none
  have eM : jM s j sh = (m, s) := by unfold jM; rw [eA]; exact put_has hg h.member
  have eW : jW s j sh = (w, s) := by unfold jW; rw [eM, eA]; exact put_has hg h.welcome
  have eE : jE s j sh c = (x, s) := by unfold jE; rw [eW, eM]; exact put_has hg h.secret
  have eS := jS_has hg h.each
  have eV : ∀ i, i < 9 → jV s x e i = v i := fun i hi => by unfold jV; rw [eS i (by omega), put_has hg (h.each i hi)]
  unfold schedule_Join.f
  rw [eE, eM, eW, eA]
  dsimp only
  rw [eS 9 (by omega), eV 0 (by decide), eV 1 (by decide), eV 2 (by decide), eV 3 (by decide), eV 4 (by decide), eV 5 (by decide), eV 6 (by decide), eV 7 (by decide), eV 8 (by decide)]

theorem line_l2 (x7 x33 x63 : List Int) (x14 x34 x35 x64 x65 : Int) (s : TS) (a0 a1 a2 a3 a4 a5 a6 a7 a8 a9 a10 a11 a12 b0 b1 b2 b3 b4 b5 b6 b7 b8 b9 b10 b11 b12 : Int) (K : Nat) (hl : x7.length ≤ 100000000)
    (hn : ∀ u ∈ x7, x14 ≠ u) (h0 : x14 ≠ 0)
    (H : ∀ k, K ≤ k → conclavelaw07_ScheduleLine.l1 k x7 x33 x34 x35 x63 x64 (wrap64 (x65 + 1)) s a0 a1 a2 a3 a4 a5 a6 a7 a8 a9 a10 a11 a12 b0 b1 b2 b3 b4 b5 b6 b7 b8 b9 b10 b11 b12 = some true) :
    ∀ (m k i : Nat), m + i = x7.length → K + m < k → conclavelaw07_ScheduleLine.l2 k x7 x14 x33 x34 x35 x63 x64 x65 x7 (x7.length : Int) (i : Int) s a0 a1 a2 a3 a4 a5 a6 a7 a8 a9 a10 a11 a12 b0 b1 b2 b3 b4 b5 b6 b7 b8 b9 b10 b11 b12 = some true
  | 0, k + 1, i, h, hk => by
    rw [conclavelaw07_ScheduleLine.l2, if_neg (by omega)]
    exact H k (by omega)
  | m + 1, k + 1, i, h, hk => by
    have hi : i < x7.length := by omega
    rw [conclavelaw07_ScheduleLine.l2, if_pos (by omega), if_pos (by omega), if_pos (by omega), rd_at x7 hi, if_neg (hn _ (List.getElem_mem hi)), if_neg h0, wrap_up i (by omega)]
    exact line_l2 x7 x33 x63 x14 x34 x35 x64 x65 s a0 a1 a2 a3 a4 a5 a6 a7 a8 a9 a10 a11 a12 b0 b1 b2 b3 b4 b5 b6 b7 b8 b9 b10 b11 b12 K hl hn h0 H m k (i + 1) (by omega) (by omega)
theorem line_l1 (x7 x33 x63 : List Int) (x34 x35 : Int) (s : TS) (a0 a1 a2 a3 a4 a5 a6 a7 a8 a9 a10 a11 a12 b0 b1 b2 b3 b4 b5 b6 b7 b8 b9 b10 b11 b12 : Int) (K : Nat) (hl : x7.length ≤ 100000000) (hl3 : x63.length ≤ 100000000)
    (hn : ∀ t ∈ x63, t ≠ 0 ∧ ∀ u ∈ x7, t ≠ u)
    (H : ∀ k, K ≤ k → conclavelaw07_ScheduleLine.l0 k a4 b4 (x7 ++ [a0, a1, a2, a3, a4, a5, a6, a7, a8, a9, a10, a11, a12]) x33 x34 (wrap64 (x35 + 1)) s = some true) :
    ∀ (m k i : Nat), m + i = x63.length → K + m * (x7.length + 2) < k → conclavelaw07_ScheduleLine.l1 k x7 x33 x34 x35 x63 (x63.length : Int) (i : Int) s a0 a1 a2 a3 a4 a5 a6 a7 a8 a9 a10 a11 a12 b0 b1 b2 b3 b4 b5 b6 b7 b8 b9 b10 b11 b12 = some true
  | 0, k + 1, i, h, hk => by
    rw [conclavelaw07_ScheduleLine.l1, if_neg (by omega)]
    unfold conclavelaw07_all.f
    rw [Option.bind_some, if_pos (by simp; omega)]
    exact H k (by omega)
  | m + 1, k + 1, i, h, hk => by
    have hi : i < x63.length := by omega
    have hm := hn _ (List.getElem_mem hi)
    rw [conclavelaw07_ScheduleLine.l1, if_pos (by omega), if_pos (by omega), if_pos (by omega), rd_at x63 hi]
    rw [Nat.add_mul, Nat.one_mul] at hk
    refine line_l2 x7 x33 x63 _ x34 x35 _ _ s a0 a1 a2 a3 a4 a5 a6 a7 a8 a9 a10 a11 a12 b0 b1 b2 b3 b4 b5 b6 b7 b8 b9 b10 b11 b12 (K + m * (x7.length + 2) + 1) hl hm.2 hm.1 (fun k hk => ?_) x7.length k 0 (by omega) (by omega)
    rw [wrap_up i (by omega)]
    exact line_l1 x7 x33 x63 x34 x35 s a0 a1 a2 a3 a4 a5 a6 a7 a8 a9 a10 a11 a12 b0 b1 b2 b3 b4 b5 b6 b7 b8 b9 b10 b11 b12 K hl hl3 hn H m k (i + 1) (by omega) (by omega)

/-- What holds ahead of an epoch. -/
structure LineInv (s : TS) (init : Int) (seen : List Int) (r : Nat) : Prop where
  good : Good s
  len : s.nodes.length ≤ 9 + 100 * r
  atoms : 9 ≤ s.nodes.length
  known : knownB s.nodes.length init = true
  noK : NoK s init
  low : ∀ u ∈ seen, u ≤ s.nodes.length
  lseen : seen.length = 13 * r

theorem line_round {s : TS} {init : Int} {seen : List Int} {r : Nat} (h : LineInv s init seen r) (hr : r ≤ 40) (c : Int) (hc : 1 ≤ c ∧ c ≤ 9) (k : Nat) (hk : 20 < k) :
    ∃ (cx s1 e s2 sj j m w x : _) (v : Nat → Int) (s3 : TS), schedule_Context.f k s 1 (r : Int) 2 3 = some (cx, s1) ∧ term_Store_Text.f s1 ⟨#[]⟩ = some (e, s2) ∧ schedule_Next.f s2 init c e cx = some (j, m, w, x, v 0, v 1, v 2, v 3, v 4, v 5, v 6, v 7, v 8, s3) ∧
      term_Store_Kdf.f s3 ⟨#[106, 111, 105, 110, 101, 114]⟩ init c = some (j, s3) ∧ term_Store_Text.f s3 ⟨#[]⟩ = some (e, s3) ∧ schedule_Join.f s3 j e cx = some (j, m, w, x, v 0, v 1, v 2, v 3, v 4, v 5, v 6, v 7, v 8, s3) ∧
      (∀ t ∈ allL j m w x v, t ≠ 0 ∧ ∀ u ∈ seen, t ≠ u) ∧ LineInv s3 (v 0) (seen ++ allL j m w x v) (r + 1) ∧ sj = s3 := by
  have hl := h.len
  have hat := h.atoms
  obtain ⟨p, q, cx, s1, hcx, g1, hp, hq, hL⟩ := context_ok (a := 1) (b := (r : Int)) (c := 2) (d := 3) h.good k hk (by omega) (by omega) (by omega) (by omega) (by rw [knownB_iff]; omega) (by rw [knownB_iff]; omega) (by omega)
  have l1 := g1.len
  obtain ⟨g2, he⟩ := text_ok g1.good ⟨#[]⟩ (by decide) (by omega)
  have l2 := g2.len
  have kc : ∀ t : Int, 1 ≤ t → t ≤ 9 → knownB s.nodes.length t = true := fun t a b => by rw [knownB_iff]; omega
  have g12 := g1.trans g2
  generalize hs2 : put s1 ⟨2, ⟨#[]⟩, 0, 0⟩ = z at *
  obtain ⟨e, s2⟩ := z
  dsimp only at *
  have hin2 : knownB s2.nodes.length init = true := g12.known h.known
  have hcx2 : knownB s2.nodes.length cx = true := g2.known hL.known
  obtain ⟨j, m, w, x, v, e', s3, hf, g3, hj, hep⟩ := next_ok (a := init) (b := c) (sh := e) (c := cx) g2.good hin2 (g12.known (kc c hc.1 hc.2)) he.1 hcx2 (by omega)
  have l3 := g3.len
  have ee : e' = e := hep.none.num g3.good (g3.has he)
  subst ee
  -- no derivation from init ahead
  have hg12 := g12.pre
  have n2 : NoK s2 init := by
    have n1 : NoK s1 init := by
      refine context_noK (a := 1) (b := (r : Int)) (c := 2) (d := 3) (by omega) (by omega) (by omega) (by omega) hk ?_ hcx h.noK
      obtain ⟨q1, k1⟩ := number_ok h.good 1 (by omega) (by omega) (by omega)
      obtain ⟨q2, k2⟩ := number_ok q1.good (r : Int) (by omega) (by omega) (by have := q1.len; omega)
      intro y hy
      simp only [List.mem_cons, List.not_mem_nil, or_false] at hy
      rcases hy with rfl | rfl | rfl | rfl
      · exact q2.known k1.1
      · exact k2.1
      · exact (q1.trans q2).known (kc 2 (by omega) (by omega))
      · exact (q1.trans q2).known (kc 3 (by omega) (by omega))
    have := noK_put n1 ⟨2, ⟨#[]⟩, 0, 0⟩ (fun e => by simp at e)
    rw [hs2] at this
    exact this
  -- the joiner is new
  have hjn : (s2.nodes.length : Int) < j := by
    unfold schedule_Next.f term_Store_Kdf.f at hf
    rw [Option.bind_some] at hf
    have hr5 := right_kdf s2.nodes ⟨#[106, 111, 105, 110, 101, 114]⟩ init c (by decide) hin2 (g12.known (kc c hc.1 hc.2))
    obtain ⟨e1, e2⟩ := put_new hr5 (by omega) (fun hm => n2 _ hm rfl rfl)
    cases hq : schedule_Join.f (put s2 ⟨5, ⟨#[106, 111, 105, 110, 101, 114]⟩, init, c⟩).2 (put s2 ⟨5, ⟨#[106, 111, 105, 110, 101, 114]⟩, init, c⟩).1 e' cx with
    | none => rw [hq] at hf; cases hf
    | some z =>
      have hz : z.1 = (put s2 ⟨5, ⟨#[106, 111, 105, 110, 101, 114]⟩, init, c⟩).1 := by
        unfold schedule_Join.f at hq
        exact (congrArg Prod.fst (Option.some.inj hq)).symm
      rw [hq, Option.bind_some] at hf
      have : z.1 = j := congrArg Prod.fst (Option.some.inj hf)
      omega
  have hG := g3.good
  have lm := parts_lt hG hep.member (by simp) (by simp)
  have lw := parts_lt hG hep.welcome (by simp) (by simp)
  have lx := parts_lt hG hep.secret (by simp) (by simp)
  have lv : ∀ i, i < 9 → x < v i := fun i hi => (parts_lt hG (hep.each i hi) (by simp) (by simp)).2.1
  dsimp only at lm lw lx
  have l12 : s.nodes.length ≤ s2.nodes.length := hg12.length_le
  have big : ∀ t ∈ allL j m w x v, (s2.nodes.length : Int) < t := by
    intro t ht
    have := lv 0 (by decide); have := lv 1 (by decide); have := lv 2 (by decide); have := lv 3 (by decide); have := lv 4 (by decide); have := lv 5 (by decide); have := lv 6 (by decide); have := lv 7 (by decide); have := lv 8 (by decide)
    simp only [allL, List.mem_cons, List.not_mem_nil, or_false] at ht
    rcases ht with rfl | rfl | rfl | rfl | rfl | rfl | rfl | rfl | rfl | rfl | rfl | rfl | rfl <;> omega
  have kn3 : ∀ t ∈ allL j m w x v, t ≤ s3.nodes.length := by
    intro t ht
    obtain ⟨i, hi, rfl⟩ := List.getElem_of_mem ht
    exact (all_has hj hep i hi).lt.2
  refine ⟨cx, s1, e', s2, s3, j, m, w, x, v, s3, hcx, by unfold term_Store_Text.f; rw [hs2], hf, ?_, ?_, join_again hG hep, ?_, ⟨hG, ?_, ?_, (hep.each 0 (by decide)).1, ?_, ?_, ?_⟩, rfl⟩
  · unfold term_Store_Kdf.f; rw [put_has hG hj]
  · unfold term_Store_Text.f; rw [put_has hG hep.none]
  · intro t ht
    have hb := big t ht
    exact ⟨by omega, fun u hu => by have := h.low u hu; omega⟩
  · rw [Nat.mul_add]; omega
  · have := g3.pre.length_le; omega
  · have l0 := lv 0 (by decide)
    have n3 : NoK s2 (v 0) := noK_high g2.good (by omega)
    unfold schedule_Next.f term_Store_Kdf.f at hf
    rw [Option.bind_some] at hf
    have nj := noK_put n3 ⟨5, ⟨#[106, 111, 105, 110, 101, 114]⟩, init, c⟩ (fun _ => by have := (knownB_iff.1 hin2).2; show init ≠ v 0; omega)
    cases hq : schedule_Join.f (put s2 ⟨5, ⟨#[106, 111, 105, 110, 101, 114]⟩, init, c⟩).2 (put s2 ⟨5, ⟨#[106, 111, 105, 110, 101, 114]⟩, init, c⟩).1 e' cx with
    | none => rw [hq] at hf; cases hf
    | some z =>
      rw [hq, Option.bind_some] at hf
      have hz : z.1 = (put s2 ⟨5, ⟨#[106, 111, 105, 110, 101, 114]⟩, init, c⟩).1 := by
        unfold schedule_Join.f at hq
        exact (congrArg Prod.fst (Option.some.inj hq)).symm
      have hzj : z.1 = j := congrArg Prod.fst (Option.some.inj hf)
      have hqq : schedule_Join.f (put s2 ⟨5, ⟨#[106, 111, 105, 110, 101, 114]⟩, init, c⟩).2 j e' cx = some (j, m, w, x, v 0, v 1, v 2, v 3, v 4, v 5, v 6, v 7, v 8, s3) := by
        rw [show j = (put s2 ⟨5, ⟨#[106, 111, 105, 110, 101, 114]⟩, init, c⟩).1 from by omega, hq, show (put s2 ⟨5, ⟨#[106, 111, 105, 110, 101, 114]⟩, init, c⟩).1 = j from by omega]
        exact hf
      exact join_noK hqq nj (by omega) (by omega) (by omega)
  · intro u hu
    rw [List.mem_append] at hu
    rcases hu with hu | hu
    · have := h.low u hu
      have := g3.pre.length_le
      omega
    · exact kn3 u hu
  · rw [List.length_append, h.lseen]; show 13 * r + 13 = _; omega

def lineK : Nat → Nat
  | 0 => 100
  | d + 1 => lineK d + 10000
theorem line_l0 (l : List Int) (hl : l.length ≤ 30) (hr : rightL l 9 = true) : ∀ (d r : Nat) (s : TS) (init : Int) (seen : List Int), d + r = l.length → LineInv s init seen r → ∀ k, lineK d < k → conclavelaw07_ScheduleLine.l0 k init init seen l (l.length : Int) (r : Int) s = some true
  | 0, r, s, init, seen, h, hi, k, hk => by
    obtain ⟨k, rfl⟩ : ∃ q, k = q + 1 := ⟨k - 1, by omega⟩
    rw [conclavelaw07_ScheduleLine.l0, if_neg (by omega)]
  | d + 1, r, s, init, seen, h, hi, k, hk => by
    have ek : lineK (d + 1) = lineK d + 10000 := rfl
    rw [ek] at hk
    have hk1 : 20 < k := by omega
    obtain ⟨k, rfl⟩ : ∃ q, k = q + 1 := ⟨k - 1, by omega⟩
    have hlt : r < l.length := by omega
    have hc := rightL_known (n := 9) hr _ (List.getElem_mem hlt)
    rw [knownB_iff] at hc
    obtain ⟨cx, s1, e, s2, sj, j, m, w, x, v, s3, q1, q2, q3, q4, q5, q6, q7, q8, _⟩ := line_round hi (by omega) l[r] hc k (by omega)
    rw [conclavelaw07_ScheduleLine.l0, if_pos (by omega), if_pos (by omega), if_pos (by omega), rd_at l hlt, q1, Option.bind_some, q2, Option.bind_some, q3, Option.bind_some]
    dsimp only
    rw [q4, Option.bind_some, q5, Option.bind_some, q6, Option.bind_some]
    dsimp only
    simp only [beq_self_eq_true, Bool.not_true, Bool.or_false, Bool.false_eq_true, if_false]
    rw [show conclavelaw07_all.f j m w x (v 0) (v 1) (v 2) (v 3) (v 4) (v 5) (v 6) (v 7) (v 8) = some (allL j m w x v) from rfl, Option.bind_some]
    have hs := hi.lseen
    refine line_l1 seen l (allL j m w x v) _ _ s3 _ _ _ _ _ _ _ _ _ _ _ _ _ _ _ _ _ _ _ _ _ _ _ _ _ _ (lineK d + 1) (by omega) (by show (13 : Nat) ≤ _; decide) q7 (fun k hk => ?_) 13 k 0 rfl (by rw [hs]; omega)
    rw [wrap_up r (by omega)]
    exact line_l0 l hl hr d (r + 1) s3 (v 0) (seen ++ allL j m w x v) (by omega) q8 k (by omega)
theorem ScheduleLine : conclavelaw07_ScheduleLine.Pure := by
  intro l hl1 hl2 _
  have ql : l.length ≤ 100000000000000000 := by omega
  refine ⟨lineK l.length + l.length + 1 + 1, ?_⟩
  unfold conclavelaw07_ScheduleLine.f
  rw [show conclavelaw07_anchor.f (lineK l.length + l.length + 1 + 1) = some true from rfl, Option.bind_some, if_pos rfl, right_eq 9 l _ ql (by omega), Option.bind_some]
  have hj : conclavelaw07_ScheduleLine.j0 (lineK l.length + l.length + 1 + 1) l true = some true := rfl
  cases hr : rightL l 9 with
  | false => rw [if_neg (by decide)]; exact hj
  | true =>
    rw [if_pos rfl]
    by_cases h1 : (l.length : Int) > 30
    · rw [decide_eq_true h1]; exact hj
    · rw [decide_eq_false h1, conclavelaw07_ScheduleLine.j0, if_neg (by decide), stores9, Option.bind_some]
      have n9 := len9
      refine line_l0 l (by omega) hr l.length 0 (freshes ⟨[], 0⟩ 9) 1 [] (by omega) ⟨good9.good, by omega, by omega, by rw [n9]; rfl, ?_, (fun u hu => by cases hu), rfl⟩ _ (by omega)
      intro n hn h5
      exfalso
      have : ∀ n ∈ (freshes ⟨[], 0⟩ 9).nodes, n.kind ≠ 5 := by decide +kernel
      exact this n hn h5
end Go.Proofs.YteoamlnnaabomaaDoor.Pure
