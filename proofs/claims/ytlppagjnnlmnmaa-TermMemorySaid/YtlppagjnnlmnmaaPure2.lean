/- The algebra of terms, plainly, more of it: what a making leads to; what a right node is; lists. -/
import Derived.Test.YtlppagjnnlmnmaaStore
set_option linter.unusedVariables false
set_option linter.unusedSimpArgs false
namespace Go.Proofs.Ytlppagjnnlmnmaa


theorem known_mono {a b : Nat} (h : a ≤ b) {t : Int} (hk : knownB a t = true) : knownB b t = true := by
  rw [knownB_iff] at *; omega

theorem getN_prefix {L L' : List Nd} (h : L <+: L') {t : Int} (hk : knownB L.length t = true) : getN L' t = getN L t := by
  obtain ⟨r, rfl⟩ := h
  have hk' := known_mono (b := (L ++ r).length) (by simp) hk
  unfold getN
  rw [if_pos hk, if_pos hk']
  rw [knownB_iff] at hk
  unfold nodeAt
  rw [List.getD_eq_getElem?_getD, List.getD_eq_getElem?_getD, List.getElem?_append_left (by omega)]

theorem getN_new {L : List Nd} (n : Nd) (h : mkT L n ≠ 0) : knownB (mkL L n).length (mkT L n) = true ∧ getN (mkL L n) (mkT L n) = n := by
  rcases mk_cases L n with ⟨k, hk, e, h1, _, h3⟩ | ⟨_, _, h1, _, h3⟩ | ⟨_, _, _, h1, _, h3⟩ | ⟨_, _, _, h1, _, h3⟩
  · rw [h1, h3]
    have hb : knownB L.length ((k : Int) + 1) = true := by rw [knownB_iff]; omega
    exact ⟨hb, by unfold getN; rw [if_pos hb, nodeAt_get L hk, e]⟩
  · exact absurd h1 h
  · exact absurd h1 h
  · rw [h1, h3]
    have hlt : L.length < (L ++ [n]).length := by simp
    have hb : knownB (L ++ [n]).length ((L.length : Int) + 1) = true := by rw [knownB_iff]; simp; omega
    exact ⟨hb, by unfold getN; rw [if_pos hb, nodeAt_get _ hlt]; simp⟩

theorem fresh_ok {L : List Nd} {k : Nat} (hL : L.length < 262144) (hk : k ≤ 1000000) : mkT L (freshN k) ≠ 0 ∧ freshD L k = (k : Int) + 1 ∧ (mkL L (freshN k)).length ≤ L.length + 1 := by
  have hT : mkT L (freshN k) ≠ 0 ∧ (mkL L (freshN k)).length ≤ L.length + 1 := by
    rcases mk_cases L (freshN k) with ⟨j, hj, e, h1, _, h3⟩ | ⟨_, hr, _⟩ | ⟨_, _, h, _⟩ | ⟨_, _, _, h1, _, h3⟩
    · rw [h1, h3]; omega
    · exfalso
      unfold rightB at hr
      rw [if_pos (show (freshN k).kind = 1 from rfl)] at hr
      have : (ByteArray.empty).toList = [] := by rw [ByteArray.toList_eq]; rfl
      have e : (decide (1 ≤ (freshN (k : Int)).a) && decide ((freshN (k : Int)).a ≤ 1099511627776) && (decide ((freshN (k : Int)).label.toList = []) && decide ((freshN (k : Int)).b = 0))) = true := by
        rw [show (freshN (k : Int)).a = (k : Int) + 1 from rfl, show (freshN (k : Int)).b = 0 from rfl, show (freshN (k : Int)).label = ByteArray.empty from rfl, this]
        simp; omega
      rw [e] at hr; cases hr
    · omega
    · rw [h1, h3]; simp; omega
  exact ⟨hT.1, by unfold freshD; rw [if_neg hT.1], hT.2⟩

/-- What a right node's parts are. -/
structure Low (n : Nd) (t : Int) : Prop where
  k1 : 1 ≤ n.kind
  k9 : n.kind ≤ 9
  parts : n.kind ≠ 1 → n.kind ≠ 2 → (1 ≤ n.a ∧ n.a < t ∧ 0 ≤ n.b ∧ n.b < t)

theorem right_low {l : List Nd} {n : Nd} (h : rightB l n = true) : Low n ((l.length : Int) + 1) := by
  unfold rightB at h
  by_cases h1 : n.kind = 1
  · exact ⟨by omega, by omega, fun h => absurd h1 h⟩
  rw [if_neg h1] at h
  unfold rightO at h
  simp only [Bool.and_eq_true, Bool.not_eq_true', Bool.and_eq_false_iff, decide_eq_false_iff_not, Bool.or_eq_true, decide_eq_true_eq, Bool.not_eq_false', knownB_iff, Classical.not_not, Int.not_lt, Int.not_le] at h
  obtain ⟨⟨⟨hlab, hA, hB⟩, hk, hk2⟩, _⟩ := h
  have hT : partsT n.kind = 0 ∨ partsT n.kind = 1 ∨ partsT n.kind = 2 := by have := partsT_range n.kind; omega
  have hL : 0 ≤ partsL n.kind := by have : (0 : Int) ≤ n.label.size := by omega
                                    omega
  have hkind : n.kind = 2 ∨ (n.kind = 3 ∨ n.kind = 7 ∨ n.kind = 8 ∨ n.kind = 9) ∨ (n.kind = 4 ∨ n.kind = 5) ∨ n.kind = 6 := by
    unfold partsL at hL
    by_cases a : n.kind = 2
    · exact .inl a
    rw [if_neg a] at hL
    by_cases b : n.kind = 3 ∨ n.kind = 7 ∨ n.kind = 8 ∨ n.kind = 9
    · exact .inr (.inl b)
    rw [if_neg b] at hL
    by_cases c : n.kind = 4 ∨ n.kind = 5
    · exact .inr (.inr (.inl c))
    rw [if_neg c] at hL
    by_cases d : n.kind = 6
    · exact .inr (.inr (.inr d))
    rw [if_neg d] at hL; omega
  refine ⟨by omega, by omega, fun _ h2 => ?_⟩
  have hT1 : 1 ≤ partsT n.kind := by unfold partsT; rcases hkind with h | (h | h | h | h) | (h | h) | h <;> simp [h] <;> omega
  have ha : 1 ≤ n.a ∧ n.a ≤ l.length := by rcases hk with h | h; omega; exact h
  rcases hB with h | h
  · have hT2 : partsT n.kind = 2 := by have := partsT_range n.kind; omega
    have hb : 1 ≤ n.b ∧ n.b ≤ l.length := by rcases hk2 with h | h; omega; exact h
    omega
  · omega

theorem wf_low {L : List Nd} (h : WF L) {i : Nat} (hi : i < L.length) : Low L[i] ((i : Int) + 1) := by
  have := right_low (h i hi)
  rwa [List.length_take, Nat.min_eq_left (by omega)] at this

/-- What is right to make and has room comes to be: its number is known, it is what it was made of, and the rest stays. -/
theorem mk_new {L : List Nd} (n : Nd) (hr : rightB L n = true) (hL : L.length < 262144) : knownB (mkL L n).length (mkT L n) = true ∧ getN (mkL L n) (mkT L n) = n ∧ (mkL L n).length ≤ L.length + 1 := by
  have h0 : mkT L n ≠ 0 := by
    rcases mk_cases L n with ⟨k, hk, e, h1, _⟩ | ⟨_, h1, _⟩ | ⟨_, _, h1, _⟩ | ⟨_, _, _, h1, _⟩
    · omega
    · rw [hr] at h1; cases h1
    · omega
    · omega
  refine ⟨(getN_new n h0).1, (getN_new n h0).2, ?_⟩
  rcases mk_cases L n with ⟨_, _, _, _, _, e⟩ | ⟨_, _, _, _, e⟩ | ⟨_, _, _, _, _, e⟩ | ⟨_, _, _, _, _, e⟩ <;> rw [e] <;> simp

theorem getN_right {L : List Nd} (h : WF L) {t : Int} (hk : knownB L.length t = true) : ∃ i, ∃ hi : i < L.length, t = (i : Int) + 1 ∧ getN L t = L[i] ∧ rightB (L.take i) L[i] = true := by
  have hr : 1 ≤ t ∧ t ≤ L.length := by simpa [knownB] using hk
  obtain ⟨i, rfl⟩ : ∃ i : Nat, t = (i : Int) + 1 := ⟨(t - 1).toNat, by omega⟩
  have hi : i < L.length := by omega
  exact ⟨i, hi, rfl, by unfold getN; rw [if_pos hk, nodeAt_get L hi], h i hi⟩

theorem getN_inj {L : List Nd} (hw : WF L) (hn : L.Nodup) {s t : Int} (hs : knownB L.length s = true) (ht : knownB L.length t = true) (h : getN L s = getN L t) : s = t := by
  obtain ⟨i, hi, rfl, e1, _⟩ := getN_right hw hs
  obtain ⟨j, hj, rfl, e2, _⟩ := getN_right hw ht
  rw [e1, e2] at h
  rw [(List.getElem_inj hn).1 h]

/-- A right node of these kinds has no label, nor a second part if it is a public key. -/
theorem right_plain {L : List Nd} {n : Nd} (h : rightB L n = true) (hk : n.kind = 6 ∨ n.kind = 9) : n.label = ByteArray.empty ∧ (n.kind = 6 → n.b = 0) := by
  unfold rightB at h
  rw [if_neg (by omega)] at h
  unfold rightO at h
  simp only [Bool.and_eq_true, Bool.not_eq_true', Bool.and_eq_false_iff, decide_eq_false_iff_not, Bool.or_eq_true, decide_eq_true_eq, Bool.not_eq_false', Classical.not_not, Int.not_lt, Int.not_le] at h
  obtain ⟨⟨⟨hlab, hA, hB⟩, _⟩, _⟩ := h
  have hl : partsL n.kind = 0 := by unfold partsL; rcases hk with h | h <;> simp [h]
  rw [hl] at hlab
  refine ⟨?_, fun h6 => ?_⟩
  · have : n.label.size = 0 := by omega
    have h2 : n.label.data = #[] := Array.eq_empty_of_size_eq_zero this
    rcases hx : n.label with ⟨d⟩
    rw [hx] at h2
    simp at h2
    rw [h2]; rfl
  · have : partsT n.kind = 1 := by unfold partsT; simp [h6]
    omega

theorem right_one {L : List Nd} {k : Int} (hk : knownB L.length k = true) : rightB L ⟨6, ByteArray.empty, k, 0⟩ = true := by
  simp [rightB, rightO, partsL, partsT, hk]

theorem right_two {L : List Nd} {q k p : Int} (hq : q = 3 ∨ q = 7 ∨ q = 9) (hk : knownB L.length k = true) (hp : knownB L.length p = true) : rightB L ⟨q, ByteArray.empty, k, p⟩ = true := by
  rcases hq with rfl | rfl | rfl <;> simp [rightB, rightO, partsL, partsT, hk, hp]

theorem right_box {L : List Nd} {k p : Int} (hk : knownB L.length k = true) (hp : knownB L.length p = true) (h6 : (getN L k).kind = 6) : rightB L ⟨8, ByteArray.empty, k, p⟩ = true := by
  unfold getN at h6
  rw [if_pos hk] at h6
  simp [rightB, rightO, partsL, partsT, hk, hp, h6]

theorem getN_keep {L L' : List Nd} (h : L <+: L') {t : Int} {n : Nd} (hk : knownB L.length t = true ∧ getN L t = n) : knownB L'.length t = true ∧ getN L' t = n :=
  ⟨known_mono h.length_le hk.1, (getN_prefix h hk.1).trans hk.2⟩

theorem mkL_grow (L : List Nd) (n : Nd) : (mkL L n).length ≤ L.length + 1 := by
  rcases mk_cases L n with ⟨_, _, _, _, _, e⟩ | ⟨_, _, _, _, e⟩ | ⟨_, _, _, _, _, e⟩ | ⟨_, _, _, _, _, e⟩ <;> rw [e] <;> simp


/-- What List makes of items: from the back. -/
def listM (L : List Nd) : List Int → Int × List Nd
  | [] => (mkT L ⟨2, ByteArray.empty, 0, 0⟩, mkL L ⟨2, ByteArray.empty, 0, 0⟩)
  | x :: xs => (mkT (listM L xs).2 ⟨3, ByteArray.empty, x, (listM L xs).1⟩, mkL (listM L xs).2 ⟨3, ByteArray.empty, x, (listM L xs).1⟩)
def allKnown (L : List Nd) (xs : List Int) : Bool := xs.all (knownB L.length)
def listT (L : List Nd) (xs : List Int) : Int := if allKnown L xs = true then (listM L xs).1 else 0
def listL (L : List Nd) (xs : List Int) : List Nd := if allKnown L xs = true then (listM L xs).2 else L

/-- What Items reads, with so much fuel. -/
def itemsF (L : List Nd) : Nat → Int → Option (List Int)
  | 0, _ => none
  | n + 1, t => if knownB L.length t = true ∧ getN L t = ⟨2, ByteArray.empty, 0, 0⟩ then some []
    else if knownB L.length t = true ∧ (getN L t).kind = 3 then (itemsF L n (getN L t).b).map ((getN L t).a :: ·) else none
def itemsOf (L : List Nd) (t : Int) : Option (List Int) := itemsF L (L.length + 1) t

theorem listM_prefix (L : List Nd) : ∀ xs, L <+: (listM L xs).2
  | [] => mkL_prefix _ _
  | x :: xs => (listM_prefix L xs).trans (mkL_prefix _ _)
theorem listM_grow (L : List Nd) : ∀ xs, (listM L xs).2.length ≤ L.length + xs.length + 1
  | [] => mkL_grow _ _
  | x :: xs => by have h1 := listM_grow L xs; have h2 := mkL_grow (listM L xs).2 ⟨3, ByteArray.empty, x, (listM L xs).1⟩; simp only [listM, List.length_cons]; omega

/-- What was read stays what is read. -/
theorem itemsF_mono {L L' : List Nd} (h : L <+: L') : ∀ {n : Nat} {t : Int} {xs : List Int}, knownB L.length t = true → itemsF L n t = some xs → itemsF L' n t = some xs
  | 0, _, _, _, e => by simp [itemsF] at e
  | n + 1, t, xs, hk, e => by
    unfold itemsF at e ⊢
    rw [getN_prefix h hk]
    by_cases c1 : knownB L.length t = true ∧ getN L t = ⟨2, ByteArray.empty, 0, 0⟩
    · rw [if_pos c1] at e
      rw [if_pos ⟨known_mono h.length_le hk, c1.2⟩]; exact e
    · rw [if_neg c1] at e
      rw [if_neg (fun c => c1 ⟨hk, c.2⟩)]
      by_cases c2 : knownB L.length t = true ∧ (getN L t).kind = 3
      · rw [if_pos c2] at e
        rw [if_pos ⟨known_mono h.length_le hk, c2.2⟩]
        cases e2 : itemsF L n (getN L t).b with
        | none => rw [e2] at e; simp at e
        | some ys =>
          rw [e2] at e
          have hb : knownB L.length (getN L t).b = true := by
            cases n with
            | zero => simp [itemsF] at e2
            | succ n => unfold itemsF at e2; by_cases q : knownB L.length (getN L t).b = true; exact q; (rw [if_neg (fun c => q c.1), if_neg (fun c => q c.1)] at e2; cases e2)
          rw [itemsF_mono h hb e2]; exact e
      · rw [if_neg c2] at e; cases e

/-- Lists are read back, wherever there is room. -/
theorem listM_items {L : List Nd} : ∀ {xs : List Int}, (∀ x ∈ xs, knownB L.length x = true) → L.length + xs.length + 1 ≤ 262144 →
    knownB (listM L xs).2.length (listM L xs).1 = true ∧ ∀ n, itemsF (listM L xs).2 (xs.length + 1 + n) (listM L xs).1 = some xs
  | [], _, hL => by
    have h := mk_new (L := L) ⟨2, ByteArray.empty, 0, 0⟩ (by rfl) (by simp at hL; omega)
    refine ⟨h.1, fun n => ?_⟩
    show itemsF (mkL L ⟨2, ByteArray.empty, 0, 0⟩) (0 + 1 + n) (mkT L ⟨2, ByteArray.empty, 0, 0⟩) = some []
    rw [show 0 + 1 + n = n + 1 by omega]
    unfold itemsF
    rw [if_pos ⟨h.1, h.2.1⟩]
  | x :: xs, hx, hL => by
    have hxs : ∀ y ∈ xs, knownB L.length y = true := fun y hy => hx y (List.mem_cons_of_mem _ hy)
    obtain ⟨h1, h2⟩ := listM_items hxs (by simp at hL; omega)
    have hp := listM_prefix L xs
    have hg := listM_grow L xs
    have hr := right_two (q := 3) (.inl rfl) (known_mono hp.length_le (hx x (List.mem_cons_self ..))) h1
    have h := mk_new _ hr (by simp at hL; omega)
    refine ⟨h.1, fun n => ?_⟩
    have hm := mkL_prefix (listM L xs).2 ⟨3, ByteArray.empty, x, (listM L xs).1⟩
    show itemsF (mkL (listM L xs).2 ⟨3, ByteArray.empty, x, (listM L xs).1⟩) ((xs.length + 1) + 1 + n) (mkT (listM L xs).2 ⟨3, ByteArray.empty, x, (listM L xs).1⟩) = some (x :: xs)
    rw [show (xs.length + 1) + 1 + n = (xs.length + 1 + n) + 1 by omega]
    unfold itemsF
    rw [if_neg (by rw [h.2.1]; simp), if_pos ⟨h.1, by rw [h.2.1]⟩, h.2.1]
    dsimp only
    rw [itemsF_mono hm h1 (h2 n)]
    rfl

end Go.Proofs.Ytlppagjnnlmnmaa
