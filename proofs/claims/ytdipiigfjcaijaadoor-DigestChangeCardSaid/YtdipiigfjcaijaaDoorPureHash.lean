/- What this claim reaches of a longer text of this session. -/
import Derived.Test.YtdipiigfjcaijaaDoorPureList
import Derived.Test.YtdipiigfjcaijaaDoorPureVert
import Derived.Test.YtdipiigfjcaijaaDoorPDix4
set_option linter.unusedVariables false
set_option linter.unusedSimpArgs false
namespace Go.Proofs.YtdipiigfjcaijaaDoor.Pure
open Go.RowKit Go.Proofs.YtdipiigfjcaijaaDoor Go.Proofs.YtdipiigfjcaijaaDoor.PDi Go.Proofs.YtdipiigfjcaijaaDoorW.PrintWords
def pl (k j : Nat) : Nat := 2 ^ (k + 1) * j + 2 ^ k - 1
theorem pl_zero (j : Nat) : pl 0 j = 2 * j := by unfold pl; simp
theorem children_fin : ∀ (m : Fin 6) (k : Fin 5) (j : Fin 32), pl (k.val + 1) j.val < 2 * 2 ^ m.val - 1 → heap_Children.f ((pl (k.val + 1) j.val : Nat) : Int) ((2 ^ m.val : Nat) : Int) = some (((pl k.val (2 * j.val) : Nat) : Int), ((pl k.val (2 * j.val + 1) : Nat) : Int), 0) ∧ pl k.val (2 * j.val) < 2 * 2 ^ m.val - 1 ∧ pl k.val (2 * j.val + 1) < 2 * 2 ^ m.val - 1 := by decide +kernel
theorem leaf_fin : ∀ (m : Fin 6) (j : Fin 32), 2 * j.val < 2 * 2 ^ m.val - 1 → heap_Children.f ((2 * j.val : Nat) : Int) ((2 ^ m.val : Nat) : Int) = some (0, 0, 30) := by decide +kernel
theorem len_le {m : Nat} (hm : m ≤ 5) : 2 * 2 ^ m - 1 ≤ 63 := by
  have : ∀ m : Fin 6, 2 * 2 ^ m.val - 1 ≤ 63 := by decide
  exact this ⟨m, by omega⟩
theorem pl_ge (k j : Nat) : 2 * j ≤ pl k j := by
  unfold pl
  have h1 : 1 ≤ 2 ^ k := Nat.one_le_two_pow
  have h2 : 2 * j ≤ 2 ^ (k + 1) * j := by
    rw [Nat.pow_succ, Nat.mul_comm (2 ^ k) 2, Nat.mul_assoc]
    exact Nat.mul_le_mul_left 2 (Nat.le_mul_of_pos_left j (by omega))
  omega
theorem children_at {m k j : Nat} (hm : m ≤ 5) (hk : k < 5) (h : pl (k + 1) j < 2 * 2 ^ m - 1) : heap_Children.f ((pl (k + 1) j : Nat) : Int) ((2 ^ m : Nat) : Int) = some (((pl k (2 * j) : Nat) : Int), ((pl k (2 * j + 1) : Nat) : Int), 0) ∧ pl k (2 * j) < 2 * 2 ^ m - 1 ∧ pl k (2 * j + 1) < 2 * 2 ^ m - 1 := by
  have := pl_ge (k + 1) j
  have := len_le hm
  exact children_fin ⟨m, by omega⟩ ⟨k, hk⟩ ⟨j, by omega⟩ h
theorem leaf_at {m j : Nat} (hm : m ≤ 5) (h : 2 * j < 2 * 2 ^ m - 1) : heap_Children.f ((2 * j : Nat) : Int) ((2 ^ m : Nat) : Int) = some (0, 0, 30) := by
  have := len_le hm
  exact leaf_fin ⟨m, by omega⟩ ⟨j, by omega⟩ h
theorem pl_odd (k j : Nat) : pl (k + 1) j % 2 = 1 := by
  unfold pl
  have h1 : 1 ≤ 2 ^ k := Nat.one_le_two_pow
  have e1 : 2 ^ (k + 1) = 2 * 2 ^ k := by rw [Nat.pow_succ, Nat.mul_comm]
  have e2 : 2 ^ (k + 1 + 1) * j = 2 * (2 ^ (k + 1) * j) := by rw [Nat.pow_succ 2 (k + 1), Nat.mul_comm (2 ^ (k + 1)) 2, Nat.mul_assoc]
  omega
def Sm (s : TS) (t v : Int) : Prop := (v ≠ 0 ∧ t = v) ∨ (v = 0 ∧ Has s t ⟨2, ⟨#[]⟩, 0, 0⟩)
def Atoms (s : TS) : Prop := ∀ v : Int, 1 ≤ v → v ≤ 90 → ∃ n, Has s v n ∧ n.kind = 1
theorem Atoms.grow {s s' : TS} {k : Nat} (h : Atoms s) (g : Grow s s' k) : Atoms s' := fun v a b => by
  obtain ⟨n, h1, h2⟩ := h v a b
  exact ⟨n, g.has h1, h2⟩
theorem Atoms.known {s : TS} (h : Atoms s) {v : Int} (a : 1 ≤ v) (b : v ≤ 90) : knownB s.nodes.length v = true := by
  obtain ⟨n, h1, _⟩ := h v a b
  exact h1.1
theorem Sm.grow {s s' : TS} {k : Nat} {t v : Int} (h : Sm s t v) (g : Grow s s' k) : Sm s' t v := h.imp id fun ⟨a, b⟩ => ⟨a, g.has b⟩
theorem Sm.known {s : TS} {t v : Int} (h : Sm s t v) (ha : Atoms s) (h0 : 0 ≤ v) (h9 : v ≤ 90) : knownB s.nodes.length t = true := by
  rcases h with ⟨hv, rfl⟩ | ⟨_, h⟩
  · exact ha.known (by omega) h9
  · exact h.1
theorem Sm.iff {s : TS} (hg : Good s) (ha : Atoms s) {t v t' v' : Int} (h : Sm s t v) (k : Sm s t' v') (h0 : 0 ≤ v) (h9 : v ≤ 90) (h0' : 0 ≤ v') (h9' : v' ≤ 90) : t = t' ↔ v = v' := by
  rcases h with ⟨hv, rfl⟩ | ⟨hv, h⟩
  · rcases k with ⟨hv', rfl⟩ | ⟨hv', k⟩
    · exact Iff.rfl
    · obtain ⟨n, hn, hk⟩ := ha t (by omega) h9
      constructor
      · rintro rfl
        have := hn.node k
        rw [this] at hk
        simp at hk
      · intro e; omega
  · rcases k with ⟨hv', rfl⟩ | ⟨hv', k⟩
    · obtain ⟨n, hn, hk⟩ := ha t' (by omega) h9'
      constructor
      · rintro rfl
        have := hn.node h
        rw [this] at hk
        simp at hk
      · intro e; omega
    · rw [hv, hv']
      exact ⟨fun _ => rfl, fun _ => h.num hg k⟩
theorem some_ok {s : TS} (hg : Good s) (ha : Atoms s) {v : Int} (h0 : 0 ≤ v) (h9 : v ≤ 90) (hl : s.nodes.length < 200000) : ∃ t s', digest_some.f s v = some (t, s') ∧ Grow s s' 1 ∧ Sm s' t v := by
  unfold digest_some.f
  by_cases hv : v = 0
  · rw [if_pos hv]
    obtain ⟨g, h⟩ := text_ok hg ⟨#[]⟩ (by decide) (by omega)
    exact ⟨_, _, rfl, g, .inr ⟨hv, h⟩⟩
  · rw [if_neg hv]
    exact ⟨v, s, rfl, ⟨hg, List.prefix_refl _, by omega⟩, .inl ⟨hv, rfl⟩⟩
def I64' (a : Int) : Prop := -9223372036854775808 ≤ a ∧ a ≤ 9223372036854775807
structure NumL (s : TS) (ps xs : List Int) : Prop where
  len : ps.length = xs.length
  each : ∀ i (h : i < ps.length) (h' : i < xs.length), Has s ps[i] ⟨2, num xs[i], 0, 0⟩
theorem NumL.grow {s s' : TS} {k : Nat} {ps xs : List Int} (h : NumL s ps xs) (g : Grow s s' k) : NumL s' ps xs := ⟨h.len, fun i a b => g.has (h.each i a b)⟩
theorem NumL.snoc {s : TS} {ps xs : List Int} {p x : Int} (h : NumL s ps xs) (k : Has s p ⟨2, num x, 0, 0⟩) : NumL s (ps ++ [p]) (xs ++ [x]) := by
  refine ⟨by simp [h.len], fun i a b => ?_⟩
  rcases Nat.lt_or_ge i ps.length with c | c
  · rw [List.getElem_append_left c, List.getElem_append_left (by rw [← h.len]; exact c)]; exact h.each i c _
  · have hl := h.len
    simp at a
    have e : i = ps.length := by omega
    subst e
    simp [hl]
    exact k
theorem NumL.iff {s : TS} (hg : Good s) {ps xs qs ys : List Int} (h : NumL s ps xs) (k : NumL s qs ys) (hx : ∀ x ∈ xs, I64' x) (hy : ∀ x ∈ ys, I64' x) : ps = qs ↔ xs = ys := by
  constructor
  · rintro rfl
    refine List.ext_getElem (by rw [← h.len, k.len]) fun i a b => ?_
    have e := (h.each i (by rw [h.len]; exact a) a).node (k.each i (by rw [k.len]; exact b) b)
    simp only [Nd.mk.injEq, true_and, and_true] at e
    exact num_inj (hx _ (List.getElem_mem a)) (hy _ (List.getElem_mem b)) e
  · rintro rfl
    refine List.ext_getElem (by rw [h.len, k.len]) fun i a b => ?_
    exact (h.each i a (by rw [← h.len]; exact a)).num hg (k.each i b _)
abbrev leafB : ByteArray := ⟨#[108, 101, 97, 102]⟩
abbrev blankB : ByteArray := ⟨#[98, 108, 97, 110, 107]⟩
abbrev nodeB : ByteArray := ⟨#[110, 111, 100, 101]⟩
def HLeaf (s : TS) (v : S33) (j : Nat) (h : Int) : Prop :=
  (v.f0 = true ∧ ∃ p q a b c t, Has s p ⟨2, num (j : Int), 0, 0⟩ ∧ Has s q ⟨2, num v.f2, 0, 0⟩ ∧ Sm s a v.f1 ∧ Sm s b v.f3 ∧ Sm s c v.f4 ∧ IsL s t [p, q, a, b, c] ∧ Has s h ⟨4, leafB, t, 0⟩) ∨
  (v.f0 = false ∧ ∃ p t, Has s p ⟨2, num (j : Int), 0, 0⟩ ∧ IsL s t [p] ∧ Has s h ⟨4, leafB, t, 0⟩)
def HNode (s : TS) (v : S33) (a b h : Int) : Prop :=
  (v.f0 = true ∧ ∃ ps ls m f t, NumL s ps v.f5 ∧ IsL s ls ps ∧ Sm s m v.f1 ∧ Sm s f v.f4 ∧ IsL s t [m, f, ls, a, b] ∧ Has s h ⟨4, nodeB, t, 0⟩) ∨
  (v.f0 = false ∧ ∃ t, IsL s t [a, b] ∧ Has s h ⟨4, blankB, t, 0⟩)
def HT (s : TS) (l : List S33) : Nat → Nat → Int → Prop
  | 0, j, h => HLeaf s (VX l (2 * j)) j h
  | k + 1, j, h => ∃ a b, HT s l k (2 * j) a ∧ HT s l k (2 * j + 1) b ∧ HNode s (VX l (pl (k + 1) j)) a b h
theorem HLeaf.grow {s s' : TS} {n : Nat} {v : S33} {j : Nat} {h : Int} (H : HLeaf s v j h) (g : Grow s s' n) : HLeaf s' v j h := by
  rcases H with ⟨h0, p, q, a, b, c, t, h1, h2, h3, h4, h5, h6, h7⟩ | ⟨h0, p, t, h1, h2, h3⟩
  · exact .inl ⟨h0, p, q, a, b, c, t, g.has h1, g.has h2, h3.grow g, h4.grow g, h5.grow g, h6.grow g, g.has h7⟩
  · exact .inr ⟨h0, p, t, g.has h1, h2.grow g, g.has h3⟩
theorem HNode.grow {s s' : TS} {n : Nat} {v : S33} {a b h : Int} (H : HNode s v a b h) (g : Grow s s' n) : HNode s' v a b h := by
  rcases H with ⟨h0, ps, ls, m, f, t, h1, h2, h3, h4, h5, h6⟩ | ⟨h0, t, h1, h2⟩
  · exact .inl ⟨h0, ps, ls, m, f, t, h1.grow g, h2.grow g, h3.grow g, h4.grow g, h5.grow g, g.has h6⟩
  · exact .inr ⟨h0, t, h1.grow g, g.has h2⟩
theorem HT.grow {s s' : TS} {n : Nat} {l : List S33} (g : Grow s s' n) : ∀ {k j : Nat} {h : Int}, HT s l k j h → HT s' l k j h
  | 0, _, _, H => HLeaf.grow H g
  | k + 1, _, _, ⟨a, b, h1, h2, h3⟩ => ⟨a, b, HT.grow g h1, HT.grow g h2, h3.grow g⟩
theorem HT.known {s : TS} {l : List S33} : ∀ {k j : Nat} {h : Int}, HT s l k j h → knownB s.nodes.length h = true
  | 0, _, _, H => by
    rcases H with ⟨h0, p, q, a, b, c, t, h1, h2, h3, h4, h5, h6, h7⟩ | ⟨h0, p, t, h1, h2, h3⟩
    · exact h7.1
    · exact h3.1
  | k + 1, _, _, ⟨a, b, h1, h2, h3⟩ => by
    rcases h3 with ⟨h0, ps, ls, m, f, t, h1, h2, h3, h4, h5, h6⟩ | ⟨h0, t, h1, h2⟩
    · exact h6.1
    · exact h2.1
def hB : Nat → Nat
  | 0 => 80
  | k + 1 => 2 * hB k + 160
theorem hB_le : ∀ k, k ≤ 5 → hB k ≤ 10000 := by
  have : ∀ k : Fin 6, hB k.val ≤ 10000 := by decide
  exact fun k hk => this ⟨k, by omega⟩
theorem wf_of {l : List S33} (hw : WfV l) {x : Nat} (hx : x < l.length) : I64' (VX l x).f2 ∧ ∀ y ∈ (VX l x).f5, I64' y := by
  have hmem : VX l x ∈ l := by
    unfold VX rd_T33
    rw [Int.toNat_natCast, List.getD_eq_getElem?_getD, List.getElem?_eq_getElem hx]
    exact List.getElem_mem hx
  have h := hw.each _ hmem
  exact ⟨(Lit.wf_int_iff .i64 _).1 h.2.1, fun y hy => (Lit.wf_int_iff .i64 _).1 (h.2.2.2.2.2 y hy)⟩
theorem late_loop (a b : Int) (late : List Int) (hi : ∀ y ∈ late, I64' y) (hl : late.length ≤ 64) (F0 : Bool) (F1 F2 F3 F4 : Int) (F5 : List Int) : ∀ (d i : Nat) (acc : List Int) (s : TS), d + i = late.length → Good s → s.nodes.length + d < 200000 → NumL s acc (late.take i) →
    ∃ ps s', Grow s s' d ∧ NumL s' ps late ∧ ∀ k, digest_Hash.l0 (k + d) a b acc late (late.length : Int) (i : Int) s F0 F1 F2 F3 F4 F5 = digest_Hash.l0 k a b ps late (late.length : Int) (late.length : Int) s' F0 F1 F2 F3 F4 F5
  | 0, i, acc, s, hd, hg, hn, ha => by
    have e : i = late.length := by omega
    subst e
    rw [List.take_length] at ha
    exact ⟨acc, s, .refl hg, ha, fun k => rfl⟩
  | d + 1, i, acc, s, hd, hg, hn, ha => by
    have hil : i < late.length := by omega
    have hI := hi _ (List.getElem_mem hil)
    obtain ⟨g1, h1⟩ := number_ok hg late[i] hI.1 hI.2 (by omega)
    have hlen := ha.len
    rw [List.length_take, Nat.min_eq_left (by omega)] at hlen
    obtain ⟨ps, s', g2, h2, h3⟩ := late_loop a b late hi hl F0 F1 F2 F3 F4 F5 d (i + 1) (acc ++ [(put s ⟨2, num late[i], 0, 0⟩).1]) (put s ⟨2, num late[i], 0, 0⟩).2 (by omega) g1.good (by have := g1.len; omega) (by
      rw [List.take_succ_eq_append_getElem hil]
      exact (ha.grow g1).snoc h1)
    refine ⟨ps, s', ?_, h2, fun k => ?_⟩
    · have := g1.trans g2
      rwa [Nat.add_comm] at this
    · rw [show k + (d + 1) = (k + d) + 1 by omega, digest_Hash.l0, if_pos (by omega), if_pos (by omega), if_pos (by omega), rd_at late hil, number_eq s _ hI.1 hI.2, Option.bind_some, if_pos (by omega), wrap_up i (by omega)]
      exact h3 k
theorem leaves_at {l : List S33} {m : Nat} (hR : RightV l m) : tree_Leaves.f l = some ((2 ^ m : Nat) : Int) := by
  have h1 : 1 ≤ 2 ^ m := Nat.one_le_two_pow
  have h2 := len_le hR.hm
  have h3 := hR.len
  unfold tree_Leaves.f
  rw [wrap_id (a := (l.length : Int) + 1) (by omega), Int.tdiv_eq_ediv_of_nonneg (by omega), wrap_id (by omega)]
  congr 1
  omega
theorem tdiv_two (j : Nat) (hj : j ≤ 100) : wrap64 (Int.tdiv ((2 * j : Nat) : Int) 2) = (j : Int) := by
  rw [Int.tdiv_eq_ediv_of_nonneg (by omega), wrap_id (by omega)]; omega
theorem thash_ok {l : List S33} (hw : WfV l) {m : Nat} (hR : RightV l m) : ∀ (k j : Nat), k ≤ 5 → pl k j < l.length → ∀ (s : TS), Good s → Atoms s → s.nodes.length + hB k < 100000 →
    ∃ h s', Grow s s' (hB k) ∧ HT s' l k j h ∧ ∀ q, 400 + 4 * k ≤ q → digest_Hash.f q s l ((pl k j : Nat) : Int) = some (h, s')
  | 0, j, hk, hj, s, hg, ha, hn => by
    have hlen := hR.len
    have h63 := len_le hR.hm
    rw [pl_zero] at hj ⊢
    have hnum := hR.num _ hj
    have hok := hR.ok _ hj
    have hwf := wf_of hw hj
    have hj2 : j ≤ 100 := by omega
    simp only [hB] at hn ⊢
    obtain ⟨g1, h1⟩ := number_ok hg (j : Int) (by omega) (by omega) (by omega)
    have step : ∀ q, digest_Hash.f (q + 1 + 1) s l ((2 * j : Nat) : Int) = (if (VX l (2 * j)).f0 = true then ((digest_Number.f s (j : Int)).bind fun bt161 => ((digest_Number.f bt161.2 (VX l (2 * j)).f2).bind fun bt163 => ((digest_some.f bt163.2 (VX l (2 * j)).f1).bind fun bt165 => ((digest_some.f bt165.2 (VX l (2 * j)).f3).bind fun bt167 => ((digest_some.f bt167.2 (VX l (2 * j)).f4).bind fun bt169 => ((term_Store_List.f q bt169.2 ([bt161.1, bt163.1, bt165.1, bt167.1, bt169.1] : List Int)).bind fun bt174 => ((term_Store_Hash.f bt174.2 leafB bt174.1).bind fun bt176 => (some (bt176.1, bt176.2)))))))))
        else ((digest_Number.f s (j : Int)).bind fun bt152 => ((term_Store_List.f q bt152.2 ([bt152.1] : List Int)).bind fun bt157 => ((term_Store_Hash.f bt157.2 leafB bt157.1).bind fun bt159 => (some (bt159.1, bt159.2)))))) := fun q => by
      rw [digest_Hash.f, if_neg (by omega), decide_eq_false (by omega : ¬ ((2 * j : Nat) : Int) ≥ (l.length : Int)), digest_Hash.j0, if_neg (by decide), if_pos (by omega), if_pos (by omega), leaves_at hR, Option.bind_some, leaf_at hR.hm (by omega), Option.bind_some, if_neg (by decide), tdiv_two j hj2]
    by_cases hf : (VX l (2 * j)).f0 = true
    · obtain ⟨g2, h2⟩ := number_ok g1.good (VX l (2 * j)).f2 hwf.1.1 hwf.1.2 (by have := g1.len; omega)
      have g12 := g1.trans g2
      have n12 := g12.len
      obtain ⟨a, s3, e3, g3, h3⟩ := some_ok g2.good (ha.grow g12) (v := (VX l (2 * j)).f1) hnum.1 hnum.2.1 (by omega)
      have g13 := g12.trans g3
      have n13 := g13.len
      obtain ⟨b, s4, e4, g4, h4⟩ := some_ok g3.good (ha.grow g13) (v := (VX l (2 * j)).f3) hnum.2.2.1 hnum.2.2.2.1 (by omega)
      have g14 := g13.trans g4
      have n14 := g14.len
      obtain ⟨c, s5, e5, g5, h5⟩ := some_ok g4.good (ha.grow g14) (v := (VX l (2 * j)).f4) hnum.2.2.2.2.1 hnum.2.2.2.2.2 (by omega)
      have g15 := g14.trans g5
      have n15 := g15.len
      generalize hz1 : put s ⟨2, num (j : Int), 0, 0⟩ = z1 at *
      generalize hz2 : put z1.2 ⟨2, num (VX l (2 * j)).f2, 0, 0⟩ = z2 at *
      have A1 := g5.has (g4.has (g3.has (g2.has h1)))
      have A2 := g5.has (g4.has (g3.has h2))
      have A3 := (h3.grow g4).grow g5
      have A4 := h4.grow g5
      have hk5 : ∀ x ∈ [z1.1, z2.1, a, b, c], knownB s5.nodes.length x = true := by
        intro x hx
        simp only [List.mem_cons, List.not_mem_nil, or_false] at hx
        rcases hx with rfl | rfl | rfl | rfl | rfl
        · exact A1.1
        · exact A2.1
        · exact A3.known (ha.grow g15) hnum.1 hnum.2.1
        · exact A4.known (ha.grow g15) hnum.2.2.1 hnum.2.2.2.1
        · exact h5.known (ha.grow g15) hnum.2.2.2.2.1 hnum.2.2.2.2.2
      obtain ⟨g6, h6⟩ := lsM_ok g5.good hk5 (by simp; omega)
      have g16 := g15.trans g6
      have n16 := g16.len
      simp at n16
      generalize hz6 : lsM s5 [z1.1, z2.1, a, b, c] = z6 at *
      obtain ⟨g7, h7⟩ := hash_ok g6.good leafB z6.1 (by decide) h6.known (by omega)
      have g17 := g16.trans g7
      refine ⟨_, _, ⟨g17.good, g17.pre, by have := g17.len; simp at this; omega⟩, .inl ⟨hf, _, _, _, _, _, _, g7.has (g6.has A1), g7.has (g6.has A2), (A3.grow g6).grow g7, (A4.grow g6).grow g7, (h5.grow g6).grow g7, h6.grow g7, h7⟩, fun q hq => ?_⟩
      obtain ⟨q, rfl⟩ : ∃ r, q = r + 1 + 1 := ⟨q - 2, by omega⟩
      rw [step q, if_pos hf, number_eq s _ (by omega) (by omega), Option.bind_some, hz1, number_eq _ _ hwf.1.1 hwf.1.2, Option.bind_some, hz2, e3, Option.bind_some, e4, Option.bind_some, e5, Option.bind_some, list_eq _ _ q (by simp) hk5 (by simp; omega), Option.bind_some, hz6]
      rfl
    · have hf' : (VX l (2 * j)).f0 = false := by simpa using hf
      have n1 := g1.len
      generalize hz1 : put s ⟨2, num (j : Int), 0, 0⟩ = z1 at *
      have hk1 : ∀ x ∈ [z1.1], knownB z1.2.nodes.length x = true := fun x hx => by simp at hx; subst hx; exact h1.1
      obtain ⟨g6, h6⟩ := lsM_ok g1.good hk1 (by simp; omega)
      have g16 := g1.trans g6
      have n16 := g16.len
      simp at n16
      generalize hz6 : lsM z1.2 [z1.1] = z6 at *
      obtain ⟨g7, h7⟩ := hash_ok g6.good leafB z6.1 (by decide) h6.known (by omega)
      have g17 := g16.trans g7
      refine ⟨_, _, ⟨g17.good, g17.pre, by have := g17.len; simp at this; omega⟩, .inr ⟨hf', _, _, g7.has (g6.has h1), h6.grow g7, h7⟩, fun q hq => ?_⟩
      obtain ⟨q, rfl⟩ : ∃ r, q = r + 1 + 1 := ⟨q - 2, by omega⟩
      rw [step q, if_neg hf, number_eq s _ (by omega) (by omega), Option.bind_some, hz1, list_eq _ _ q (by simp) hk1 (by simp; omega), Option.bind_some, hz6]
      rfl
  | k + 1, j, hk, hj, s, hg, ha, hn => by
    have hlen := hR.len
    have h63 := len_le hR.hm
    have hnum := hR.num _ hj
    have hok := hR.ok _ hj
    have hwf := wf_of hw hj
    simp only [hB] at hn
    obtain ⟨hch, hl1, hl2⟩ := children_at hR.hm (by omega : k < 5) (j := j) (by omega)
    obtain ⟨a, s1, g1, h1, f1⟩ := thash_ok hw hR k (2 * j) (by omega) (by omega) s hg ha (by omega)
    have n1 := g1.len
    obtain ⟨b, s2, g2, h2, f2⟩ := thash_ok hw hR k (2 * j + 1) (by omega) (by omega) s1 g1.good (ha.grow g1) (by omega)
    have g12 := g1.trans g2
    have n12 := g12.len
    have ha2 := ha.grow g12
    have H1 := h1.grow g2
    have step : ∀ q, 400 + 4 * k ≤ q → digest_Hash.f (q + 1 + 1) s l ((pl (k + 1) j : Nat) : Int) = (if (VX l (pl (k + 1) j)).f0 = true then (digest_Hash.l0 q a b ([] : List Int) (VX l (pl (k + 1) j)).f5 ((VX l (pl (k + 1) j)).f5.length : Int) 0 s2 (VX l (pl (k + 1) j)).f0 (VX l (pl (k + 1) j)).f1 (VX l (pl (k + 1) j)).f2 (VX l (pl (k + 1) j)).f3 (VX l (pl (k + 1) j)).f4 (VX l (pl (k + 1) j)).f5)
        else ((term_Store_List.f q s2 ([a, b] : List Int)).bind fun bt185 => ((term_Store_Hash.f bt185.2 blankB bt185.1).bind fun bt187 => (some (bt187.1, bt187.2))))) := fun q hq => by
      rw [digest_Hash.f, if_neg (by omega), decide_eq_false (by omega : ¬ ((pl (k + 1) j : Nat) : Int) ≥ (l.length : Int)), digest_Hash.j0, if_neg (by decide), if_pos (by omega), if_pos (by omega), leaves_at hR, Option.bind_some, hch, Option.bind_some, if_pos rfl, f1 q hq, Option.bind_some, f2 q hq, Option.bind_some]
    by_cases hf : (VX l (pl (k + 1) j)).f0 = true
    · obtain ⟨z2, z3, hlate⟩ := hok.par hf (pl_odd k j)
      obtain ⟨ps, s3, g3, h3, f3⟩ := late_loop a b (VX l (pl (k + 1) j)).f5 hwf.2 hlate (VX l (pl (k + 1) j)).f0 (VX l (pl (k + 1) j)).f1 (VX l (pl (k + 1) j)).f2 (VX l (pl (k + 1) j)).f3 (VX l (pl (k + 1) j)).f4 (VX l (pl (k + 1) j)).f5 (VX l (pl (k + 1) j)).f5.length 0 [] s2 (by omega) g2.good (by omega) ⟨rfl, fun i h => by simp at h⟩
      have g13 := g12.trans g3
      have n13 := g13.len
      obtain ⟨p4, s4, e4, g4, h4⟩ := some_ok g3.good (ha.grow g13) (v := (VX l (pl (k + 1) j)).f1) hnum.1 hnum.2.1 (by omega)
      have g14 := g13.trans g4
      have n14 := g14.len
      obtain ⟨p5, s5, e5, g5, h5⟩ := some_ok g4.good (ha.grow g14) (v := (VX l (pl (k + 1) j)).f4) hnum.2.2.2.2.1 hnum.2.2.2.2.2 (by omega)
      have g15 := g14.trans g5
      have n15 := g15.len
      have h3' := (h3.grow g4).grow g5
      have hkp : ∀ x ∈ ps, knownB s5.nodes.length x = true := by
        intro x hx
        obtain ⟨i, hi, rfl⟩ := List.getElem_of_mem hx
        exact (h3'.each i hi (by rw [← h3'.len]; exact hi)).1
      have hps := h3.len
      obtain ⟨g6, h6⟩ := lsM_ok g5.good hkp (by omega)
      have g16 := g15.trans g6
      have n16 := g16.len
      generalize hz6 : lsM s5 ps = z6 at *
      have H1' := (((H1.grow g3).grow g4).grow g5).grow g6
      have H2' := (((h2.grow g3).grow g4).grow g5).grow g6
      have hk5 : ∀ x ∈ [p4, p5, z6.1, a, b], knownB z6.2.nodes.length x = true := by
        intro x hx
        simp only [List.mem_cons, List.not_mem_nil, or_false] at hx
        rcases hx with rfl | rfl | rfl | rfl | rfl
        · exact ((h4.grow g5).grow g6).known (ha.grow g16) hnum.1 hnum.2.1
        · exact (h5.grow g6).known (ha.grow g16) hnum.2.2.2.2.1 hnum.2.2.2.2.2
        · exact h6.known
        · exact H1'.known
        · exact H2'.known
      obtain ⟨g7, h7⟩ := lsM_ok g6.good hk5 (by simp; omega)
      have g17 := g16.trans g7
      have n17 := g17.len
      simp only [List.length_cons, List.length_nil] at n17
      generalize hz7 : lsM z6.2 [p4, p5, z6.1, a, b] = z7 at *
      obtain ⟨g8, h8⟩ := hash_ok g7.good nodeB z7.1 (by decide) h7.known (by omega)
      have g18 := g17.trans g8
      refine ⟨_, _, ⟨g18.good, g18.pre, by have := g18.len; simp only [List.length_cons, List.length_nil, hB] at this ⊢; omega⟩, ⟨a, b, (H1'.grow g7).grow g8, (H2'.grow g7).grow g8, .inl ⟨hf, ps, z6.1, p4, p5, z7.1, ((h3'.grow g6).grow g7).grow g8, (h6.grow g7).grow g8, (((h4.grow g5).grow g6).grow g7).grow g8, ((h5.grow g6).grow g7).grow g8, h7.grow g8, h8⟩⟩, fun q hq => ?_⟩
      obtain ⟨q, rfl⟩ : ∃ r, q = r + 1 + 1 := ⟨q - 2, by omega⟩
      rw [step q (by omega), if_pos hf]
      obtain ⟨r, rfl⟩ : ∃ r, q = r + 1 + (VX l (pl (k + 1) j)).f5.length := ⟨q - 1 - (VX l (pl (k + 1) j)).f5.length, by omega⟩
      have f3' := f3 (r + 1)
      simp only [Int.natCast_zero] at f3'
      rw [f3', digest_Hash.l0, if_neg (by omega), e4, Option.bind_some, e5, Option.bind_some, list_eq _ _ r (by omega) hkp (by omega), Option.bind_some, hz6, list_eq _ _ r (by simp) hk5 (by simp; omega), Option.bind_some, hz7]
      rfl
    · have hf' : (VX l (pl (k + 1) j)).f0 = false := by simpa using hf
      have hk2 : ∀ x ∈ [a, b], knownB s2.nodes.length x = true := by
        intro x hx
        simp only [List.mem_cons, List.not_mem_nil, or_false] at hx
        rcases hx with rfl | rfl
        · exact H1.known
        · exact h2.known
      obtain ⟨g7, h7⟩ := lsM_ok g2.good hk2 (by simp; omega)
      have g17 := g12.trans g7
      have n17 := g17.len
      simp only [List.length_cons, List.length_nil] at n17
      generalize hz7 : lsM s2 [a, b] = z7 at *
      obtain ⟨g8, h8⟩ := hash_ok g7.good blankB z7.1 (by decide) h7.known (by omega)
      have g18 := g17.trans g8
      refine ⟨_, _, ⟨g18.good, g18.pre, by have := g18.len; simp only [List.length_cons, List.length_nil, hB] at this ⊢; omega⟩, ⟨a, b, (H1.grow g7).grow g8, (h2.grow g7).grow g8, .inr ⟨hf', z7.1, h7.grow g8, h8⟩⟩, fun q hq => ?_⟩
      obtain ⟨q, rfl⟩ : ∃ r, q = r + 1 + 1 := ⟨q - 2, by omega⟩
      rw [step q (by omega), if_neg hf, list_eq _ _ q (by simp) hk2 (by simp; omega), Option.bind_some, hz7]
      rfl
end Go.Proofs.YtdipiigfjcaijaaDoor.Pure
