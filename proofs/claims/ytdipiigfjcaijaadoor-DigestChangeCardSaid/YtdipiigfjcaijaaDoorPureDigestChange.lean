/- What this claim reaches of a longer text of this session. -/
import Derived.Test.YtdipiigfjcaijaaDoorPureTells
import Derived.Test.YtdipiigfjcaijaaDoorPDix11
set_option linter.unusedVariables false
set_option linter.unusedSimpArgs false
namespace Go.Proofs.YtdipiigfjcaijaaDoor.Pure
open Go.RowKit Go.Proofs.YtdipiigfjcaijaaDoor Go.Proofs.YtdipiigfjcaijaaDoor.PDi Go.Proofs.YtdipiigfjcaijaaDoorW.PrintWords
def lv (y : Nat) : Nat := if y % 2 = 0 then 0 else if y % 4 = 1 then 1 else if y % 8 = 3 then 2 else if y % 16 = 7 then 3 else if y % 32 = 15 then 4 else 5
def accB : Nat → Nat
  | 0 => 90
  | x + 1 => accB x + 2 * hB (lv x)
theorem lv_fin : ∀ x : Fin 63, x.val = pl (lv x.val) (x.val / 2 ^ (lv x.val + 1)) ∧ lv x.val ≤ 5 ∧ x.val / 2 ^ (lv x.val + 1) < 32 := by decide +kernel
theorem acc_fin : ∀ x : Fin 64, accB x.val ≤ 80000 := by decide +kernel
theorem width_fin : ∀ (k : Fin 6) (j : Fin 32), pl k.val j.val < 63 → conclaveref03_Width.f 20 ((pl k.val j.val : Nat) : Int) = some ((2 ^ k.val - 1 : Nat) : Int) := by decide +kernel
theorem width_at {k j : Nat} (hk : k ≤ 5) (h : pl k j < 63) : Evr (fun q => conclaveref03_Width.f q ((pl k j : Nat) : Int)) ((2 ^ k - 1 : Nat) : Int) := by
  have hj := pl_ge k j
  have e := width_fin ⟨k, by omega⟩ ⟨j, by omega⟩ h
  refine ⟨20, fun q hq => ?_⟩
  obtain ⟨d, rfl⟩ := Nat.exists_eq_add_of_le hq
  clear hq
  induction d with
  | zero => exact e
  | succ d ih => exact conclaveref03_Width.mono _ (20 + d) _ ih
theorem in_at {a : Nat} {m : Nat} (hm : m ≤ 5) (h : a < 2 * 2 ^ m - 1) : conclaveref03_In.f (a : Int) ((2 ^ m : Nat) : Int) = some true := by
  have hr : conclaveref03_Right.f ((2 ^ m : Nat) : Int) = some true := by
    have : ∀ m : Fin 6, conclaveref03_Right.f ((2 ^ m.val : Nat) : Int) = some true := by decide
    exact this ⟨m, by omega⟩
  have h63 := len_le hm
  have h1 : 1 ≤ 2 ^ m := Nat.one_le_two_pow
  unfold conclaveref03_In.f
  rw [hr, Option.bind_some, if_pos rfl, if_pos (by omega), wrap_id (a := 2 * ((2 ^ m : Nat) : Int)) (by omega), wrap_id (by omega), decide_eq_true (by omega)]
def InR (k j y : Nat) : Prop := 2 ^ (k + 1) * j ≤ y ∧ y + 1 < 2 ^ (k + 1) * (j + 1)
instance (k j y : Nat) : Decidable (InR k j y) := by unfold InR; exact inferInstance
theorem under_at {m k j a : Nat} (hm : m ≤ 5) (hk : k ≤ 5) (h : pl k j < 2 * 2 ^ m - 1) (ha : a < 2 * 2 ^ m - 1) : Evr (fun q => conclaveref03_Under.f q (a : Int) ((pl k j : Nat) : Int) ((2 ^ m : Nat) : Int)) (decide (InR k j a)) := by
  have h63 := len_le hm
  obtain ⟨K, hK⟩ := width_at (k := k) (j := j) hk (by omega)
  replace hK : ∀ q, K ≤ q → conclaveref03_Width.f q ((pl k j : Nat) : Int) = some ((2 ^ k - 1 : Nat) : Int) := hK
  refine ⟨K, fun q hq => ?_⟩
  show conclaveref03_Under.f q (a : Int) ((pl k j : Nat) : Int) ((2 ^ m : Nat) : Int) = _
  unfold conclaveref03_Under.f
  rw [in_at hm ha, Option.bind_some, if_pos rfl, in_at hm h, Option.bind_some, if_pos rfl, hK q hq, Option.bind_some]
  have h1 : 1 ≤ 2 ^ k := Nat.one_le_two_pow
  have e1 : 2 ^ (k + 1) = 2 * 2 ^ k := by rw [Nat.pow_succ, Nat.mul_comm]
  have e2 : 2 ^ (k + 1) * (j + 1) = 2 ^ (k + 1) * j + 2 * 2 ^ k := by rw [Nat.mul_add, Nat.mul_one, e1]
  have hp : pl k j = 2 ^ (k + 1) * j + 2 ^ k - 1 := rfl
  have hI : InR k j a ↔ (2 ^ (k + 1) * j ≤ a ∧ a + 1 < 2 ^ (k + 1) * j + 2 * 2 ^ k) := by
    unfold InR
    rw [e2]
  rw [wrap_id (by omega)]
  by_cases c : (a : Int) ≥ (pl k j : Int) - ((2 ^ k - 1 : Nat) : Int)
  · rw [if_pos c, wrap_id (by omega)]
    congr 1
    rw [Bool.eq_iff_iff, decide_eq_true_iff, decide_eq_true_iff, hI]
    generalize 2 ^ (k + 1) * j = Q at *
    generalize 2 ^ k = P at *
    omega
  · rw [if_neg c]
    congr 1
    rw [eq_comm, decide_eq_false_iff_not, hI]
    generalize 2 ^ (k + 1) * j = Q at *
    generalize 2 ^ k = P at *
    omega
theorem Sub.of {l u : List S33} : ∀ (k j : Nat), (∀ x, 2 ^ (k + 1) * j ≤ x → x + 1 < 2 ^ (k + 1) * (j + 1) → VX l x = VX u x) → Sub l u k j
  | 0, j, H => H (2 * j) (by simp) (by simp; omega)
  | k + 1, j, H => by
    have e1 : 2 ^ (k + 1) * (2 * j) = 2 ^ (k + 1 + 1) * j := by rw [Nat.pow_succ 2 (k + 1), Nat.mul_assoc]
    have e2 : 2 ^ (k + 1) * (2 * j + 1) = 2 ^ (k + 1 + 1) * j + 2 ^ (k + 1) := by rw [Nat.mul_add, Nat.mul_one, e1]
    have e3 : 2 ^ (k + 1) * (2 * j + 1 + 1) = 2 ^ (k + 1 + 1) * (j + 1) := by
      rw [show 2 * j + 1 + 1 = 2 * (j + 1) by omega, Nat.pow_succ 2 (k + 1), Nat.mul_assoc]
    have e5 : 2 ^ (k + 1 + 1) * (j + 1) = 2 ^ (k + 1 + 1) * j + 2 ^ (k + 1) + 2 ^ (k + 1) := by rw [Nat.mul_add, Nat.mul_one, Nat.pow_succ 2 (k + 1)]; omega
    have e4 : pl (k + 1) j = 2 ^ (k + 1 + 1) * j + 2 ^ (k + 1) - 1 := rfl
    have h0 : 1 ≤ 2 ^ k := Nat.one_le_two_pow
    have h2 : 2 ^ (k + 1) = 2 * 2 ^ k := by rw [Nat.pow_succ, Nat.mul_comm]
    refine ⟨Sub.of k (2 * j) fun x a b => H x (by omega) (by omega), Sub.of k (2 * j + 1) fun x a b => H x (by omega) (by omega), H _ (by omega) (by omega)⟩
theorem Sub.one {l u : List S33} {y : Nat} (hne : VX l y ≠ VX u y) (heq : ∀ x, x ≠ y → VX l x = VX u x) (k j : Nat) : Sub l u k j ↔ ¬ InR k j y := by
  constructor
  · intro H c
    exact hne (H.all k j y c.1 c.2)
  · intro c
    refine Sub.of k j fun x a b => heq x ?_
    rintro rfl
    exact c ⟨a, b⟩
theorem copy_l0 {l : List S33} (hl : l.length ≤ 1000) (h5 : ∀ i, i < l.length → (VX l i).f5.length ≤ 1000) : ∀ (d i : Nat), d + i = l.length → Evr (fun k => conclaveref04_Copy.l0 k l (l.take i) (i : Int)) l
  | 0, i, hd => by
    have e : l.take i = l := List.take_of_length_le (by omega)
    exact .succ (f := fun _ => some l) (fun k => by rw [conclaveref04_Copy.l0, if_neg (by omega), e]) (.const fun _ => rfl)
  | d + 1, i, hd => by
    have hi : i < l.length := by omega
    have h := h5 i hi
    refine .succ (fun k => ?_) (copy_l0 hl h5 d (i + 1) (by omega))
    rw [conclaveref04_Copy.l0, if_pos (by omega), if_pos (by omega), Option.bind_some]
    rw [show rd_T33 l (i : Int) = VX l i from rfl, if_pos (by simp; omega), if_pos (by rw [List.length_take]; omega), wrap_up i (by omega), List.take_succ_eq_append_getElem hi, ← VX_at hi]
    congr 2
theorem copy_ev {l : List S33} (hl : l.length ≤ 1000) (h5 : ∀ i, i < l.length → (VX l i).f5.length ≤ 1000) : Evr (fun k => conclaveref04_Copy.f k l) l := by
  have := copy_l0 hl h5 l.length 0 (by omega)
  exact this
theorem full_at {l : List S33} {m : Nat} (hR : RightV l m) {i : Int} {b : Bool} (h : conclaveref04_Full.f l i = some b) (hb : b = true) : ∃ j : Nat, i = (j : Int) ∧ 2 * j < l.length ∧ (VX l (2 * j)).f0 = true := by
  subst hb
  have hlen := hR.len
  have h63 := len_le hR.hm
  have h1 : 1 ≤ 2 ^ m := Nat.one_le_two_pow
  unfold conclaveref04_Full.f at h
  rw [leaves_odd hlen h1 (by omega)] at h
  by_cases c1 : i ≥ 0
  · rw [if_pos c1, Option.bind_some] at h
    by_cases c2 : i < ((2 ^ m : Nat) : Int)
    · rw [if_pos c2, wrap_id (by omega), if_pos (by omega), if_pos (by omega)] at h
      obtain ⟨j, rfl⟩ : ∃ j : Nat, i = (j : Int) := ⟨i.toNat, by omega⟩
      refine ⟨j, rfl, by omega, ?_⟩
      have := Option.some.inj h
      rw [show (2 : Int) * (j : Int) = ((2 * j : Nat) : Int) by omega] at this
      exact this
    · rw [if_neg c2] at h; cases h
  · rw [if_neg c1] at h; cases h
theorem VX_set {l : List S33} {y : Nat} (v : S33) (hy : y < l.length) (x : Nat) : VX (l.set y v) x = if x = y then v else VX l x := by
  unfold VX rd_T33
  rw [Int.toNat_natCast, List.getD_eq_getElem?_getD, List.getD_eq_getElem?_getD]
  by_cases h : x = y
  · subst h
    rw [if_pos rfl, List.getElem?_set_self hy]
    rfl
  · rw [if_neg h, List.getElem?_set_ne (fun e => h e.symm)]
theorem change_l0 {t u : List S33} (ht : WfV t) (hu : WfV u) {m j : Nat} (rt : RightV t m) (ru : RightV u m) (hj : 2 * j < t.length) (hne : VX t (2 * j) ≠ VX u (2 * j)) (heq : ∀ x, x ≠ 2 * j → VX t x = VX u x) : ∀ (d x : Nat) (s : TS), d + x = t.length → Good s → Atoms s → s.nodes.length ≤ accB x →
    Evr (fun k => conclavelaw05_DigestChange.l0 k t (j : Int) u (t.length : Int) (x : Int) s) true
  | 0, x, s, hd, _, _, _ => .succ (f := fun _ => some true) (fun k => by rw [conclavelaw05_DigestChange.l0, if_neg (by omega)]) (.const fun _ => rfl)
  | d + 1, x, s, hd, hg, ha, hn => by
    have hlen := rt.len
    have ulen := ru.len
    have h63 := len_le rt.hm
    obtain ⟨ex, hk, hjj⟩ := lv_fin ⟨x, by omega⟩
    have hac := acc_fin ⟨x + 1, by omega⟩
    have hac0 : accB (x + 1) = accB x + 2 * hB (lv x) := rfl
    have hhb := hB_le (lv x) hk
    dsimp only at ex hk hjj hac
    generalize hkk : lv x = k at *
    generalize x / 2 ^ (k + 1) = q at *
    obtain ⟨a, s1, g1, H1, f1⟩ := thash_ok ht rt k q hk (by omega) s hg ha (by omega)
    have n1 := g1.len
    obtain ⟨b, s2, g2, H2, f2⟩ := thash_ok hu ru k q hk (by omega) s1 g1.good (ha.grow g1) (by omega)
    have n2 := g2.len
    have H1' := H1.grow g2
    have key := HT.iff g2.good ((ha.grow g1).grow g2) ht hu rt ru k q hk (by omega) (by omega) H1' H2
    rw [Sub.one hne heq k q] at key
    have za : a ≠ 0 := by have := knownB_iff.1 H1'.known; omega
    have zb : b ≠ 0 := by have := knownB_iff.1 H2.known; omega
    obtain ⟨K, hU⟩ := under_at (m := m) (k := k) (j := q) (a := 2 * j) rt.hm hk (by omega) (by omega)
    obtain ⟨L, ih⟩ := change_l0 ht hu rt ru hj hne heq d (x + 1) s2 (by omega) g2.good ((ha.grow g1).grow g2) (by omega)
    have h1 : 1 ≤ 2 ^ m := Nat.one_le_two_pow
    refine ⟨K + L + 600 + 1, fun r hr => ?_⟩
    obtain ⟨r, rfl⟩ : ∃ w, r = w + 1 := ⟨r - 1, by omega⟩
    show conclavelaw05_DigestChange.l0 (r + 1) t (j : Int) u (t.length : Int) (x : Int) s = some true
    have f1' := f1 r (by omega)
    have f2' := f2 r (by omega)
    rw [← ex] at f1' f2'
    have hU' : conclaveref03_Under.f r ((2 * j : Nat) : Int) ((pl k q : Nat) : Int) ((2 ^ m : Nat) : Int) = some (decide (InR k q (2 * j))) := hU r (by omega)
    rw [← ex] at hU'
    rw [conclavelaw05_DigestChange.l0, if_pos (by omega), f1', Option.bind_some, f2', Option.bind_some, if_neg za, if_neg zb, leaves_odd hlen h1 (by omega), Option.bind_some, wrap_id (by omega), show (2 : Int) * (j : Int) = ((2 * j : Nat) : Int) by omega, hU', Option.bind_some]
    have hb : (a != b) = decide (InR k q (2 * j)) := by
      rw [Bool.eq_iff_iff, bne_iff_ne, decide_eq_true_iff, ne_eq, key, Classical.not_not]
    rw [hb, if_neg (by simp), wrap_up x (by omega)]
    exact ih r (by omega)
theorem DigestChange : conclavelaw05_DigestChange.Pure := by
  intro t i key ht hi hkey
  have ii := (Lit.wf_int_iff .i64 i).1 hi
  obtain ⟨bt, ⟨K1, e1⟩, p1⟩ := guard_ev ht
  replace e1 : ∀ k, K1 ≤ k → conclavelaw05_right.f k t 90 = some bt := e1
  have hj : ∀ k, conclavelaw05_DigestChange.j0 (k + 1) t i key true = some true := fun k => by rw [conclavelaw05_DigestChange.j0, if_pos rfl]
  have unf : ∀ k, K1 ≤ k → conclavelaw05_DigestChange.f k t i key = _ := fun k hk => by
    unfold conclavelaw05_DigestChange.f
    rw [show conclavelaw05_anchor.f k = some true from rfl, Option.bind_some, if_pos rfl, e1 k hk, Option.bind_some]
  cases bt with
  | false => exact ⟨K1 + 1, by rw [unf _ (by omega), if_neg (by decide)]; exact hj K1⟩
  | true =>
    obtain ⟨m, rt⟩ := p1 rfl
    have hlen := rt.len
    have h63 := len_le rt.hm
    have h1 : 1 ≤ 2 ^ m := Nat.one_le_two_pow
    obtain ⟨bf, hbf⟩ := full_some hlen h1 (by omega) i
    cases bf with
    | false => exact ⟨K1 + 1, by rw [unf _ (by omega), if_pos rfl, hbf, Option.bind_some, if_neg (by decide)]; exact hj K1⟩
    | true =>
      obtain ⟨j, rfl, hj2, hfull⟩ := full_at rt hbf rfl
      by_cases c1 : key < 1
      · exact ⟨K1 + 1, by rw [unf _ (by omega), if_pos rfl, hbf, Option.bind_some, if_pos rfl, if_pos c1]; exact hj K1⟩
      by_cases c2 : key > 90
      · exact ⟨K1 + 1, by rw [unf _ (by omega), if_pos rfl, hbf, Option.bind_some, if_pos rfl, if_neg c1, if_pos c2]; exact hj K1⟩
      have ew : wrap64 (2 * (j : Int)) = ((2 * j : Nat) : Int) := by rw [wrap_id (by omega)]; omega
      by_cases c3 : key = (VX t (2 * j)).f1
      · refine ⟨K1 + 1, ?_⟩
        rw [unf _ (by omega), if_pos rfl, hbf, Option.bind_some, if_pos rfl, if_neg c1, if_neg c2, ew, if_pos (by omega), if_pos (by omega), show (key == (rd_T33 t ((2 * j : Nat) : Int)).f1) = true from by rw [beq_iff_eq]; exact c3]
        exact hj K1
      obtain ⟨K2, e2⟩ := copy_ev (l := t) (by omega) (right_late rt)
      replace e2 : ∀ k, K2 ≤ k → conclaveref04_Copy.f k t = some t := e2
      -- the changed tree
      have hset := fun x => VX_set (l := t) (y := 2 * j) (⟨(VX t (2 * j)).f0, key, (VX t (2 * j)).f2, (VX t (2 * j)).f3, (VX t (2 * j)).f4, (VX t (2 * j)).f5⟩ : S33) hj2 x
      have hul : (t.set (2 * j) (⟨(VX t (2 * j)).f0, key, (VX t (2 * j)).f2, (VX t (2 * j)).f3, (VX t (2 * j)).f4, (VX t (2 * j)).f5⟩ : S33)).length = t.length := List.length_set
      have huw : WfV (t.set (2 * j) (⟨(VX t (2 * j)).f0, key, (VX t (2 * j)).f2, (VX t (2 * j)).f3, (VX t (2 * j)).f4, (VX t (2 * j)).f5⟩ : S33)) := by
        refine ⟨by rw [hul]; exact ht.len, fun v hv => ?_⟩
        rcases List.mem_or_eq_of_mem_set hv with h | rfl
        · exact ht.each v h
        · have := ht.each _ (show VX t (2 * j) ∈ t by rw [VX_at hj2]; exact List.getElem_mem hj2)
          exact ⟨hkey, this.2.1, this.2.2.1, this.2.2.2.1, this.2.2.2.2.1, this.2.2.2.2.2⟩
      generalize hu : t.set (2 * j) (⟨(VX t (2 * j)).f0, key, (VX t (2 * j)).f2, (VX t (2 * j)).f3, (VX t (2 * j)).f4, (VX t (2 * j)).f5⟩ : S33) = u at *
      have hv2 := hset (2 * j)
      rw [if_pos rfl] at hv2
      have hvx : ∀ x, x ≠ 2 * j → VX u x = VX t x := fun x hx => by rw [hset x, if_neg hx]
      have ru : RightV u m := by
        refine ⟨rt.hm, by omega, fun x hx => ?_, fun x hx => ?_⟩
        · by_cases hxj : x = 2 * j
          · subst hxj
            have hok := rt.ok (2 * j) hj2
            refine ⟨fun h => ?_, fun _ hm => ?_, fun _ hm => by omega⟩
            · rw [hv2] at h; dsimp only at h; rw [hfull] at h; cases h
            · rw [hv2]; exact hok.leaf hfull hm
          · have hok := rt.ok x (by omega)
            have e := hvx x hxj
            exact ⟨by rw [e]; exact hok.blank, by rw [e]; exact hok.leaf, by rw [e]; exact hok.par⟩
        · by_cases hxj : x = 2 * j
          · subst hxj
            have hn := rt.num (2 * j) hj2
            rw [hv2]
            exact ⟨by show 0 ≤ key; omega, by show key ≤ 90; omega, hn.2.2.1, hn.2.2.2.1, hn.2.2.2.2.1, hn.2.2.2.2.2⟩
          · rw [hvx x hxj]; exact rt.num x (by omega)
      have g0 := dgood90
      have hn0 := g0.len
      simp at hn0
      obtain ⟨K3, e3⟩ := change_l0 ht huw rt ru hj2 (by rw [hv2]; intro e; exact c3 (congrArg S33.f1 e).symm) (fun x hx => (hvx x hx).symm) t.length 0 _ (by omega) g0.good datoms90 (by show _ ≤ 90; omega)
      refine ⟨K1 + K2 + K3 + 1, ?_⟩
      rw [unf _ (by omega), if_pos rfl, hbf, Option.bind_some, if_pos rfl, if_neg c1, if_neg c2, ew, if_pos (by omega), if_pos (by omega), show (key == (rd_T33 t ((2 * j : Nat) : Int)).f1) = false from by rw [beq_eq_false_iff_ne]; exact c3, conclavelaw05_DigestChange.j0, if_neg (by decide), dstores90, Option.bind_some, e2 _ (by omega), Option.bind_some, ew, if_pos (by omega), if_pos (by omega), Int.toNat_natCast]
      rw [show t.set (2 * j) (⟨(rd_T33 t ((2 * j : Nat) : Int)).f0, key, (rd_T33 t ((2 * j : Nat) : Int)).f2, (rd_T33 t ((2 * j : Nat) : Int)).f3, (rd_T33 t ((2 * j : Nat) : Int)).f4, (rd_T33 t ((2 * j : Nat) : Int)).f5⟩ : S33) = u from hu]
      exact e3 _ (by omega)
end Go.Proofs.YtdipiigfjcaijaaDoor.Pure
