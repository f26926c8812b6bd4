/- What this claim reaches of a longer text of this session. -/
import Derived.Test.YtdipiigfjcaijaaDoorPDix6
import Derived.Test.YtdipiigfjcaijaaDoorPDix8
import Derived.DataShut
set_option linter.unusedVariables false
set_option linter.unusedSimpArgs false
namespace Go.Proofs.YtdipiigfjcaijaaDoor.Pure
open Go.RowKit Go.Proofs.YtdipiigfjcaijaaDoor Go.Proofs.YtdipiigfjcaijaaDoor.PDi Go.Proofs.YtdipiigfjcaijaaDoorW.PrintWords
def Evr {α : Type} (g : Nat → Option α) (r : α) : Prop := ∃ K, ∀ k, K ≤ k → g k = some r
theorem Evr.const {α : Type} {g : Nat → Option α} {r : α} (h : ∀ k, g k = some r) : Evr g r := ⟨0, fun k _ => h k⟩
theorem Evr.succ {α : Type} {g f : Nat → Option α} {r : α} (h : ∀ k, g (k + 1) = f k) (hf : Evr f r) : Evr g r := by
  obtain ⟨K, hK⟩ := hf
  refine ⟨K + 1, fun k hk => ?_⟩
  obtain ⟨k, rfl⟩ : ∃ q, k = q + 1 := ⟨k - 1, by omega⟩
  rw [h k]
  exact hK k (by omega)
theorem Evr.bind {α β : Type} {g : Nat → Option α} {f : Nat → α → Option β} {a : α} {r : β} (h : Evr g a) (hf : Evr (fun k => f k a) r) : Evr (fun k => (g k).bind (f k)) r := by
  obtain ⟨K, hK⟩ := h
  obtain ⟨L, hL⟩ := hf
  exact ⟨K + L, fun k hk => by show (g k).bind (f k) = some r; rw [hK k (by omega), Option.bind_some]; exact hL k (by omega)⟩
abbrev VX (l : List S33) (x : Nat) : S33 := rd_T33 l (x : Int)
theorem wrap_id {a : Int} (h : -9223372036854775808 ≤ a ∧ a ≤ 9223372036854775807) : wrap64 a = a := by unfold wrap64; omega
theorem width_ev (x : Nat) (hx : x < 64) : ∃ r, Evr (fun k => conclaveref03_Width.f k (x : Int)) r := by
  have : ∀ x : Fin 64, (conclaveref03_Width.f 20 (x.val : Int)).isSome = true := by decide +kernel
  have h := this ⟨x, hx⟩
  cases e : conclaveref03_Width.f 20 (x : Int) with
  | none => rw [e] at h; cases h
  | some r =>
    refine ⟨r, 20, fun k hk => ?_⟩
    obtain ⟨d, rfl⟩ := Nat.exists_eq_add_of_le hk
    clear hk
    induction d with
    | zero => exact e
    | succ d ih => exact conclaveref03_Width.mono _ (20 + d) _ ih
theorem in_some (a b : Int) : ∃ r, conclaveref03_In.f a b = some r := by
  unfold conclaveref03_In.f conclaveref03_Right.f
  repeat' (first | exact ⟨_, rfl⟩ | split | (simp only [Option.bind_some]))
theorem under_ev (a : Int) (x : Nat) (hx : x < 64) (n : Int) : ∃ r, Evr (fun k => conclaveref03_Under.f k a (x : Int) n) r := by
  obtain ⟨r1, e1⟩ := in_some a n
  obtain ⟨r2, e2⟩ := in_some (x : Int) n
  obtain ⟨r3, e3⟩ := width_ev x hx
  unfold conclaveref03_Under.f
  simp only [e1, e2, Option.bind_some]
  cases r1 with
  | false => exact ⟨_, .const fun k => rfl⟩
  | true =>
    cases r2 with
    | false => exact ⟨_, .const fun k => rfl⟩
    | true =>
      simp only [if_true]
      by_cases c : a ≥ wrap64 ((x : Int) - r3)
      · exact ⟨_, e3.bind (.const fun k => by rw [if_pos c])⟩
      · exact ⟨_, e3.bind (.const fun k => by rw [if_neg c])⟩
theorem leaves_odd {l : List S33} {n : Nat} (h : l.length = 2 * n - 1) (hn : 1 ≤ n) (hn2 : n ≤ 1000) : conclaveref04_Leaves.f l = some (n : Int) := by
  unfold conclaveref04_Leaves.f
  rw [wrap_id (a := (l.length : Int) + 1) (by omega), Int.tdiv_eq_ediv_of_nonneg (by omega), wrap_id (by omega)]
  congr 1
  omega
theorem full_some {l : List S33} {n : Nat} (h : l.length = 2 * n - 1) (hn : 1 ≤ n) (hn2 : n ≤ 1000) (i : Int) : ∃ b, conclaveref04_Full.f l i = some b := by
  unfold conclaveref04_Full.f
  rw [leaves_odd h hn hn2]
  by_cases h1 : i ≥ 0
  · rw [if_pos h1, Option.bind_some]
    by_cases h2 : i < (n : Int)
    · rw [if_pos h2, wrap_id (by omega), if_pos (by omega), if_pos (by omega)]; exact ⟨_, rfl⟩
    · rw [if_neg h2]; exact ⟨_, rfl⟩
  · rw [if_neg h1]; exact ⟨_, rfl⟩
theorem vertex_l0 {l : List S33} {n x : Nat} (h : l.length = 2 * n - 1) (hn : 1 ≤ n) (hn2 : n ≤ 32) (hx : x < 64) (f0 : Bool) (f1 f2 f3 f4 : Int) (late : List Int) (hl : late.length ≤ 9223372036854775807) : ∀ (d i : Nat) (last : Int), d + i = late.length →
    ∃ b, Evr (fun k => conclaveref04_vertex.l0 k l (x : Int) last (i : Int) f0 f1 f2 f3 f4 late) b ∧ (b = true → f2 = 0 ∧ f3 = 0 ∧ ((d : Int) ≤ 63 - last ∨ d = 0))
  | 0, i, last, hd => by
    by_cases h2 : f2 = 0
    · refine ⟨f3 == 0, .succ (f := fun _ => some (f3 == 0)) (fun k => by rw [conclaveref04_vertex.l0, if_neg (by omega), if_pos h2]) (.const fun _ => rfl), fun hb => ⟨h2, by simpa using hb, .inr rfl⟩⟩
    · exact ⟨false, .succ (f := fun _ => some false) (fun k => by rw [conclaveref04_vertex.l0, if_neg (by omega), if_neg h2]) (.const fun _ => rfl), fun hb => by cases hb⟩
  | d + 1, i, last, hd => by
    have hi : i < late.length := by omega
    have e1 : wrap64 ((i : Int) + 1) = ((i + 1 : Nat) : Int) := by rw [wrap_id (by omega)]; omega
    obtain ⟨bf, hbf⟩ := full_some h hn (by omega) (rd late (i : Int))
    by_cases c1 : rd late (i : Int) ≤ last
    · exact ⟨false, .succ (f := fun _ => some false) (fun k => by rw [conclaveref04_vertex.l0, if_pos (by omega), if_pos (by omega), if_pos c1]) (.const fun _ => rfl), fun hb => by cases hb⟩
    by_cases c2 : rd late (i : Int) ≥ 64
    · exact ⟨false, .succ (f := fun _ => some false) (fun k => by rw [conclaveref04_vertex.l0, if_pos (by omega), if_pos (by omega), if_neg c1, if_pos c2]) (.const fun _ => rfl), fun hb => by cases hb⟩
    cases bf with
    | false => exact ⟨false, .succ (f := fun _ => some false) (fun k => by rw [conclaveref04_vertex.l0, if_pos (by omega), if_pos (by omega), if_neg c1, if_neg c2, hbf]; rfl) (.const fun _ => rfl), fun hb => by cases hb⟩
    | true =>
      obtain ⟨bu, hbu⟩ := under_ev (wrap64 (2 * rd late (i : Int))) x hx (n : Int)
      obtain ⟨b, hb, hp⟩ := vertex_l0 h hn hn2 hx f0 f1 f2 f3 f4 late hl d (i + 1) (rd late (i : Int)) (by omega)
      have step : ∀ k, conclaveref04_vertex.l0 (k + 1) l (x : Int) last (i : Int) f0 f1 f2 f3 f4 late = (conclaveref03_Under.f k (wrap64 (2 * rd late (i : Int))) (x : Int) (n : Int)).bind fun t => if t = true then conclaveref04_vertex.l0 k l (x : Int) (rd late (i : Int)) (wrap64 ((i : Int) + 1)) f0 f1 f2 f3 f4 late else some false := fun k => by
        rw [conclaveref04_vertex.l0, if_pos (by omega), if_pos (by omega), if_neg c1, if_neg c2, hbf, Option.bind_some, if_pos rfl, leaves_odd h hn (by omega), Option.bind_some]
      cases bu with
      | false => exact ⟨false, .succ step (hbu.bind (.const fun _ => rfl)), fun hb => by cases hb⟩
      | true =>
        refine ⟨b, .succ step (hbu.bind ?_), fun hbt => ?_⟩
        · obtain ⟨K, hK⟩ := hb
          refine ⟨K, fun k hk => ?_⟩
          show (if true = true then _ else _) = _
          rw [if_pos rfl, e1]
          exact hK k hk
        · obtain ⟨q1, q2, q3⟩ := hp hbt
          exact ⟨q1, q2, .inl (by omega)⟩
structure OkVert (l : List S33) (x : Nat) : Prop where
  blank : (VX l x).f0 = false → VX l x = z33
  leaf : (VX l x).f0 = true → x % 2 = 0 → (VX l x).f5 = []
  par : (VX l x).f0 = true → x % 2 = 1 → (VX l x).f2 = 0 ∧ (VX l x).f3 = 0 ∧ (VX l x).f5.length ≤ 64
theorem vertex_ev {l : List S33} (hw : WfV l) {n x : Nat} (h : l.length = 2 * n - 1) (hn : 1 ≤ n) (hn2 : n ≤ 32) (hx : x < l.length) : ∃ b, Evr (fun k => conclaveref04_vertex.f k l (x : Int)) b ∧ (b = true → OkVert l x) := by
  have hmem : VX l x ∈ l := by
    unfold VX rd_T33
    rw [Int.toNat_natCast, List.getD_eq_getElem?_getD, List.getElem?_eq_getElem hx]
    exact List.getElem_mem hx
  have hwv := hw.each _ hmem
  have hlate : (VX l x).f5.length ≤ 9223372036854775807 := by have := hwv.2.2.2.2.1; unfold maxLen at this; exact this
  unfold conclaveref04_vertex.f
  simp only [if_pos (by omega : (0 : Int) ≤ (x : Int)), if_pos (by omega : (x : Int) < (l.length : Int))]
  have e2 : Int.tmod (x : Int) 2 = ((x % 2 : Nat) : Int) := by rw [Int.tmod_eq_emod_of_nonneg (by omega)]; omega
  simp only [e2]
  by_cases c0 : (rd_T33 l (x : Int)).f0 = true
  · simp only [if_pos c0]
    by_cases c1 : ((x % 2 : Nat) : Int) = 0
    · simp only [if_pos c1]
      exact ⟨_, .const fun _ => rfl, fun hb => ⟨(fun hf => by rw [show (VX l x).f0 = true from c0] at hf; cases hf), fun _ _ => by simpa using hb, fun _ h1 => by omega⟩⟩
    · simp only [if_neg c1]
      obtain ⟨b, hb, hp⟩ := vertex_l0 h hn hn2 (by omega : x < 64) ((rd_T33 l (x : Int)).f0) ((rd_T33 l (x : Int)).f1) ((rd_T33 l (x : Int)).f2) ((rd_T33 l (x : Int)).f3) ((rd_T33 l (x : Int)).f4) ((rd_T33 l (x : Int)).f5) hlate (VX l x).f5.length 0 (-1) (by simp)
      exact ⟨b, hb, fun hbt => ⟨(fun hf => by rw [show (VX l x).f0 = true from c0] at hf; cases hf), fun _ h1 => by omega, fun _ _ => ⟨(hp hbt).1, (hp hbt).2.1, by have := (hp hbt).2.2; omega⟩⟩⟩
  · simp only [if_neg c0]
    have cf : (VX l x).f0 = false := by simpa using c0
    have no : ∀ {P : Prop}, (false = true → P) := fun h => by cases h
    by_cases c1 : (rd_T33 l (x : Int)).f1 = 0
    case neg => simp only [if_neg c1]; exact ⟨false, .const fun _ => rfl, no⟩
    simp only [if_pos c1]
    by_cases c2 : (rd_T33 l (x : Int)).f2 = 0
    case neg => simp only [if_neg c2]; exact ⟨false, .const fun _ => rfl, no⟩
    simp only [if_pos c2]
    by_cases c3 : (rd_T33 l (x : Int)).f3 = 0
    case neg => simp only [if_neg c3]; exact ⟨false, .const fun _ => rfl, no⟩
    simp only [if_pos c3]
    by_cases c4 : (rd_T33 l (x : Int)).f4 = 0
    case neg => simp only [if_neg c4]; exact ⟨false, .const fun _ => rfl, no⟩
    simp only [if_pos c4]
    refine ⟨_, .const fun _ => rfl, fun hb => ⟨fun _ => ?_, (fun hf => by rw [cf] at hf; cases hf), (fun hf => by rw [cf] at hf; cases hf)⟩⟩
    have h5 : (VX l x).f5 = [] := by simpa using hb
    generalize hv : VX l x = v at *
    have hv' : rd_T33 l (x : Int) = v := hv
    rw [hv'] at c1 c2 c3 c4
    obtain ⟨a0, a1, a2, a3, a4, a5⟩ := v
    dsimp only at *
    rw [cf, c1, c2, c3, c4, h5]
    rfl
theorem tight_l0 {l : List S33} {n : Nat} (h : l.length = 2 * n - 1) (hn : 1 ≤ n) (hn2 : n ≤ 1000) : ∀ (d i : Nat), d + i = n → ∃ b, Evr (fun k => conclaveref04_Tight.l0 k l (n : Int) (i : Int)) b
  | 0, i, hd => ⟨false, .succ (f := fun _ => some false) (fun k => by rw [conclaveref04_Tight.l0, if_neg (by omega)]) (.const fun _ => rfl)⟩
  | d + 1, i, hd => by
    obtain ⟨bf, hbf⟩ := full_some h hn hn2 (i : Int)
    obtain ⟨b, hb⟩ := tight_l0 h hn hn2 d (i + 1) (by omega)
    have e1 : wrap64 ((i : Int) + 1) = ((i + 1 : Nat) : Int) := by rw [wrap_id (by omega)]; omega
    cases bf with
    | true => exact ⟨true, .succ (f := fun _ => some true) (fun k => by rw [conclaveref04_Tight.l0, if_pos (by omega), hbf]; rfl) (.const fun _ => rfl)⟩
    | false => exact ⟨b, .succ (fun k => by rw [conclaveref04_Tight.l0, if_pos (by omega), hbf, Option.bind_some, if_neg (by decide), e1]) hb⟩
theorem check_l0 {l : List S33} (hw : WfV l) {n : Nat} (h : l.length = 2 * n - 1) (hn : 1 ≤ n) (hn2 : n ≤ 32) : ∀ (d i : Nat), d + i = l.length → ∃ b, Evr (fun k => conclaveref04_Check.l0 k l (i : Int)) b ∧ (b = true → ∀ x, i ≤ x → x < l.length → OkVert l x)
  | 0, i, hd => ⟨true, .succ (f := fun _ => some true) (fun k => by rw [conclaveref04_Check.l0, if_neg (by omega)]) (.const fun _ => rfl), fun _ x h1 h2 => by omega⟩
  | d + 1, i, hd => by
    obtain ⟨bv, hbv, hok⟩ := vertex_ev hw h hn hn2 (x := i) (by omega)
    obtain ⟨b, hb, hp⟩ := check_l0 hw h hn hn2 d (i + 1) (by omega)
    have e1 : wrap64 ((i : Int) + 1) = ((i + 1 : Nat) : Int) := by rw [wrap_id (by omega)]; omega
    have step : ∀ k, conclaveref04_Check.l0 (k + 1) l (i : Int) = (conclaveref04_vertex.f k l (i : Int)).bind fun t => if t = true then conclaveref04_Check.l0 k l (wrap64 ((i : Int) + 1)) else some false := fun k => by rw [conclaveref04_Check.l0, if_pos (by omega)]
    cases bv with
    | false => exact ⟨false, .succ step (hbv.bind (.const fun _ => rfl)), fun hb => by cases hb⟩
    | true =>
      refine ⟨b, .succ step (hbv.bind ?_), fun hbt x h1 h2 => ?_⟩
      · obtain ⟨K, hK⟩ := hb
        refine ⟨K, fun k hk => ?_⟩
        show (if true = true then _ else _) = _
        rw [if_pos rfl, e1]
        exact hK k hk
      · by_cases hxi : x = i
        · subst hxi; exact hok rfl
        · exact hp hbt x (by omega) h2
theorem ref_right (a : Int) (b : Bool) (h : conclaveref03_Right.f a = some b) (hb : b = true) : ∃ m : Nat, m ≤ 5 ∧ a = ((2 ^ m : Nat) : Int) := by
  subst hb
  unfold conclaveref03_Right.f at h
  by_cases h1 : a = 1
  · exact ⟨0, by omega, by simp [h1]⟩
  rw [if_neg h1] at h
  by_cases h2 : a = 2
  · exact ⟨1, by omega, by simp [h2]⟩
  rw [if_neg h2] at h
  by_cases h3 : a = 4
  · exact ⟨2, by omega, by simp [h3]⟩
  rw [if_neg h3] at h
  by_cases h4 : a = 8
  · exact ⟨3, by omega, by simp [h4]⟩
  rw [if_neg h4] at h
  by_cases h5 : a = 16
  · exact ⟨4, by omega, by simp [h5]⟩
  rw [if_neg h5] at h
  have : a = 32 := by simpa using h
  exact ⟨5, by omega, by simp [this]⟩
structure RightV (l : List S33) (m : Nat) : Prop where
  hm : m ≤ 5
  len : l.length = 2 * 2 ^ m - 1
  ok : ∀ x, x < l.length → OkVert l x
  num : ∀ x, x < l.length → 0 ≤ (VX l x).f1 ∧ (VX l x).f1 ≤ 90 ∧ 0 ≤ (VX l x).f3 ∧ (VX l x).f3 ≤ 90 ∧ 0 ≤ (VX l x).f4 ∧ (VX l x).f4 ≤ 90
theorem check_ev {l : List S33} (hw : WfV l) (hl : l.length ≤ 63) : ∃ b, Evr (fun k => conclaveref04_Check.f k l) b ∧ (b = true → ∃ m, m ≤ 5 ∧ l.length = 2 * 2 ^ m - 1 ∧ ∀ x, x < l.length → OkVert l x) := by
  unfold conclaveref04_Check.f
  have no : ∀ {P : Prop}, (false = true → P) := fun h => by cases h
  have stop : Evr (fun k => conclaveref04_Check.j0 k l true) false := .succ (f := fun _ => some false) (fun k => by rw [conclaveref04_Check.j0, if_pos rfl]) (.const fun _ => rfl)
  by_cases c : (l.length : Int) % 2 = 0
  · simp only [if_pos c]; exact ⟨false, stop, no⟩
  simp only [if_neg c]
  obtain ⟨n, hn⟩ : ∃ n, l.length = 2 * n - 1 ∧ 1 ≤ n ∧ n ≤ 32 := ⟨(l.length + 1) / 2, by omega, by omega, by omega⟩
  simp only [leaves_odd hn.1 hn.2.1 (by omega : n ≤ 1000), Option.bind_some]
  obtain ⟨br, hbr⟩ : ∃ b, conclaveref03_Right.f (n : Int) = some b := by
    unfold conclaveref03_Right.f
    repeat' (first | exact ⟨_, rfl⟩ | split)
  simp only [hbr, Option.bind_some]
  cases br with
  | false => exact ⟨false, stop, no⟩
  | true =>
    obtain ⟨m, hm, hnm⟩ := ref_right _ _ hbr rfl
    have hnm' : n = 2 ^ m := by exact_mod_cast hnm
    obtain ⟨bt, hbt⟩ := tight_l0 hn.1 hn.2.1 (by omega) (n - n / 2) (n / 2) (by omega)
    have ht : Evr (fun k => conclaveref04_Tight.f k l) bt := by
      obtain ⟨K, hK⟩ := hbt
      refine ⟨K, fun k hk => ?_⟩
      show conclaveref04_Tight.f k l = _
      unfold conclaveref04_Tight.f
      rw [leaves_odd hn.1 hn.2.1 (by omega), Option.bind_some, show Int.tdiv (n : Int) 2 = ((n / 2 : Nat) : Int) by rw [Int.tdiv_eq_ediv_of_nonneg (by omega)]; omega, wrap_id (by omega)]
      exact hK k hk
    simp only [if_true]
    cases bt with
    | false => exact ⟨false, ht.bind stop, no⟩
    | true =>
      obtain ⟨b, hb, hp⟩ := check_l0 hw hn.1 hn.2.1 hn.2.2 l.length 0 (by omega)
      refine ⟨b, ht.bind (.succ (f := fun k => conclaveref04_Check.l0 k l 0) (fun k => by show conclaveref04_Check.j0 (k + 1) l (!true) = _; rw [conclaveref04_Check.j0, if_neg (by decide)]) hb), fun hbt => ⟨m, hm, by rw [← hnm']; exact hn.1, fun x hx => hp hbt x (by omega) hx⟩⟩
theorem right_l0 {l : List S33} (hl : l.length ≤ 63) : ∀ (d i : Nat), d + i = l.length → ∃ b, Evr (fun k => conclavelaw05_right.l0 k 90 l (l.length : Int) (i : Int)) b ∧ (b = true → ∀ x, i ≤ x → x < l.length → 0 ≤ (VX l x).f1 ∧ (VX l x).f1 ≤ 90 ∧ 0 ≤ (VX l x).f3 ∧ (VX l x).f3 ≤ 90 ∧ 0 ≤ (VX l x).f4 ∧ (VX l x).f4 ≤ 90)
  | 0, i, hd => ⟨true, .succ (f := fun _ => some true) (fun k => by rw [conclavelaw05_right.l0, if_neg (by omega)]) (.const fun _ => rfl), fun _ x h1 h2 => by omega⟩
  | d + 1, i, hd => by
    obtain ⟨b, hb, hp⟩ := right_l0 hl d (i + 1) (by omega)
    have e1 : wrap64 ((i : Int) + 1) = ((i + 1 : Nat) : Int) := by rw [wrap_id (by omega)]; omega
    have no : ∀ {P : Prop}, (false = true → P) := fun h => by cases h
    have step : ∀ k, conclavelaw05_right.l0 (k + 1) 90 l (l.length : Int) (i : Int) = (if (VX l i).f1 < 0 then (some false) else (if (VX l i).f1 > 90 then (some false) else (if (VX l i).f3 < 0 then (some false) else (if (VX l i).f3 > 90 then (some false) else (if (VX l i).f4 < 0 then (some false) else (if (VX l i).f4 > 90 then (some false) else conclavelaw05_right.l0 k 90 l (l.length : Int) ((i + 1 : Nat) : Int))))))) := fun k => by
      rw [conclavelaw05_right.l0, if_pos (by omega), if_pos (by omega), if_pos (by omega), e1]
    by_cases c1 : (VX l i).f1 < 0
    · exact ⟨false, .succ (f := fun _ => some false) (fun k => by rw [step, if_pos c1]) (.const fun _ => rfl), no⟩
    by_cases c2 : (VX l i).f1 > 90
    · exact ⟨false, .succ (f := fun _ => some false) (fun k => by rw [step, if_neg c1, if_pos c2]) (.const fun _ => rfl), no⟩
    by_cases c3 : (VX l i).f3 < 0
    · exact ⟨false, .succ (f := fun _ => some false) (fun k => by rw [step, if_neg c1, if_neg c2, if_pos c3]) (.const fun _ => rfl), no⟩
    by_cases c4 : (VX l i).f3 > 90
    · exact ⟨false, .succ (f := fun _ => some false) (fun k => by rw [step, if_neg c1, if_neg c2, if_neg c3, if_pos c4]) (.const fun _ => rfl), no⟩
    by_cases c5 : (VX l i).f4 < 0
    · exact ⟨false, .succ (f := fun _ => some false) (fun k => by rw [step, if_neg c1, if_neg c2, if_neg c3, if_neg c4, if_pos c5]) (.const fun _ => rfl), no⟩
    by_cases c6 : (VX l i).f4 > 90
    · exact ⟨false, .succ (f := fun _ => some false) (fun k => by rw [step, if_neg c1, if_neg c2, if_neg c3, if_neg c4, if_neg c5, if_pos c6]) (.const fun _ => rfl), no⟩
    refine ⟨b, .succ (fun k => by rw [step, if_neg c1, if_neg c2, if_neg c3, if_neg c4, if_neg c5, if_neg c6]) hb, fun hbt x h1 h2 => ?_⟩
    by_cases hxi : x = i
    · subst hxi; omega
    · exact hp hbt x (by omega) h2
theorem guard_ev {l : List S33} (hw : WfV l) : ∃ b, Evr (fun k => conclavelaw05_right.f k l 90) b ∧ (b = true → ∃ m, RightV l m) := by
  unfold conclavelaw05_right.f
  have no : ∀ {P : Prop}, (false = true → P) := fun h => by cases h
  have stop : Evr (fun k => conclavelaw05_right.j0 k l 90 true) false := .succ (f := fun _ => some false) (fun k => by rw [conclavelaw05_right.j0, if_pos rfl]) (.const fun _ => rfl)
  by_cases c : (l.length : Int) > 63
  · simp only [if_pos c]; exact ⟨false, stop, no⟩
  simp only [if_neg c]
  obtain ⟨b, hb, hp⟩ := check_ev hw (by omega)
  cases b with
  | false => exact ⟨false, hb.bind stop, no⟩
  | true =>
    obtain ⟨b2, hb2, hp2⟩ := right_l0 (l := l) (by omega) l.length 0 (by omega)
    refine ⟨b2, hb.bind (.succ (f := fun k => conclavelaw05_right.l0 k 90 l (l.length : Int) 0) (fun k => by show conclavelaw05_right.j0 (k + 1) l 90 (!true) = _; rw [conclavelaw05_right.j0, if_neg (by decide)]) hb2), fun hbt => ?_⟩
    obtain ⟨m, hm, hlen, hok⟩ := hp rfl
    exact ⟨m, hm, hlen, hok, fun x hx => hp2 hbt x (by omega) hx⟩
end Go.Proofs.YtdipiigfjcaijaaDoor.Pure
