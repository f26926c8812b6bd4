/- The document's 'Can', walked. -/
import Derived.Test.YtmdfhaihbaiegaaYaoRefB
import Derived.Deep.DeepCutAuto
import Derived.Deep.Light
set_option linter.unusedVariables false
set_option linter.unusedSimpArgs false
namespace Go.Proofs.Ytmdfhaihbaiegaa
open Go.RowKit

def falses (n : Nat) : List Bool := List.replicate n false
def blkO (n : Nat) : Obj := .cells ((falses n).map Value.bool).toArray 4

theorem run_mk_bools (n : Nat) (hn : n ≤ 1000) (w : World) : (Instr.makeSlice 30 (.int .i64 ((n : Int) + 1)) (.int .i64 ((n : Int) + 1))).run Try.prog w = .ok (.slice (some ⟨w.heap.size, 0, none⟩) (n + 1) (n + 1)) (w.alloc (blkO (n + 1))) := by
  obtain ⟨i, hi, hz, hsize, hbytes⟩ := info_parts infoBool
  have h := run_make (P := Try.prog) w 30 4 i _ Try.underlying30 hi hz .i64 .i64 ((n : Int) + 1) ((n : Int) + 1) (by omega) (Int.le_refl _) (by rw [hbytes]; omega) (by omega)
  rw [h, hsize, show ((n : Int) + 1).toNat = n + 1 by omega, Nat.mul_one]
  have e : madeCells (Value.bool false).cells (n + 1) = ((falses (n + 1)).map Value.bool).toArray := by
    apply Array.ext
    · simp [madeCells, falses]
    · intro j h1 h2
      have h3 : (Value.bool false).cells = #[.bool false] := rfl
      simp [madeCells, falses, h3, Nat.mod_one]
  rw [e]
  rfl

theorem getD_falses (n i : Nat) : (falses n).getD i false = false := by
  unfold falses
  rw [List.getD_eq_getElem?_getD, List.getElem?_replicate]
  split <;> rfl

theorem canst0 (W : World) (N : List Nd) (S : Int → Prop) : CanSt W W.heap.size (W.heap.size + 1) N S (falses (N.length + 1)) (falses (N.length + 1)) ((W.alloc (blkO (N.length + 1))).alloc (blkO (N.length + 1))) := by
  have e : (W.alloc (blkO (N.length + 1))).heap.size = W.heap.size + 1 := by simp
  refine ⟨?_, ?_, by omega, by simp [falses], by simp [falses], Nat.le_refl _, by omega, ((Chg.refl none_ W).alloc _).alloc _, fun i hi => ?_, fun i hi => ?_⟩
  · exact (heap_alloc_lt (by simp)).trans heap_alloc_at
  · unfold BoolBlk; rw [← e]; exact heap_alloc_at
  · rw [getD_falses] at hi; cases hi
  · rw [getD_falses] at hi; cases hi

def KRel1 (W : World) (gk gc : Nat) (N : List Nd) (l : List Int) (i : Value) (wr : World) : Prop :=
  ∃ (k : Nat) (K : List Bool), k ≤ l.length ∧ i = .int .i64 k ∧ CanSt W gk gc N (fun x => x ∈ l) K (falses (N.length + 1)) wr ∧ ∀ t ∈ l.take k, knownB N.length t = true → cbI K t = true

def KRel2 (W : World) (gk gc : Nat) (N : List Nd) (l : List Int) (v : Value) (wr : World) : Prop :=
  ∃ (ag : Bool) (K C : List Bool), v = .bool ag ∧ CanSt W gk gc N (fun x => x ∈ l) K C wr ∧ (∀ t ∈ l, knownB N.length t = true → cbI K t = true) ∧ (ag = false → ∀ t : Nat, 0 < t → t ≤ N.length → CondA N K C t ∧ CondB N K C t)

def KRel3 (W : World) (gk gc : Nat) (N : List Nd) (l : List Int) (K0 C0 : List Bool) (v i : Value) (wr : World) : Prop :=
  ∃ (ag : Bool) (j : Nat) (K C : List Bool), j ≤ N.length ∧ v = .bool ag ∧ i = .int .i64 j ∧ CR W gk gc N (fun x => x ∈ l) K0 C0 j ag K C wr

def isT : Value → Bool | .bool b => b | _ => false
def cntB (w : World) (g : Nat) : Nat := match w.heap[g]? with | some (.cells c _ _) => c.toList.countP isT | _ => 0
theorem BoolBlk.count {w : World} {g : Nat} {C : List Bool} (h : BoolBlk w g C) : cntB w g = cnt C := by
  unfold cntB cnt
  rw [h]
  simp only [List.countP_map]
  congr 1
  funext b
  cases b <;> rfl

def ag2 : Value → Nat | .bool true => 1 | _ => 0

theorem CR.pass2 {W : World} {gk gc : Nat} {N : List Nd} {S : Int → Prop} {K0 C0 K C : List Bool} {j : Nat} {ag : Bool} {w : World} (h : CR W gk gc N S K0 C0 (j + 1) ag K C w) (hab : ag = false → CondA N K C (j + 1) ∧ CondB N K C (j + 1)) : CR W gk gc N S K0 C0 j ag K C w :=
  h.pass (fun e => by have := (hab e).1; rw [(h.dn e).1, (h.dn e).2.1] at this; exact this) (fun e => by have := (hab e).2; rw [(h.dn e).1, (h.dn e).2.1] at this; exact this)

/-- Behind the first half of a term's turn. -/
structure AFT (W : World) (gk gc : Nat) (N : List Nd) (S : Int → Prop) (K0 C0 : List Bool) (j X : Nat) (n : Nd) (ag : Bool) (K C : List Bool) (w : World) : Prop where
  cr : CR W gk gc N S K0 C0 j ag K C w
  box : w.heap[X]? = some (.cells n.cells.toArray 38 (0, 0))
  ca : CondA N K C j

/-- Within the second half, where both parts of a pair are told. -/
structure MID (W : World) (gk gc : Nat) (N : List Nd) (S : Int → Prop) (K0 C0 : List Bool) (j X : Nat) (n : Nd) (ib : Nat) (C : List Bool) (ag : Bool) (K : List Bool) (w : World) : Prop where
  cr : CR W gk gc N S K0 C0 j ag K C w
  box : w.heap[X]? = some (.cells n.cells.toArray 38 (0, 0))
  kb : K.getD ib false = true
  ca : ag = false → CondA N K C j

theorem getD_put {C : List Bool} {j : Nat} (h : j < C.length) : (C.set j true).getD j false = true := by rw [getD_set, if_pos ⟨rfl, h⟩]

set_option maxRecDepth 100000 in
set_option maxHeartbeats 8000000 in
theorem rcan_calls {W : World} {a1 : Option Addr} {c1 : Nat} {N : List Nd} {a2 : Option Addr} {c2 : Nat} {l : List Int} (hN : InNodes W a1 N) (hl : InI W a2 l) (hw : WF N) (hnl : N.length ≤ 1000) (hll : l.length ≤ 1000) :
    Calls Try.prog 10 #[.slice a1 N.length c1, .slice a2 l.length c2] W fun e w' => ∃ g C, e = .returned (rowV g (N.length + 1)) ∧ BoolBlk w' g C ∧ W.heap.size ≤ g ∧ Chg none_ W w' ∧ C.length = N.length + 1 ∧ ∀ t, knownB N.length t = true → (cbI C t = true ↔ CanD N (fun x => x ∈ l) t) := by
  have hnb : (N.length : Int) ≤ 1000 := by omega
  have hlb : (l.length : Int) ≤ 1000 := by omega
  have HN := Lib.hid hN
  have HL := Lib.hid hl
  have HW := Lib.hid hw
  have HNL := Lib.hid hnl
  have hmk := run_mk_bools N.length hnl
  have hst := canst0 W N (fun x => x ∈ l)
  have HST := Lib.hid hst
  clear hN hl hw hnl hll hst
  go_enter Try.func10, Try.ntmps10
  go_wp2
  generalize (W.alloc (blkO (N.length + 1))).alloc (blkO (N.length + 1)) = w0 at *
  generalize hgc : W.heap.size + 1 = gc at *
  generalize hgk : W.heap.size = gk at *
  have HG := Lib.hid (And.intro hgk hgc)
  clear hgk hgc
  clear hmk
  go_loopw [7] (fun i wr => KRel1 W gk gc N l i wr) (fun i _ => l.length - (intOf i).toNat)
  case atStart => exact ⟨0, _, Nat.zero_le _, rfl, HST.out, fun t h => by simp at h⟩
  case round =>
    clear HST
    obtain ⟨k, K, hk, rfl, hS, hall⟩ := hrel
    have HS := Lib.hid hS
    have HA := Lib.hid hall
    clear hS hall
    have hki : (k : Int) ≤ 1000 := by omega
    by_cases hlt : k < l.length
    · rcases HL.out with hnil | ⟨b, off, rfl, hb, hc⟩
      · rw [hnil] at hlt; simp at hlt
      have g0 := (cell_eq (i := off + k) (HS.out.kept.block b hb (fun h => h))).trans (hc k hlt)
      have htk : l.take (k + 1) = l.take k ++ [l[k]] := List.take_succ_eq_append_getElem hlt
      have hmem : l[k] ∈ l := List.getElem_mem hlt
      have HTK := Lib.hid (And.intro htk hmem)
      clear hc htk hmem
      generalize l[k] = x at *
      by_cases hx : knownB N.length x = true
      · have hx' := knownB_iff.1 hx
        obtain ⟨i, rfl⟩ : ∃ i : Nat, x = i := ⟨x.toNat, by omega⟩
        have b1 : decide ((1 : Int) ≤ (i : Int)) = true := by simpa using hx'.1
        have b2 : decide (i ≤ N.length) = true := by simp; omega
        have hil : i < N.length + 1 := by omega
        have hf := HS.out.k.free i
        have hc1 := HS.out.k.cell (i := i) (by rw [HS.out.kl]; omega)
        have hgl : gk < wr.heap.size := lt_of_heap HS.out.k
        have hn : KnD N (fun x => x ∈ l) i := (closedD _ _).given _ HTK.out.2 hx
        have HNX := Lib.hid (And.intro hn hx)
        clear hn hx hx'
        go_wp2
        refine ⟨⟨k + 1, K.set i true, by omega, by go_num, HS.out.setK HNX.out.1, fun t ht hkt => ?_⟩, by simp [intOf]; omega⟩
        rw [HTK.out.1, List.mem_append, List.mem_singleton] at ht
        have hkt' := knownB_iff.1 hkt
        unfold cbI
        rw [getD_set]
        by_cases e : i = t.toNat ∧ i < K.length
        · rw [if_pos e]
        · rw [if_neg e]
          rcases ht with h1 | rfl
          · exact HA.out t h1 hkt
          · exact absurd ⟨by simp, by rw [HS.out.kl]; omega⟩ e
      · have hfin : KRel1 W gk gc N l (.int .i64 ((k + 1 : Nat) : Int)) wr := by
          refine ⟨k + 1, K, by omega, rfl, HS.out, fun t ht hkt => ?_⟩
          rw [HTK.out.1, List.mem_append, List.mem_singleton] at ht
          rcases ht with h1 | rfl
          · exact HA.out t h1 hkt
          · exact absurd hkt hx
        have HF := Lib.hid hfin
        rw [knownB_iff] at hx
        clear hfin
        by_cases h1 : 1 ≤ x
        · have b1 : decide ((1 : Int) ≤ x) = true := by simpa using h1
          have b2 : decide (x ≤ (N.length : Int)) = false := by simp; omega
          clear hx h1
          go_wp2
          refine ⟨?_, by simp [intOf]; omega⟩
          rw [show (k : Int) + 1 = ((k + 1 : Nat) : Int) by omega]
          exact HF.out
        · have b1 : decide ((1 : Int) ≤ x) = false := by simpa using h1
          clear hx h1
          go_wp2
          refine ⟨?_, by simp [intOf]; omega⟩
          rw [show (k : Int) + 1 = ((k + 1 : Nat) : Int) by omega]
          exact HF.out
    · have hke : k = l.length := by omega
      subst hke
      have hall := HA.out
      rw [List.take_length] at hall
      have HA2 := Lib.hid hall
      clear hall HA hlt hk
      go_wp2
      go_loopw [8] (fun v wr => KRel2 W gk gc N l v wr) (fun v wr => ag2 v + (2 * (N.length + 1) - (cntB wr gk + cntB wr gc)))
      case atStart => exact ⟨true, K, _, rfl, HS.out, HA2.out, fun h => by cases h⟩
      case round =>
        clear HS HA2
        clear K
        obtain ⟨ag, K, C, rfl, hS, hall, hfin⟩ := hrel
        have HS := Lib.hid hS
        have HA := Lib.hid hall
        have HFI := Lib.hid hfin
        clear hS hall hfin
        cases ag
        · have hex := can_exact HW.out HS.out HA.out (HFI.out rfl)
          have hge := HS.out.gc0
          have HE := Lib.hid (And.intro HS.out.c (And.intro hge (And.intro HS.out.kept (And.intro HS.out.cl hex))))
          clear hex hge HS HA HFI
          go_wp2
          go_ret
          exact ⟨gc, C, rfl, HE.out.1, HE.out.2.1, HE.out.2.2.1, HE.out.2.2.2.1, HE.out.2.2.2.2⟩
        · clear HFI
          obtain ⟨wo, rfl⟩ : ∃ x, x = wr := ⟨_, rfl⟩
          have hcnt : cntB wo gk + cntB wo gc = cnt K + cnt C := by rw [HS.out.k.count, HS.out.c.count]
          have HCN := Lib.hid hcnt
          clear hcnt
          go_wp2
          go_loopw [8, 9] (fun v i wr' => KRel3 W gk gc N l K C v i wr') (fun _ i _ => (intOf i).toNat)
          case atStart => exact ⟨false, N.length, K, C, Nat.le_refl _, rfl, rfl, HS.out, fun i h => h, fun h => (by cases h), fun _ => ⟨rfl, rfl, fun t h1 h2 => by omega⟩⟩
          case round =>
            clear HS
            obtain ⟨ag, j, K1, C1, hj, rfl, rfl, hR⟩ := hrel
            have hjb : (j : Int) ≤ 1000 := by omega
            have HR := Lib.hid hR
            clear hR
            by_cases hj0 : j = 0
            · subst hj0
              have h1 : KRel2 W gk gc N l (.bool ag) wr := ⟨ag, K1, C1, rfl, HR.out.st, fun t ht hkt => HR.out.monoK _ (HA.out t ht hkt), fun e => by
                obtain ⟨e1, e2, e3⟩ := HR.out.dn e
                rw [e1, e2]
                exact fun t h1 h2 => e3 t h1 h2⟩
              have h2 : ag2 (.bool ag) + (2 * (N.length + 1) - (cntB wr gk + cntB wr gc)) < ag2 (.bool true) + (2 * (N.length + 1) - (cntB wo gk + cntB wo gc)) := by
                rw [HCN.out, HR.out.st.k.count, HR.out.st.c.count]
                have h3 := cnt_le K1
                have h4 := cnt_le C1
                rw [HR.out.st.kl] at h3
                rw [HR.out.st.cl] at h4
                have e1 : ag2 (.bool true) = 1 := rfl
                have e0 : ag2 (.bool false) = 0 := rfl
                cases ag with
                | true => have := HR.out.up rfl; omega
                | false => obtain ⟨e3, e4, _⟩ := HR.out.dn rfl; rw [e3] at h3 ⊢; rw [e4] at h4 ⊢; omega
              have H1 := Lib.hid h1
              have H2 := Lib.hid h2
              clear h1 h2
              go_wp2
              exact ⟨H1.out, H2.out⟩
            · obtain ⟨i, rfl⟩ : ∃ i : Nat, j = i + 1 := ⟨j - 1, by omega⟩
              have hi : i < N.length := by omega
              have hkn : knownB N.length ((i + 1 : Nat) : Int) = true := knownB_iff.2 ⟨by omega, by omega⟩
              rcases HN.out with hnil | ⟨b, off, rfl, hb, hc⟩
              · rw [hnil] at hi; simp at hi
              obtain ⟨f0, f1, f2, f3⟩ := hc i hi
              have hblk := HR.out.st.kept.block b hb (fun h => h)
              have g0 := (cell_eq hblk).trans f0
              have g1 := (cell_eq hblk).trans f1
              have g2 := (cell_eq hblk).trans f2
              have g3 := (cell_eq hblk).trans f3
              have hbl : b < wr.heap.size := Nat.lt_of_lt_of_le hb HR.out.st.kept.size
              have hgn : getN N ((i + 1 : Nat) : Int) = N[i] := by
                unfold getN
                rw [if_pos hkn, show ((i + 1 : Nat) : Int) = (i : Int) + 1 by omega, nodeAt_get N hi]
              have hwp := wf_parts HW.out hkn
              have hpi := partsIn_of HW.out hkn (n := N.length + 1) rfl
              rw [hgn] at hwp hpi
              clear f0 f1 f2 f3 hblk
              generalize N[i] = n at *
              obtain ⟨k0, l0, a0, b0⟩ := n
              have HGN := Lib.hid hgn
              have HWP := Lib.hid hwp
              have HPI := Lib.hid hpi
              have HKN := Lib.hid hkn
              have HC := Lib.hid hc
              clear hgn hwp hpi hkn hj0 hc
              go_upto_region 15 with fail
              have hRg := HR.out.still ((Chg.refl none_ wr).alloc (.cells #[.int .i64 k0, .string l0, .int .i64 a0, .int .i64 b0] 38))
              have hbx : (wr.alloc (.cells #[.int .i64 k0, .string l0, .int .i64 a0, .int .i64 b0] 38)).heap[wr.heap.size]? = some (.cells #[.int .i64 k0, .string l0, .int .i64 a0, .int .i64 b0] 38 (0, 0)) := heap_alloc_at
              have hXc : wr.heap.size ≠ gc := by have := lt_of_heap HR.out.st.c; omega
              have hXk : wr.heap.size ≠ gk := by have := lt_of_heap HR.out.st.k; omega
              have hXW : W.heap.size ≤ wr.heap.size := HR.out.st.kept.size
              clear g0 g1 g2 g3 hbl HR
              generalize wr.alloc (.cells #[.int .i64 k0, .string l0, .int .i64 a0, .int .i64 b0] 38) = wg at *
              generalize wr.heap.size = X at *
              have e0 := cell_of hbx 0
              have e1 := cell_of hbx 1
              have e2 := cell_of hbx 2
              have e3 := cell_of hbx 3
              simp only [List.getElem?_toArray, List.getElem?_cons_zero, List.getElem?_cons_succ] at e0 e1 e2 e3
              have hX : X < wg.heap.size := lt_of_heap hbx
              have hcl := hRg.st.cl
              have hkl := hRg.st.kl
              have hcC := hRg.st.c.cell (i := i + 1) (by omega)
              have hcK := hRg.st.k.cell (i := i + 1) (by omega)
              have hfC := hRg.st.c.free (i + 1)
              have hgcl : gc < wg.heap.size := lt_of_heap hRg.st.c
              have hgkl : gk < wg.heap.size := lt_of_heap hRg.st.k
              have hmd := rmade_calls hRg.st.c (by omega) ⟨k0, l0, a0, b0⟩ (by rw [hcl]; exact HPI.out)
              rw [hcl] at hmd
              have HMD := Lib.hid hmd
              have HRG := Lib.hid hRg
              have HBX := Lib.hid hbx
              have HCL := Lib.hid (And.intro hcl hkl)
              have HXX := Lib.hid (And.intro hXc (And.intro hXk hXW))
              have hi2 : i + 1 < N.length + 1 := by omega
              clear hmd hRg hbx hcl hkl hXc hXk hXW
              generalize hx0 : C1.getD (i + 1) false = x0 at *
              generalize hy0 : K1.getD (i + 1) false = y0 at *
              obtain ⟨mb, hmb⟩ : ∃ mb, madeB (cbI C1) ⟨k0, l0, a0, b0⟩ = mb := ⟨_, rfl⟩
              have HXY := Lib.hid (And.intro hx0 (And.intro hy0 hmb))
              clear hx0 hy0 hmb
              go_cut [73] (fun v wx => v = .bool (!x0 && (y0 || mb)) ∧ Chg none_ wg wx)
              case first => as_aux_lemma =>
                cases x0
                · cases y0
                  · have hmd := HMD.out
                    dsimp only at hmd
                    rw [HXY.out.2.2] at hmd
                    have HM2 := Lib.hid hmd
                    clear hmd HMD
                    go_wp2_with fail
                    refine HM2.out.mono ?_
                    rintro e w6 ⟨rfl, hc6⟩
                    have HC6 := Lib.hid hc6
                    clear hc6
                    go_wp2
                    go_meet
                    exact ⟨by cases mb <;> rfl, HC6.out⟩
                  · clear HMD
                    go_wp2
                    go_meet
                    exact ⟨rfl, Chg.refl _ _⟩
                · clear HMD
                  go_wp2
                  go_meet
                  exact ⟨rfl, Chg.refl _ _⟩
              case rest =>
              obtain ⟨rfl, hc6⟩ := hcut
              have hRc := HRG.out.still hc6
              have hbx := (hc6.block X hX (fun h => h)).trans HBX.out
              have hlt : i + 1 < C1.length := by rw [HCL.out.1]; omega
              have hafF : (!x0 && (y0 || mb)) = false → AFT W gk gc N (fun x => x ∈ l) K C (i + 1) X ⟨k0, l0, a0, b0⟩ ag K1 C1 wc := fun hb => by
                refine ⟨hRc, hbx, fun h => ?_, fun h => ?_⟩
                · rw [HXY.out.2.1] at h
                  subst h
                  rw [HXY.out.1]
                  cases x0 <;> simp_all
                · rw [HGN.out] at h
                  have h2 := (madeB_iff (cbI C1) ⟨k0, l0, a0, b0⟩).2 h
                  rw [HXY.out.2.2] at h2
                  subst h2
                  rw [HXY.out.1]
                  cases x0 <;> simp_all
              have hafT : (!x0 && (y0 || mb)) = true → AFT W gk gc N (fun x => x ∈ l) K C (i + 1) X ⟨k0, l0, a0, b0⟩ true K1 (C1.set (i + 1) true) (wc.setCell ⟨gc, i + 1, none⟩ (.bool true)) := fun hb => by
                have hx0 : x0 = false := by cases x0 <;> simp_all
                subst hx0
                have hsd : CanD N (fun x => x ∈ l) ((i + 1 : Nat) : Int) := by
                  cases y0
                  · have hmt : mb = true := by simpa using hb
                    have h2 := HXY.out.2.2
                    rw [hmt] at h2
                    exact (closedD _ _).made _ HKN.out (by
                      rw [HGN.out]
                      exact ((madeB_iff (cbI C1) ⟨k0, l0, a0, b0⟩).1 h2).mono fun x hx => hRc.st.sound HW.out hx)
                  · exact (closedD _ _).kc _ (hRc.st.ks (i + 1) HXY.out.2.1)
                exact ⟨hRc.putC hsd hlt HXY.out.1, (heap_setCell_ne HXX.out.1).trans hbx, fun _ => getD_put hlt, fun _ => getD_put hlt⟩
              have hfc := hRc.st.c.free (i + 1)
              have hcc := hRc.st.c.cell (i := i + 1) hlt
              rw [HXY.out.1] at hcc
              have hgcl' : gc < wc.heap.size := lt_of_heap hRc.st.c
              generalize (!x0 && (y0 || mb)) = bb at *
              have HAF := Lib.hid hafF
              have HAT := Lib.hid hafT
              clear hafF hafT hRc hbx hc6 HMD HRG HBX hcC hcK hfC hgcl hgkl hX e0 e1 e2 e3
              go_upto_if 73 with fail
              go_cut [8] (fun v8 wx => ∃ ag' C2, v8 = .bool ag' ∧ AFT W gk gc N (fun x => x ∈ l) K C (i + 1) X ⟨k0, l0, a0, b0⟩ ag' K1 C2 wx)
              case first => as_aux_lemma =>
                cases bb
                · go_wp2
                  go_meet
                  exact ⟨ag, C1, rfl, HAF.out trivial⟩
                · go_wp2
                  go_meet
                  exact ⟨true, _, rfl, HAT.out trivial⟩
              case rest =>
              clear hlt hfc hcc hgcl' HAF HAT
              obtain ⟨ag2, C2, rfl, hA⟩ := hcut
              have hkd0 := HKN.out
              have hXr : X ≠ gk := HXX.out.2.1
              have hcl := hA.cr.st.cl
              have hkl := hA.cr.st.kl
              have hcK := hA.cr.st.k.cell (i := i + 1) (by omega)
              rw [HXY.out.2.1] at hcK
              have hgkl' : gk < wc.heap.size := lt_of_heap hA.cr.st.k
              have hgcl' : gc < wc.heap.size := lt_of_heap hA.cr.st.c
              have hX : X < wc.heap.size := lt_of_heap hA.box
              have e0 := cell_of hA.box 0
              have e1 := cell_of hA.box 1
              have e2 := cell_of hA.box 2
              have e3 := cell_of hA.box 3
              simp only [Nd.cells, List.getElem?_toArray, List.getElem?_cons_zero, List.getElem?_cons_succ] at e0 e1 e2 e3
              have HA2 := Lib.hid hA
              clear hA hkd0 hXr
              cases y0
              · have h1 : KRel3 W gk gc N l K C (.bool ag2) (.int .i64 (i : Int)) wc := ⟨ag2, i, K1, C2, by omega, rfl, rfl, HA2.out.cr.pass2 fun e => ⟨HA2.out.ca, fun h => by rw [HXY.out.2.1] at h; cases h⟩⟩
                have H1 := Lib.hid h1
                clear h1
                go_wp2
                exact ⟨H1.out, by simp [intOf] <;> omega⟩
              · have hkd : KnD N (fun x => x ∈ l) ((i + 1 : Nat) : Int) := HA2.out.cr.st.ks _ HXY.out.2.1
                have hap : ∀ x, ApartP N (CanD N fun x => x ∈ l) ⟨k0, l0, a0, b0⟩ x → KnD N (fun x => x ∈ l) x := fun x hx => (closedD _ _).apart _ x hkd (by rw [HGN.out]; exact hx)
                have hend : ∀ (ag' : Bool) (K' : List Bool) (w' : World), CR W gk gc N (fun x => x ∈ l) K C (i + 1) ag' K' C2 w' → (ag' = false → CondA N K' C2 (i + 1) ∧ CondB N K' C2 (i + 1)) → KRel3 W gk gc N l K C (.bool ag') (.int .i64 (i : Int)) w' := fun ag' K' w' h1 h2 => ⟨ag', i, K', C2, by omega, rfl, rfl, h1.pass2 h2⟩
                have HAP := Lib.hid hap
                have HEN := Lib.hid hend
                clear hkd hap hend
                by_cases k3 : k0 = 3
                · subst k3
                  have hw1 := HWP.out.1 (.inl rfl)
                  dsimp only at hw1
                  obtain ⟨ia, rfl⟩ : ∃ x : Nat, a0 = x := ⟨a0.toNat, by omega⟩
                  obtain ⟨ib, rfl⟩ : ∃ x : Nat, b0 = x := ⟨b0.toNat, by omega⟩
                  have hia : ia < N.length + 1 := by omega
                  have hib : ib < N.length + 1 := by omega
                  have hkb : KnD N (fun x => x ∈ l) ib := HAP.out ib (.inl ⟨rfl, .inr rfl⟩)
                  have hka : KnD N (fun x => x ∈ l) ia := HAP.out ia (.inl ⟨rfl, .inl rfl⟩)
                  have cb := HA2.out.cr.st.k.cell (i := ib) (by omega)
                  have fb := HA2.out.cr.st.k.free ib
                  obtain ⟨yb, hyb⟩ : ∃ y, K1.getD ib false = y := ⟨_, rfl⟩
                  rw [hyb] at cb
                  have hmF : yb = true → MID W gk gc N (fun x => x ∈ l) K C (i + 1) X ⟨3, l0, ia, ib⟩ ib C2 ag2 K1 wc := fun h => ⟨HA2.out.cr, HA2.out.box, by rw [hyb, h], fun _ => HA2.out.ca⟩
                  have hmT : yb = false → MID W gk gc N (fun x => x ∈ l) K C (i + 1) X ⟨3, l0, ia, ib⟩ ib C2 true (K1.set ib true) (wc.setCell ⟨gk, ib, none⟩ (.bool true)) := fun h => by
                    subst h
                    exact ⟨HA2.out.cr.putK hkb (by omega) hyb, (heap_setCell_ne HXX.out.2.1).trans HA2.out.box, getD_put (by omega), fun e => by cases e⟩
                  have HMF := Lib.hid hmF
                  have HMT := Lib.hid hmT
                  have HKA := Lib.hid hka
                  clear hmF hmT hkb hka hyb hw1 hcl hkl HA2
                  go_upto_if 114 with fail
                  go_cut [8] (fun v8 wx => ∃ ag3 K3, v8 = .bool ag3 ∧ MID W gk gc N (fun x => x ∈ l) K C (i + 1) X ⟨3, l0, ia, ib⟩ ib C2 ag3 K3 wx)
                  case first => as_aux_lemma =>
                    cases yb
                    · go_wp2
                      go_meet
                      exact ⟨true, _, rfl, HMT.out trivial⟩
                    · go_wp2
                      go_meet
                      exact ⟨ag2, K1, rfl, HMF.out trivial⟩
                  case rest =>
                  clear e0 e1 e2 e3 hX hgkl' hgcl' hcK cb fb HMF HMT
                  obtain ⟨ag3, K3, rfl, hM⟩ := hcut
                  have hgkl' : gk < wc.heap.size := lt_of_heap hM.cr.st.k
                  have hX : X < wc.heap.size := lt_of_heap hM.box
                  have e0 := cell_of hM.box 0
                  have e2 := cell_of hM.box 2
                  simp only [Nd.cells, List.getElem?_toArray, List.getElem?_cons_zero, List.getElem?_cons_succ] at e0 e2
                  have hkl := hM.cr.st.kl
                  have ca := hM.cr.st.k.cell (i := ia) (by omega)
                  have fa := hM.cr.st.k.free ia
                  obtain ⟨ya, hya⟩ : ∃ y, K3.getD ia false = y := ⟨_, rfl⟩
                  rw [hya] at ca
                  cases ya
                  · have hp := hM.cr.putK HKA.out (by omega) hya
                    have h1 := HEN.out true _ _ hp (fun e => by cases e)
                    have H1 := Lib.hid h1
                    clear h1 hp hya hM
                    go_wp2
                    exact ⟨H1.out, by simp [intOf] <;> omega⟩
                  · have h1 := HEN.out ag3 K3 wc hM.cr fun e => ⟨hM.ca e, fun _ x hx => by
                      rw [HGN.out] at hx
                      rcases hx with ⟨_, h | h⟩ | ⟨h, _⟩ | ⟨h, _⟩
                      · subst h; exact hya
                      · subst h; exact hM.kb
                      · exact absurd h (by dsimp only; omega)
                      · exact absurd h (by dsimp only; omega)⟩
                    have H1 := Lib.hid h1
                    clear h1 hya hM
                    go_wp2
                    exact ⟨H1.out, by simp [intOf] <;> omega⟩
                by_cases k7 : k0 = 7
                · subst k7
                  have hw1 := HWP.out.1 (.inr (.inr (.inl rfl)))
                  dsimp only at hw1
                  obtain ⟨ia, rfl⟩ : ∃ x : Nat, a0 = x := ⟨a0.toNat, by omega⟩
                  obtain ⟨ib, rfl⟩ : ∃ x : Nat, b0 = x := ⟨b0.toNat, by omega⟩
                  have hia : ia < N.length + 1 := by omega
                  have hib : ib < N.length + 1 := by omega
                  have ca := HA2.out.cr.st.c.cell (i := ia) (by omega)
                  generalize hxa : C2.getD ia false = xa at *
                  clear hcl hkl
                  cases xa
                  · have h1 := HEN.out ag2 K1 wc HA2.out.cr fun e => ⟨HA2.out.ca, fun _ x hx => by
                      rw [HGN.out] at hx
                      rcases hx with ⟨h, _⟩ | ⟨_, h, _⟩ | ⟨h, _⟩
                      · exact absurd h (by dsimp only; omega)
                      · unfold cbI at h
                        dsimp only at h
                        rw [Int.toNat_natCast, hxa] at h
                        cases h
                      · exact absurd h (by dsimp only; omega)⟩
                    have H1 := Lib.hid h1
                    clear h1 hxa
                    go_wp2
                    exact ⟨H1.out, by simp [intOf] <;> omega⟩
                  · have hca : CanD N (fun x => x ∈ l) ia := HA2.out.cr.st.cs _ hxa
                    have hkl := HA2.out.cr.st.kl
                    have hkb : KnD N (fun x => x ∈ l) ib := HAP.out ib (.inr (.inl ⟨rfl, hca, rfl⟩))
                    have cb := HA2.out.cr.st.k.cell (i := ib) (by omega)
                    have fb := HA2.out.cr.st.k.free ib
                    generalize hyb : K1.getD ib false = yb at *
                    cases yb
                    · have hp := HA2.out.cr.putK hkb (by omega) hyb
                      have h1 := HEN.out true _ _ hp (fun e => by cases e)
                      have H1 := Lib.hid h1
                      clear h1 hp hkb hyb hca hxa hkl
                      go_wp2
                      exact ⟨H1.out, by simp [intOf] <;> omega⟩
                    · have h1 := HEN.out ag2 K1 wc HA2.out.cr fun e => ⟨HA2.out.ca, fun _ x hx => by
                        rw [HGN.out] at hx
                        rcases hx with ⟨h, _⟩ | ⟨h, _, h2⟩ | ⟨h, _, h2⟩
                        · exact absurd h (by dsimp only; omega)
                        · subst h2; exact hyb
                        · subst h2; exact hyb⟩
                      have H1 := Lib.hid h1
                      clear h1 hkb hyb hca hxa hkl
                      go_wp2
                      exact ⟨H1.out, by simp [intOf] <;> omega⟩
                by_cases k8 : k0 = 8
                · subst k8
                  have hw1 := HWP.out.1 (.inr (.inr (.inr (.inl rfl))))
                  dsimp only at hw1
                  obtain ⟨ia, rfl⟩ : ∃ x : Nat, a0 = x := ⟨a0.toNat, by omega⟩
                  obtain ⟨ib, rfl⟩ : ∃ x : Nat, b0 = x := ⟨b0.toNat, by omega⟩
                  have hia : ia < N.length + 1 := by omega
                  have hib : ib < N.length + 1 := by omega
                  have hw3 := HWP.out.2.2 rfl
                  dsimp only at hw3
                  obtain ⟨id, rfl⟩ : ∃ x : Nat, ia = x + 1 := ⟨ia - 1, by omega⟩
                  have hid : id < N.length := by omega
                  have f2 := (HC.out id hid).2.2.1
                  have g2 := (cell_eq (HA2.out.cr.st.kept.block b hb (fun h => h))).trans f2
                  have hgn : getN N ((id + 1 : Nat) : Int) = N[id] := by
                    unfold getN
                    rw [if_pos (knownB_iff.2 ⟨by omega, by omega⟩), show ((id + 1 : Nat) : Int) = (id : Int) + 1 by omega, nodeAt_get N hid]
                  rw [hgn] at hw3
                  have HGI := Lib.hid hgn
                  clear hgn f2
                  generalize N[id] = m at *
                  obtain ⟨mk, ml, ma, mb'⟩ := m
                  dsimp only at hw3 g2
                  obtain ⟨ic, rfl⟩ : ∃ x : Nat, ma = x := ⟨ma.toNat, by omega⟩
                  have hic : ic < N.length + 1 := by omega
                  have hbl : b < wc.heap.size := Nat.lt_of_lt_of_le hb HA2.out.cr.st.kept.size
                  have cc := HA2.out.cr.st.c.cell (i := ic) (by omega)
                  generalize hxa : C2.getD ic false = xa at *
                  clear hcl hkl hw3 hw1
                  cases xa
                  · have h1 := HEN.out ag2 K1 wc HA2.out.cr fun e => ⟨HA2.out.ca, fun _ x hx => by
                      rw [HGN.out] at hx
                      rcases hx with ⟨h, _⟩ | ⟨h, _⟩ | ⟨_, h, _⟩
                      · exact absurd h (by dsimp only; omega)
                      · exact absurd h (by dsimp only; omega)
                      · unfold cbI at h
                        dsimp only at h
                        rw [HGI.out] at h
                        dsimp only at h
                        rw [Int.toNat_natCast, hxa] at h
                        cases h⟩
                    have H1 := Lib.hid h1
                    clear h1 hxa
                    go_wp2
                    exact ⟨H1.out, by simp [intOf] <;> omega⟩
                  · have hca : CanD N (fun x => x ∈ l) (getN N ((id + 1 : Nat) : Int)).a := by rw [HGI.out]; exact HA2.out.cr.st.cs _ hxa
                    have hkl := HA2.out.cr.st.kl
                    have hXr : X ≠ gk := HXX.out.2.1
                    have hXr2 : gk ≠ X := fun h => HXX.out.2.1 h.symm
                    have hkb : KnD N (fun x => x ∈ l) ib := HAP.out ib (.inr (.inr ⟨rfl, hca, rfl⟩))
                    have cb := HA2.out.cr.st.k.cell (i := ib) (by omega)
                    have fb := HA2.out.cr.st.k.free ib
                    generalize hyb : K1.getD ib false = yb at *
                    cases yb
                    · have hp := HA2.out.cr.putK hkb (by omega) hyb
                      have h1 := HEN.out true _ _ hp (fun e => by cases e)
                      have H1 := Lib.hid h1
                      clear h1 hp hkb hyb hca hxa hkl
                      go_wp2
                      exact ⟨H1.out, by simp [intOf] <;> omega⟩
                    · have h1 := HEN.out ag2 K1 wc HA2.out.cr fun e => ⟨HA2.out.ca, fun _ x hx => by
                        rw [HGN.out] at hx
                        rcases hx with ⟨h, _⟩ | ⟨h, _, h2⟩ | ⟨h, _, h2⟩
                        · exact absurd h (by dsimp only; omega)
                        · subst h2; exact hyb
                        · subst h2; exact hyb⟩
                      have H1 := Lib.hid h1
                      clear h1 hkb hyb hca hxa hkl
                      go_wp2
                      exact ⟨H1.out, by simp [intOf] <;> omega⟩
                · have b3 : (k0 == 3) = false := by simpa using k3
                  have b7 : (k0 == 7) = false := by simpa using k7
                  have b8 : (k0 == 8) = false := by simpa using k8
                  have h1 := HEN.out ag2 K1 wc HA2.out.cr fun e => ⟨HA2.out.ca, fun _ x hx => by
                    rw [HGN.out] at hx
                    rcases hx with ⟨h, _⟩ | ⟨h, _⟩ | ⟨h, _⟩
                    · exact absurd h k3
                    · exact absurd h k7
                    · exact absurd h k8⟩
                  have H1 := Lib.hid h1
                  clear h1 k3 k7 k8
                  go_wp2
                  exact ⟨H1.out, by simp [intOf] <;> omega⟩

end Go.Proofs.Ytmdfhaihbaiegaa
