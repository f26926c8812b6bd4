/- What this claim reaches of a longer text of this session. -/
import Derived.Test.YtbblomnhobodkaaDoorPTwx0
import Derived.Test.YtbblomnhobodkaaDoorPTwx1
import Derived.Test.YtbblomnhobodkaaDoorBase
import Derived.Shelf.Spec.TrailingZeros
import Derived.Lib.ItoaNum
import Derived.Lib.LaidTab
import Derived.Test.YtbblomnhobodkaaDoorRangeCell
import Derived.Laws.Bits64
import Derived.Lib.Hide
import Derived.RangeFuncBox
import Derived.Maps.AppendAt
import Derived.Lib.SliceRun
import Derived.Test.YtbblomnhobodkaaDoorShelf
import Derived.Shelf.Spec.SlicesInsert
import Derived.Shelf.Spec.SlicesInsertGrow
import Derived.Test.YtbblomnhobodkaaDoorMix
import Derived.Test.YtbblomnhobodkaaDoorWFoot
import Derived.Deep.DeepCutAuto
namespace Go.Proofs.YtbblomnhobodkaaDoor.PTw
open Go.RowKit Go.Proofs.YtbblomnhobodkaaDoorW.PrintWords Go.Proofs.YtbblomnhobodkaaDoorW.PrintLast Go.Proofs.YtbblomnhobodkaaDoorW.PrintMore
attribute [local go_sem] max2_int min2_int max_two min_two max_three min_three max_four min_four   -- for this text's walks alone
set_option linter.unusedVariables false
set_option linter.unusedSimpArgs false
theorem grown_box {w2 w3 : World} {g t : Nat} {z0 z1 z2 z3 z4 z5 z6 z7 z8 v0 v1 v2 v3 v4 v5 v6 v7 v8 : Value} (hw : w3 = (((((((((w2.setCell ⟨g, 0, none⟩ v0).setCell ⟨g, 1, none⟩ v1).setCell ⟨g, 2, none⟩ v2).setCell ⟨g, 3, none⟩ v3).setCell ⟨g, 4, none⟩ v4).setCell ⟨g, 5, none⟩ v5).setCell ⟨g, 6, none⟩ v6).setCell ⟨g, 7, none⟩ v7).setCell ⟨g, 8, none⟩ v8)) (h : w2.heap[g]? = some (.cells #[z0, z1, z2, z3, z4, z5, z6, z7, z8] t (0, 0))) : w3.heap[g]? = some (.cells #[v0, v1, v2, v3, v4, v5, v6, v7, v8] t (0, 0)) := by
  subst hw
  have h0 := blk_put h 0 v0 (cs' := #[v0, z1, z2, z3, z4, z5, z6, z7, z8]) rfl
  have h1 := blk_put h0 1 v1 (cs' := #[v0, v1, z2, z3, z4, z5, z6, z7, z8]) rfl
  have h2 := blk_put h1 2 v2 (cs' := #[v0, v1, v2, z3, z4, z5, z6, z7, z8]) rfl
  have h3 := blk_put h2 3 v3 (cs' := #[v0, v1, v2, v3, z4, z5, z6, z7, z8]) rfl
  have h4 := blk_put h3 4 v4 (cs' := #[v0, v1, v2, v3, v4, z5, z6, z7, z8]) rfl
  have h5 := blk_put h4 5 v5 (cs' := #[v0, v1, v2, v3, v4, v5, z6, z7, z8]) rfl
  have h6 := blk_put h5 6 v6 (cs' := #[v0, v1, v2, v3, v4, v5, v6, z7, z8]) rfl
  have h7 := blk_put h6 7 v7 (cs' := #[v0, v1, v2, v3, v4, v5, v6, v7, z8]) rfl
  have h8 := blk_put h7 8 v8 (cs' := #[v0, v1, v2, v3, v4, v5, v6, v7, v8]) rfl
  exact h8
theorem grown_below {w w2 w3 : World} {g : Nat} {v0 v1 v2 v3 v4 v5 v6 v7 v8 : Value} (hw : w3 = (((((((((w2.setCell ⟨g, 0, none⟩ v0).setCell ⟨g, 1, none⟩ v1).setCell ⟨g, 2, none⟩ v2).setCell ⟨g, 3, none⟩ v3).setCell ⟨g, 4, none⟩ v4).setCell ⟨g, 5, none⟩ v5).setCell ⟨g, 6, none⟩ v6).setCell ⟨g, 7, none⟩ v7).setCell ⟨g, 8, none⟩ v8)) (hb : Below w.heap.size w w2) (hg : w.heap.size ≤ g) : Below w.heap.size w w3 := by
  subst hw
  exact (below_set (below_set (below_set (below_set (below_set (below_set (below_set (below_set (below_set hb hg) hg) hg) hg) hg) hg) hg) hg) hg)
theorem V_int {w : World} {A : Option Addr} {l : List Int} {c base : Nat} (hl : l.length ≤ c) (h : (Kd.int .i64).C w A l.length l) : Kd.V (Kd.int .i64) 3 w base (fun _ => True) (.slice A l.length c) l := Kd.V_mk hl (fun W' hW => Kd.Heap.C (Kd.heap_int .i64) (fun k_ hk => hW k_ trivial hk) h)
end Go.Proofs.YtbblomnhobodkaaDoor.PTw
