/- The table that the rows list, as the walks ask for it. -/
import Derived.Test.YtknllmcpogoeoaaDoorK2
import Derived.Test.YtknllmcpogoeoaaDoorHs
import Derived.Deep.DeepHandedRow
import Derived.Lib.LaidTab
namespace Go.Proofs.YtknllmcpogoeoaaDoor
open Go.ChangeShapes Go.WideShapes Go.ChangeAt Go.RowKit
set_option maxRecDepth 100000
theorem gTab : Tryd.prog.globalNamed "rootcause/digest.constants" = some 0 := by kernel_rfl
theorem gTabType : (Tryd.prog.globals[0]?).map (·.type) = some 91 := by kernel_rfl
theorem cells91 : Tryd.prog.cellsOf 91 = 64 := by kernel_rfl
theorem cells66 : Tryd.prog.cellsOf 66 = 1 := by kernel_rfl
theorem laidTab : ([("rootcause/digest.constants", Rows.laid_rootcause_digest_constants)] : List (String × DataW Unit)) = [("rootcause/digest.constants", Lib.tabData .u32 (kc.map fun x => (x.toNat : Int)))] := by kernel_rfl
theorem kcOf {W : World} (h : laidMetH Tryd.prog [("rootcause/digest.constants", Rows.laid_rootcause_digest_constants)] W) : Kc W := by
  have h' : laidMet Tryd.prog [("rootcause/digest.constants", Lib.tabData .u32 (kc.map fun x => (x.toNat : Int)))] W := by
    rw [← laidTab]; exact h
  have t : Lib.TabIs Tryd.prog W "rootcause/digest.constants" .u32 (kc.map fun x => (x.toNat : Int)) := Lib.tabIs_of_head gTab gTabType Tryd.underlying91 Tryd.underlying66 cells66 cells91 h'
  intro i hi
  have := t.cell gTab i (by simpa [kc] using hi)
  rw [this]
  have hl : i < kc.length := by simpa [kc] using hi
  simp [wn, wat, List.getD, hl]
theorem Kc.pos {W : World} (h : Kc W) : 0 < W.heap.size := World.block_lt_of_cell? W _ (h 0 (by omega))
end Go.Proofs.YtknllmcpogoeoaaDoor
