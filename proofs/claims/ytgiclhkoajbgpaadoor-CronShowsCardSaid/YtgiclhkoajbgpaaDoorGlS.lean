/-
  What CronShows' listed variables give to the walk.
-/
import Derived.Test.YtgiclhkoajbgpaaDoorGlC
import Derived.Test.YtgiclhkoajbgpaaDoorGb
namespace Go.Proofs.YtgiclhkoajbgpaaDoor
open Go.RowKit
theorem gDb : Tryd.prog.globalNamed "math/bits.deBruijn64tab" = some 2 := by kernel_rfl
theorem gDbType : (Tryd.prog.globals[2]?).map (·.type) = some 121 := by kernel_rfl
theorem cells121 : Tryd.prog.cellsOf 121 = 64 := by kernel_rfl
theorem cells5 : Tryd.prog.cellsOf 5 = 1 := by kernel_rfl
theorem db_eq : ∀ j, j < 64 → db64[j]? = some ((Lib.deBruijn64tab.getD j 0 : Nat) : Int) := by decide
theorem tab_of {W : World} (h : Lib.TabIs Tryd.prog W "math/bits.deBruijn64tab" .u8 db64) : TabT W := fun j hj => by
  have hc := h.cell gDb j (by show _ < 64; exact hj)
  rw [hc, List.getD_eq_getElem?_getD, db_eq j hj]
  rfl
theorem globS_of_laid {W : World} (h : laidMetH Tryd.prog Rows.cronShowsRow.laid W) : LensIs W ∧ BoundsIs W ∧ TabT W := by
  have h' : laidMet Tryd.prog Rows.cronShowsRow.laid W := h
  have h1 := laidMet.tail h'
  refine ⟨lens_of_laid (laidMet.tail (laidMet.tail (laidMet.tail h1))), bounds_of_reads (Lib.laidMet.reads h' (by simp [Rows.cronShowsRow])), tab_of (Lib.tabIs_of_head gDb gDbType Tryd.underlying121 Tryd.underlying5 cells5 cells121 h1)⟩
end Go.Proofs.YtgiclhkoajbgpaaDoor
