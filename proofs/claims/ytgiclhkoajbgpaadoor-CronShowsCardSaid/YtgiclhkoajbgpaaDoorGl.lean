/-
  What the listed package-level variables give to the walks: package calendar's table of months' lengths and the library's table of powers of ten.
-/
import Derived.Test.YtgiclhkoajbgpaaDoorCa4
import Derived.Stop.LaidErr
namespace Go.Proofs.YtgiclhkoajbgpaaDoor
open Go.RowKit

theorem gLens : Tryd.prog.globalNamed "bywash/calendar.lengths" = some 0 := by kernel_rfl
theorem gLensType : (Tryd.prog.globals[0]?).map (·.type) = some 97 := by kernel_rfl
theorem gPowType : (Tryd.prog.globals[8]?).map (·.type) = some 151 := by kernel_rfl
theorem cells97 : Tryd.prog.cellsOf 97 = 13 := by kernel_rfl
theorem cells151 : Tryd.prog.cellsOf 151 = 20 := by kernel_rfl
theorem cells3 : Tryd.prog.cellsOf 3 = 1 := by kernel_rfl
theorem cells37 : Tryd.prog.cellsOf 37 = 1 := by kernel_rfl
def lensTab : List Int := [0, 31, 28, 31, 30, 31, 30, 31, 31, 30, 31, 30, 31]
theorem lens_of_tab {W : World} (h : Lib.TabIs Tryd.prog W "bywash/calendar.lengths" .i64 lensTab) : LensIs W := by
  intro m h1 h2
  have hc := h.cell gLens m.toNat (by show _ < 13; omega)
  rw [hc]
  have : m = 1 ∨ m = 2 ∨ m = 3 ∨ m = 4 ∨ m = 5 ∨ m = 6 ∨ m = 7 ∨ m = 8 ∨ m = 9 ∨ m = 10 ∨ m = 11 ∨ m = 12 := by omega
  rcases this with rfl | rfl | rfl | rfl | rfl | rfl | rfl | rfl | rfl | rfl | rfl | rfl <;> rfl
theorem lens_of_laid {W : World} {rest : List (String × DataW Unit)} (h : laidMet Tryd.prog (("bywash/calendar.lengths", Rows.laid_bywash_calendar_lengths) :: rest) W) : LensIs W :=
  lens_of_tab (Lib.tabIs_of_head gLens gLensType Tryd.underlying97 Tryd.underlying3 cells3 cells97 h)
theorem pow_of_laid {W : World} {rest : List (String × DataW Unit)} (h : laidMet Tryd.prog (("internal/strconv.uint64pow10", Rows.laid_internal_strconv_uint64pow10) :: rest) W) : PowIs W :=
  Lib.tabIs_of_head (zs := Lib.pow10Tab) gPow gPowType Tryd.underlying151 Tryd.underlying37 cells37 cells151 h
def db32 : List Int := [0, 1, 28, 2, 29, 14, 24, 3, 30, 22, 20, 15, 25, 17, 4, 8, 31, 27, 13, 23, 21, 19, 16, 7, 26, 12, 18, 6, 11, 5, 10, 9]
def db64 : List Int := [0, 1, 56, 2, 57, 49, 28, 3, 61, 58, 42, 50, 38, 29, 17, 4, 62, 47, 59, 36, 45, 43, 51, 22, 53, 39, 33, 30, 24, 18, 12, 5, 63, 55, 48, 27, 60, 41, 37, 16, 46, 35, 44, 21, 52, 32, 23, 11, 54, 26, 40, 15, 34, 20, 31, 10, 25, 14, 19, 9, 13, 8, 7, 6]
/-- a table's cells -/
def cellsOf (k : IntKind) (zs : List Int) : Array Value := (zs.map fun z => Value.int k z).toArray
/-- a block of cells with other cells -/
def setCells (cs : Array Value) : Obj → Obj
  | .cells _ t fr => .cells cs t fr
  | o => o
/-- A WORLD FOR THE WITNESS: the settled one, the tables holding what their initialisers lay. -/
noncomputable def calWorld (os : Os) : World :=
  { World.holding Tryd.prog os ⟨#[], #[], []⟩ with heap := ((((World.holding Tryd.prog os ⟨#[], #[], []⟩).heap.modify 0 (setCells (cellsOf .i64 lensTab))).modify 8 (setCells (cellsOf .u64 Lib.pow10Tab))).modify 2 (setCells (cellsOf .u8 db64))).modify 9 (setCells (cellsOf .u8 db32)) }
theorem glob_of_laid {W : World} (h : laidMetH Tryd.prog Rows.calendarDatesRow.laid W) : Glob W :=
  ⟨lens_of_laid (laidMet.tail (laidMet.tail (laidMet.tail h))), pow_of_laid (laidMet.tail (laidMet.tail h))⟩
end Go.Proofs.YtgiclhkoajbgpaaDoor
