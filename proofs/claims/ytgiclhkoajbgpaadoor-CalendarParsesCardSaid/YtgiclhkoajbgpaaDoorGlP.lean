/-
  What CalendarParses' listed variables give to the walks: the tables, and the library's two errors; a world in which they lie so.
-/
import Derived.Test.YtgiclhkoajbgpaaDoorGl
import Derived.Test.YtgiclhkoajbgpaaDoorCe2
namespace Go.Proofs.YtgiclhkoajbgpaaDoor
open Go.RowKit

theorem gSyn : Tryd.prog.globalNamed "strconv.ErrSyntax" = some 3 := by kernel_rfl
theorem gRng : Tryd.prog.globalNamed "strconv.ErrRange" = some 4 := by kernel_rfl
theorem gSynType : (Tryd.prog.globals[3]?).map (·.type) = some 90 := by kernel_rfl
theorem gRngType : (Tryd.prog.globals[4]?).map (·.type) = some 90 := by kernel_rfl
theorem cells142 : Tryd.prog.cellsOf 142 = 1 := by kernel_rfl
theorem cells9 : Tryd.prog.cellsOf 9 = 1 := by kernel_rfl
theorem name140 : Tryd.prog.typeName? 3 140 = some "*errors.errorString" := by kernel_rfl
theorem star_err : "*errors.errorString" = "*" ++ "errors.errorString" := by decide +kernel
theorem row140 : ∀ u, Tryd.prog.typeName? 3 u = some "*errors.errorString" → u = 140 := fun u h =>
  typeName_ptr_named (nm := "errors.errorString") (by rw [← star_err]; kernel_rfl) (by kernel_rfl) (by decide) u (by rw [← star_err]; exact h)
theorem err_of_laid {W : World} {n : String} {text : List UInt8} {g : Nat} {r : List (String × DataW Unit)} (h : laidMet Tryd.prog ((n, .iface "*errors.errorString" (.ptr (.agg [.lit (.string text)]))) :: r) W)
    (hg : Tryd.prog.globalNamed n = some g) (ht : (Tryd.prog.globals[g]?).map (·.type) = some 90) : ∃ t p, W.cell? ⟨g, 0, none⟩ = some (.iface t p) := by
  obtain ⟨a, s, hv, _⟩ := laid_sentinel h hg ht Tryd.underlying90 row140 Tryd.underlying140 Tryd.underlying142 rfl rfl Tryd.underlying9 cells142 cells9
  exact ⟨140, _, by simpa using World.var?_cell hg hv 0⟩
theorem globP_of_laid {W : World} (h : laidMetH Tryd.prog Rows.calendarParsesRow.laid W) : GlobP W := by
  have h2 := laidMet.tail (laidMet.tail h)
  have h3 := laidMet.tail h2
  have h4 := laidMet.tail h3
  exact ⟨⟨lens_of_laid (laidMet.tail h4), pow_of_laid h2⟩, ⟨err_of_laid h4 gSyn gSynType, err_of_laid h3 gRng gRngType⟩⟩

/-- The texts of the two errors. -/
def rngText : List UInt8 := [118, 97, 108, 117, 101, 32, 111, 117, 116, 32, 111, 102, 32, 114, 97, 110, 103, 101]
def synText : List UInt8 := [105, 110, 118, 97, 108, 105, 100, 32, 115, 121, 110, 116, 97, 120]
noncomputable def low : Nat := (World.holding Tryd.prog default ⟨#[], #[], []⟩).heap.size
/-- A WORLD FOR THE WITNESS: the settled one, the tables and the two errors as their initialisers lay them. -/
noncomputable def parWorld (os : Os) : World :=
  { World.holding Tryd.prog os ⟨#[.cells #[.string ⟨rngText.toArray⟩] 142, .cells #[.string ⟨synText.toArray⟩] 142], #[], []⟩ with
    heap := ((((((World.holding Tryd.prog os ⟨#[.cells #[.string ⟨rngText.toArray⟩] 142, .cells #[.string ⟨synText.toArray⟩] 142], #[], []⟩).heap.modify 0 (setCells (cellsOf .i64 lensTab))).modify 8 (setCells (cellsOf .u64 Lib.pow10Tab))).modify 2 (setCells (cellsOf .u8 db64))).modify 9 (setCells (cellsOf .u8 db32))).modify 4
      (setCells #[.iface 140 (.pointer (some ⟨low, 0, none⟩))])).modify 3 (setCells #[.iface 140 (.pointer (some ⟨low + 1, 0, none⟩))]) }
end Go.Proofs.YtgiclhkoajbgpaaDoor
