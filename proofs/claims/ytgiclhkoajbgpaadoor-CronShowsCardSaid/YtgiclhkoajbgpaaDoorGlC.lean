/-
  What the listed package-level variables give to the walks of cron: the months' lengths and the fields' bounds; a world in which they lie so.
-/
import Derived.Test.YtgiclhkoajbgpaaDoorGl
import Derived.Test.YtgiclhkoajbgpaaDoorDa
import Derived.Lib.LaidU8
namespace Go.Proofs.YtgiclhkoajbgpaaDoor
open Go.RowKit

theorem gBounds : Tryd.prog.globalNamed "bywash/cron.bounds" = some 1 := by kernel_rfl
theorem gBoundsType : (Tryd.prog.globals[1]?).map (·.type) = some 88 := by kernel_rfl
theorem under88 : Tryd.prog.underlying 88 = some (.array 5 87) := by kernel_rfl
theorem under87 : Tryd.prog.underlying 87 = some (.array 2 3) := by kernel_rfl
theorem cells87 : Tryd.prog.cellsOf 87 = 2 := by kernel_rfl
theorem bounds_of_reads {W : World} (h : Lib.VarReads Tryd.prog W "bywash/cron.bounds" Rows.laid_bywash_cron_bounds) : BoundsIs W := by
  obtain ⟨g, t, cs, fuel, p, hg, ht, hv, htr⟩ := h
  obtain rfl : g = 1 := Option.some.inj (hg.symm.trans gBounds)
  obtain rfl : t = 88 := Option.some.inj (ht.symm.trans gBoundsType)
  have hcell : ∀ (i j : Nat) (d d2 : DataW Unit) (ds2 : List (DataW Unit)) (z : Int), i < 5 → j < 2 →
      (match (Rows.laid_bywash_cron_bounds : DataW Unit) with | .agg l => l | _ => [])[i]? = some d → d = .agg ds2 → ds2[j]? = some d2 → d2 = .lit (.int .i64 z) → W.cell? ⟨1, i * 2 + j, none⟩ = some (.int .i64 z) := by
    intro i j d d2 ds2 z hi hj hd hds hd2 hz
    obtain ⟨f1, e1, q1, he1, ht1⟩ := Lib.array_elem under88 htr i hi
    obtain rfl : d = e1 := Option.some.inj (hd.symm.trans he1)
    rw [hds] at ht1
    obtain ⟨f2, e2, q2, he2, ht2⟩ := Lib.array_elem under87 ht1 j hj
    obtain rfl : d2 = e2 := Option.some.inj (hd2.symm.trans he2)
    obtain ⟨n, hc, hx, _⟩ := DataW.trod_int Tryd.underlying3 ht2
    rw [hz] at hx
    have hx1 := congrArg Prod.fst hx
    simp only [DataW.lit.injEq, Lit.int.injEq, true_and] at hx1
    subst hx1
    rw [World.var?_cell hg hv]
    have hc0 := congrArg (·[0]?) hc
    rw [cells87, cells3] at hc0
    simp only [List.getElem?_take, List.getElem?_drop, Nat.mul_one, Nat.add_zero, List.getElem?_cons_zero, Array.getElem?_toList] at hc0
    rw [if_pos (by omega), if_pos (by omega)] at hc0
    rw [← hc0]
  intro i hi
  obtain rfl | rfl | rfl | rfl | rfl : i = 0 ∨ i = 1 ∨ i = 2 ∨ i = 3 ∨ i = 4 := by omega
  all_goals exact ⟨hcell _ 0 _ _ _ _ (by omega) (by omega) rfl rfl rfl rfl, hcell _ 1 _ _ _ _ (by omega) (by omega) rfl rfl rfl rfl⟩
theorem globC_of_laid {W : World} (h : laidMetH Tryd.prog Rows.cronMatchesRow.laid W) : LensIs W ∧ BoundsIs W := by
  have h' : laidMet Tryd.prog Rows.cronMatchesRow.laid W := h
  exact ⟨lens_of_laid (laidMet.tail h'), bounds_of_reads (Lib.laidMet.reads h' (by simp [Rows.cronMatchesRow]))⟩
def boundsTab : List Int := [0, 59, 0, 23, 1, 31, 1, 12, 0, 6]
def acceptTab : List Int := (List.range 16).flatMap fun i => [(Lib.accLo i : Int), (Lib.accHi i : Int)]
/-- A WORLD FOR THE WITNESS: the settled one, the tables holding what their initialisers lay. -/
noncomputable def cronWorld (os : Os) : World :=
  { World.holding Tryd.prog os ⟨#[], #[], []⟩ with heap := (((((((World.holding Tryd.prog os ⟨#[], #[], []⟩).heap.modify 0 (setCells (cellsOf .i64 lensTab))).modify 1 (setCells (cellsOf .i64 boundsTab))).modify 6 (setCells (cellsOf .u8 acceptTab))).modify 5 (setCells (cellsOf .u8 Lib.firstTab))).modify 8 (setCells (cellsOf .u64 Lib.pow10Tab))).modify 2 (setCells (cellsOf .u8 db64))).modify 9 (setCells (cellsOf .u8 db32)) }
theorem cron_laid (os : Os) : laidMet Tryd.prog Rows.cronMatchesRow.laid ((cronWorld os).forCall (fun _ _ => 0) ⟨#[], #[.int .i64 0], []⟩).memory :=
  laidMet_of_run' 8 (by kernel_rfl) (by kernel_rfl)
end Go.Proofs.YtgiclhkoajbgpaaDoor
