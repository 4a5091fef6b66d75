/-
  An argument that is a stretch.
-/
import Derived.Test.YtgiclhkoajbgpaaDoorOpen
import Derived.Test.YtgiclhkoajbgpaaDoorDc
namespace Go.Proofs.YtgiclhkoajbgpaaDoor
open Go.RowKit

set_option maxRecDepth 100000 in
theorem open_stretch {w : World} {r : Reach} {base : Nat} {v : Value} (h : Value.okWide Tryd.prog w r base 63 v) : ∃ n m k : Int, v = .agg #[.int .i64 n, .int .i64 m, .int .i64 k] := by
  obtain ⟨cs, rfl, hl, hc⟩ := agg_cells (ts := [3, 3, 3]) (Or.inl ⟨_, Tryd.underlying63⟩) (by kernel_rfl) (by kernel_rfl) h
  match cs, hl with
  | [c0, c1, c2], _ =>
    obtain ⟨n, rfl, _⟩ := cell_int Tryd.underlying3 (hc 0 _ _ rfl rfl)
    obtain ⟨m, rfl, _⟩ := cell_int Tryd.underlying3 (hc 1 _ _ rfl rfl)
    obtain ⟨k, rfl, _⟩ := cell_int Tryd.underlying3 (hc 2 _ _ rfl rfl)
    exact ⟨n, m, k, rfl⟩
end Go.Proofs.YtgiclhkoajbgpaaDoor
