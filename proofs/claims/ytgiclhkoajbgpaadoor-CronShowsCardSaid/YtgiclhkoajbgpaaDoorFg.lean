/-
  Two rows of five fields held against each other by == : a row is as it is.
-/
import Derived.Test.YtgiclhkoajbgpaaDoorEd
import Derived.Test.YtgiclhkoajbgpaaDoorArr
namespace Go.Proofs.YtgiclhkoajbgpaaDoor
open Go.RowKit

theorem all_true (n : Nat) : ((List.range n).all fun _ => true) = true := by rw [List.all_eq_true]; intro _ _; rfl
theorem eq44 (d : Nat) (xs : Array Value) (h : Nat → Bool) (hx : ∀ i, i < 64 → xs[i]? = some (.bool (h i))) (w : World) : (Op.equalIn (d + 2) 44 (.agg xs) (.agg xs)).run Tryd.prog w = .ok true w := by
  have ia : ∀ w, (isAgg 4).run Tryd.prog w = .ok false w := fun w => by kernel_rfl
  have H := run_equalIn_arr (P := Tryd.prog) (w := w) (d := d + 1) (t := 44) (e := 4) (len := 64) (n := 1) (xs := xs) (ys := xs) (fun _ => true) (fun i => .bool (h i)) (fun i => .bool (h i)) (by kernel_rfl) (by kernel_rfl)
    (fun i hi => by rw [Nat.mul_one]; exact run_part_cell (ia w) (hx i hi)) (fun i hi => by rw [Nat.mul_one]; exact run_part_cell (ia w) (hx i hi))
    (fun i _ => by simp [Op.equalIn, run_underlying (P := Tryd.prog) (t := 4) Tryd.underlying4])
  rw [all_true] at H
  exact H
theorem part_agg (t n : Nat) (ha : ∀ w, (isAgg t).run Tryd.prog w = .ok true w) (hn : ∀ w, (sizeOf t).run Tryd.prog w = .ok n w) (cs : Array Value) (off : Nat) (w : World) : (part t cs off).run Tryd.prog w = .ok (.agg (cs.extract off (off + n))) w := by
  simp only [part, Sem.run_bind, ha, hn, Result.andThen_ok, if_true]
  rfl
theorem ext_get (g : Nat → Bool) (o n i : Nat) (h : o + n ≤ 325) (hi : i < n) : ((cellsF g).extract o (o + n))[i]? = some (.bool (g (o + i))) := by
  rw [Array.getElem?_extract, if_pos (by rw [cellsF_size]; omega), cellsF_get g _ (by omega)]
theorem eq46 (d : Nat) (xs : Array Value) (h : Nat → Bool) (hx : ∀ i, i < 65 → xs[i]? = some (.bool (h i))) (w : World) : (Op.equalIn (d + 3) 46 (.agg xs) (.agg xs)).run Tryd.prog w = .ok true w := by
  have i4 : ∀ w, (isAgg 4).run Tryd.prog w = .ok false w := fun w => by kernel_rfl
  have p0 := fun w => part_agg 44 64 (fun w => by kernel_rfl) (fun w => by kernel_rfl) xs 0 w
  have p1 := fun w => run_part_cell (P := Tryd.prog) (w := w) (e := 4) (xs := xs) (i := 64) (i4 w) (hx 64 (by omega))
  have e0 := fun w => eq44 d (xs.extract 0 (0 + 64)) h (fun i hi => by
    have := hx i (by omega)
    rw [Array.getElem?_extract]
    have hs : i < xs.size := (Array.getElem?_eq_some_iff.1 this).1
    have hs2 : 64 < xs.size := (Array.getElem?_eq_some_iff.1 (hx 64 (by omega))).1
    rw [if_pos (by omega), Nat.zero_add]; exact this) w
  have e1 : ∀ w, (Op.equalIn (d + 2) 4 (.bool (h 64)) (.bool (h 64))).run Tryd.prog w = .ok true w := fun w => by simp [Op.equalIn, run_underlying (P := Tryd.prog) (t := 4) Tryd.underlying4]
  have hh : Tryd.prog.stoodInHeld 46 = false := by kernel_rfl
  rw [Op.equalIn]
  simp [Sem.run_bind, run_underlying (P := Tryd.prog) (t := 46) Tryd.underlying46, hh, p0, p1, e0, e1]
  trace_state
theorem eq47 (g : Nat → Bool) (w : World) : (Op.equalIn 10000 47 (refV g) (refV g)).run Tryd.prog w = .ok true w := by
  have H := run_equalIn_arr (P := Tryd.prog) (w := w) (d := 9999) (t := 47) (e := 46) (len := 5) (n := 65) (xs := cellsF g) (ys := cellsF g) (fun _ => true) (fun i => .agg ((cellsF g).extract (i * 65) (i * 65 + 65))) (fun i => .agg ((cellsF g).extract (i * 65) (i * 65 + 65))) Tryd.underlying47 (by kernel_rfl)
    (fun i _ => part_agg 46 65 (fun w => by kernel_rfl) (fun w => by kernel_rfl) _ _ w) (fun i _ => part_agg 46 65 (fun w => by kernel_rfl) (fun w => by kernel_rfl) _ _ w)
    (fun i hi => eq46 9996 _ (fun j => g (i * 65 + j)) (fun j hj => ext_get g (i * 65) 65 j (by omega) hj) w)
  rw [all_true] at H
  exact H
end Go.Proofs.YtgiclhkoajbgpaaDoor
