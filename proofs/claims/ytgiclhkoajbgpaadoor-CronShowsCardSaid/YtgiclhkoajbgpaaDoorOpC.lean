/-
  An argument that is a spec: its five sets and its five marks.
-/
import Derived.Test.YtgiclhkoajbgpaaDoorOpen
import Derived.Test.YtgiclhkoajbgpaaDoorDc
namespace Go.Proofs.YtgiclhkoajbgpaaDoor
open Go.RowKit

theorem u64_nat {z : Int} (h0 : IntKind.u64.min ≤ z) (h1 : z ≤ IntKind.u64.max) : ∃ n : Nat, z = n ∧ n < 2 ^ 64 := by
  rw [show IntKind.u64.min = 0 by decide] at h0
  rw [show IntKind.u64.max = 18446744073709551615 by decide] at h1
  obtain ⟨n, rfl⟩ := Int.eq_ofNat_of_zero_le h0
  exact ⟨n, rfl, by omega⟩
set_option maxRecDepth 100000 in
theorem open_spec {w : World} {r : Reach} {base : Nat} {v : Value} (h : Value.okWide Tryd.prog w r base 41 v) :
    ∃ (S : Nat → Nat) (A : Nat → Bool), v = specV S A ∧ ∀ i, i < 5 → S i < 2 ^ 64 := by
  obtain ⟨cs, rfl, hl, hc⟩ := agg_cells (ts := [37, 37, 37, 37, 37, 4, 4, 4, 4, 4]) (Or.inl ⟨_, Tryd.underlying41⟩) (by kernel_rfl) (by kernel_rfl) h
  match cs, hl with
  | [c0, c1, c2, c3, c4, c5, c6, c7, c8, c9], _ =>
    obtain ⟨z0, rfl, l0, m0⟩ := cell_int Tryd.underlying37 (hc 0 _ _ rfl rfl)
    obtain ⟨z1, rfl, l1, m1⟩ := cell_int Tryd.underlying37 (hc 1 _ _ rfl rfl)
    obtain ⟨z2, rfl, l2, m2⟩ := cell_int Tryd.underlying37 (hc 2 _ _ rfl rfl)
    obtain ⟨z3, rfl, l3, m3⟩ := cell_int Tryd.underlying37 (hc 3 _ _ rfl rfl)
    obtain ⟨z4, rfl, l4, m4⟩ := cell_int Tryd.underlying37 (hc 4 _ _ rfl rfl)
    obtain ⟨b0, rfl⟩ := cell_bool Tryd.underlying4 (hc 5 _ _ rfl rfl)
    obtain ⟨b1, rfl⟩ := cell_bool Tryd.underlying4 (hc 6 _ _ rfl rfl)
    obtain ⟨b2, rfl⟩ := cell_bool Tryd.underlying4 (hc 7 _ _ rfl rfl)
    obtain ⟨b3, rfl⟩ := cell_bool Tryd.underlying4 (hc 8 _ _ rfl rfl)
    obtain ⟨b4, rfl⟩ := cell_bool Tryd.underlying4 (hc 9 _ _ rfl rfl)
    obtain ⟨n0, rfl, k0⟩ := u64_nat l0 m0
    obtain ⟨n1, rfl, k1⟩ := u64_nat l1 m1
    obtain ⟨n2, rfl, k2⟩ := u64_nat l2 m2
    obtain ⟨n3, rfl, k3⟩ := u64_nat l3 m3
    obtain ⟨n4, rfl, k4⟩ := u64_nat l4 m4
    refine ⟨fun i => match i with | 0 => n0 | 1 => n1 | 2 => n2 | 3 => n3 | _ => n4, fun i => match i with | 0 => b0 | 1 => b1 | 2 => b2 | 3 => b3 | _ => b4, rfl, fun i hi => ?_⟩
    obtain rfl | rfl | rfl | rfl | rfl : i = 0 ∨ i = 1 ∨ i = 2 ∨ i = 3 ∨ i = 4 := by omega
    all_goals assumption
end Go.Proofs.YtgiclhkoajbgpaaDoor
