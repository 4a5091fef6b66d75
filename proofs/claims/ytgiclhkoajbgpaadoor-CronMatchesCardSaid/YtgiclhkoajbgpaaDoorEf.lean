/-
  The walk of the law CronMatches.
-/
import Derived.Test.YtgiclhkoajbgpaaDoorEe
namespace Go.Proofs.YtgiclhkoajbgpaaDoor
open Go.RowKit

set_option maxRecDepth 100000 in
set_option maxHeartbeats 2000000 in
theorem lcmatches_any (S : Nat → Nat) (A : Nat → Bool) (hS : ∀ i, i < 5 → S i < 2 ^ 64) (n : Int) (w : World) (hL : LensIs w) (hB : BoundsIs w) :
    Calls Tryd.prog 7 #[specV S A, .int .i64 n] w fun e w' => e = .returned (.bool true) ∧ Below w.heap.size w w' := by
  have hb0 : Below (w.heap.size + 1) (w.alloc (.cells (specA S A) 41)) (w.alloc (.cells (specA S A) 41)) := Below.refl _ _
  have hLw := hL.alloc (.cells (specA S A) 41)
  have hBw := hB.below (below_old hb0)
  have hm := match_any S A hS n
  have hmr := fun (hk : okS S A = true) (h0 : 0 ≤ n) (h1 : n < 2147483648) => match_ref S A hk n h0 h1
  have hrm := refMatch_any (refG S A) n
  have hno : okS S A = false → matchM S A n = false := match_no
  have hout : ¬ (0 ≤ n ∧ n < 2147483648) → matchM S A n = false := fun h => by simp only [matchM, decide_eq_false h, Bool.false_and]
  obtain ⟨q0, q1, q2, q3, q4, q5, q6, q7, q8, q9, -, -, -, -, -, -, -, -, -, -⟩ := cells10 (below_spec hb0)
  generalize matchM S A n = b at *
  go_enter Tryd.func7, Tryd.ntmps7
  go_wp2_with fail
  refine (hm _ hLw hBw).mono ?_
  rintro e W1 ⟨rfl, hb1⟩
  have hB1 := hb0.trans (hb1.mono (below_lt hb0))
  have hL1 := hLw.below hb1 (lens_pos hLw)
  have hBd1 := hBw.below hb1
  obtain ⟨q0, q1, q2, q3, q4, q5, q6, q7, q8, q9, -, -, -, -, -, -, -, -, -, -⟩ := cells10 (below_spec hB1)
  go_wp2_with fail
  refine (rightS_any S A hS _).mono ?_
  rintro e W2 ⟨rfl, hb2⟩
  have hB2 := hB1.trans (hb2.mono (below_lt hB1))
  have hL2 := hL1.below hb2 (lens_pos hL1)
  have hBd2 := hBd1.below hb2
  obtain ⟨q0, q1, q2, q3, q4, q5, q6, q7, q8, q9, -, -, -, -, -, -, -, -, -, -⟩ := cells10 (below_spec hB2)
  have haw := cawake_any W2 hL2 hBd2
  cases hk : okS S A
  · obtain rfl := hno hk
    go_wp2_with (go_at_call 23; refine haw.mono ?_; rintro e W3 ⟨rfl, hb3⟩)
    go_ret
    exact ⟨rfl, below_old (hB2.trans (hb3.mono (below_lt hB2)))⟩
  · by_cases h0 : 0 ≤ n
    · by_cases h1 : n < 2147483648
      · have hmr := hmr hk h0 h1
        have hrm := fun W => hrm h0 h1 W
        rw [hmr] at hrm
        go_wp2_with (go_at_call 26; refine (refL_any S A hS _).mono ?_; rintro e W3 ⟨rfl, hb3⟩)
        refine (hrm _).mono ?_
        rintro e W4 ⟨rfl, hb4⟩
        have hB4 := (hB2.trans (hb3.mono (below_lt hB2))).trans (hb4.mono (Nat.le_trans (below_lt hB2) hb3.size))
        have hb34 := hb3.trans (hb4.mono hb3.size)
        have haw := cawake_any W4 (hL2.below hb34 (lens_pos hL2)) (hBd2.below hb34)
        go_wp2_with (go_at_call 23; refine haw.mono ?_; rintro e W5 ⟨rfl, hb5⟩)
        go_ret
        exact ⟨rfl, below_old (hB4.trans (hb5.mono (below_lt hB4)))⟩
      · obtain rfl := hout (fun h => h1 h.2)
        go_wp2_with (go_at_call 23; refine haw.mono ?_; rintro e W3 ⟨rfl, hb3⟩)
        go_ret
        exact ⟨rfl, below_old (hB2.trans (hb3.mono (below_lt hB2)))⟩
    · obtain rfl := hout (fun h => h0 h.1)
      go_wp2_with (go_at_call 23; refine haw.mono ?_; rintro e W3 ⟨rfl, hb3⟩)
      go_ret
      exact ⟨rfl, below_old (hB2.trans (hb3.mono (below_lt hB2)))⟩
end Go.Proofs.YtgiclhkoajbgpaaDoor
