/-
  The law's function awake.
-/
import Derived.Test.YtgiclhkoajbgpaaDoorEd
namespace Go.Proofs.YtgiclhkoajbgpaaDoor
open Go.RowKit

/-- "0 2 * * *" -/
def awakeL : List UInt8 := [48, 32, 50, 32, 42, 32, 42, 32, 42]
theorem awake_e : parseE awakeL = 0 := by decide
theorem awake_0 : parseS awakeL 0 = 1 := by decide
theorem awake_1 : parseS awakeL 1 = 4 := by decide
theorem awake_2 : parseS awakeL 2 = fullM 2 := by decide
theorem awake_3 : parseS awakeL 3 = fullM 3 := by decide
theorem awake_4 : parseS awakeL 4 = fullM 4 := by decide
theorem awake_a : parseA awakeL 0 = false ∧ parseA awakeL 1 = false ∧ parseA awakeL 2 = true ∧ parseA awakeL 3 = true ∧ parseA awakeL 4 = true := by decide
theorem awake_lt : ∀ i, i < 5 → parseS awakeL i < 2 ^ 64 := by decide
theorem awake_ok : okS (parseS awakeL) (parseA awakeL) = true := by decide
theorem awake_match (n : Int) (h0 : 0 ≤ n) (h1 : n < 2147483648) : matchM (parseS awakeL) (parseA awakeL) n = decide (n % 1440 = 120) := by
  obtain ⟨-, -, b1, b2, b3, b4, b5, b6, b7, b8, b9, b10⟩ := dateBd n h0 h1
  have hd : dayM (parseS awakeL) (parseA awakeL) (mM n).toNat (dM n).toNat (kM n).toNat = true := by
    rw [dayM, awake_a.2.2.1, awake_2, awake_3, awake_4, full_bit, full_bit, full_bit]
    have e1 : inF 3 (mM n).toNat = true := by simp only [inF, loM, hiM, Bool.and_eq_true, decide_eq_true_eq]; omega
    have e2 : inF 2 (dM n).toNat = true := by simp only [inF, loM, hiM, Bool.and_eq_true, decide_eq_true_eq]; omega
    have e3 : inF 4 (kM n).toNat = true := by simp only [inF, loM, hiM, Bool.and_eq_true, decide_eq_true_eq]; omega
    rw [e1, e2, e3]; rfl
  rw [matchM, awake_ok, hd, awake_0, awake_1, decide_eq_true ⟨h0, h1⟩]
  rw [show (4 : Nat) = 2 ^ 2 from rfl, show (1 : Nat) = 2 ^ 0 from rfl, Nat.testBit_two_pow, Nat.testBit_two_pow]
  simp only [Bool.true_and, ← Bool.decide_and]
  apply decide_eq_decide.2
  simp only [hM, iM]
  omega
theorem awake_next {r : Int} {ok : Bool} (h : UntilIs (parseS awakeL) (parseA awakeL) 0 2147483647 r ok) : r = 120 ∧ ok = true := by
  have m120 : matchM (parseS awakeL) (parseA awakeL) 120 = true := by rw [awake_match 120 (by omega) (by omega)]; rfl
  rcases h with ⟨rfl, h1, h2, h3, h4⟩ | ⟨rfl, rfl, h4⟩
  · refine ⟨?_, rfl⟩
    have h1' : 0 < r := by omega
    by_cases e : 120 < r
    · rw [h4 120 (by omega) e] at m120; cases m120
    · rw [awake_match r (by omega) (by omega), decide_eq_true_eq] at h3
      omega
  · rw [h4 120 (by omega) (by omega)] at m120; cases m120

set_option maxRecDepth 100000 in
set_option maxHeartbeats 2000000 in
theorem cawake_any (w : World) (hL : LensIs w) (hB : BoundsIs w) : Calls Tryd.prog 23 #[] w fun e w' => e = .returned (.bool true) ∧ Below w.heap.size w w' := by
  have hp := parse_any24 awakeL (by decide) w hB
  rw [awake_e] at hp
  have hn := next_any (parseS awakeL) (parseA awakeL) awake_lt 0
  have hm := match_any (parseS awakeL) (parseA awakeL) awake_lt
  have m1 : matchM (parseS awakeL) (parseA awakeL) 1560 = true := by rw [awake_match 1560 (by omega) (by omega)]; rfl
  have m0 : matchM (parseS awakeL) (parseA awakeL) 0 = false := by rw [awake_match 0 (by omega) (by omega)]; rfl
  have hu := fun r ok => @awake_next r ok
  have hm1 := hm 1560
  have hm0 := hm 0
  rw [m1] at hm1
  rw [m0] at hm0
  clear hm m1 m0
  generalize parseS awakeL = S at *
  generalize parseA awakeL = A at *
  go_enter Tryd.func23, Tryd.ntmps23
  go_wp2_with (go_at_call 24; refine hp.mono ?_; rintro e W ⟨rfl, hb⟩)
  have hb0 : Below (W.heap.size + 1) (W.alloc (.cells (specA S A) 41)) (W.alloc (.cells (specA S A) 41)) := Below.refl _ _
  have hLw := (hL.below hb (lens_pos hL)).alloc (.cells (specA S A) 41)
  have hBw := (hB.below hb).below (below_old hb0)
  refine (hn _ hLw hBw).mono ?_
  rintro e W1 ⟨⟨r, ok, rfl, hr⟩, hb1⟩
  obtain ⟨rfl, rfl⟩ := hu r ok hr
  have hB1 := hb0.trans (hb1.mono (below_lt hb0))
  have hL1 := hLw.below hb1 (lens_pos hLw)
  have hB1' := hBw.below hb1
  obtain ⟨q0, q1, q2, q3, q4, q5, q6, q7, q8, q9, -, -, -, -, -, -, -, -, -, -⟩ := cells10 (below_spec hB1)
  go_wp2_with fail
  refine (hm1 _ hL1 hB1').mono ?_
  rintro e W2 ⟨rfl, hb2⟩
  have hB2 := hB1.trans (hb2.mono (below_lt hB1))
  have hL2 := hL1.below hb2 (lens_pos hL1)
  have hB2' := hB1'.below hb2
  obtain ⟨q0, q1, q2, q3, q4, q5, q6, q7, q8, q9, -, -, -, -, -, -, -, -, -, -⟩ := cells10 (below_spec hB2)
  go_wp2_with fail
  refine (hm0 _ hL2 hB2').mono ?_
  rintro e W3 ⟨rfl, hb3⟩
  have hB3 := hB2.trans (hb3.mono (below_lt hB2))
  go_wp2_with fail
  go_ret
  exact ⟨rfl, hb.trans ((below_old hB3).mono hb.size)⟩
end Go.Proofs.YtgiclhkoajbgpaaDoor
