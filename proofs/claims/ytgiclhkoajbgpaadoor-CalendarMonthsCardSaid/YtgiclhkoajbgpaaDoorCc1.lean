/-
  The walks of calendar.Month, Day and MonthStart.
-/
import Derived.Test.YtgiclhkoajbgpaaDoorCb1
namespace Go.Proofs.YtgiclhkoajbgpaaDoor
open Go.RowKit

/-- where a month begins -/
def msOf (k : Int) : Int := (Cal.ys (k / 12) + Cal.cum (2000 + k / 12) (k % 12 + 1)) * 1440
/-- a minute's month -/
noncomputable def monM (n : Int) : Int := (yM n - 2000) * 12 + mM n - 1
theorem msOf_bd (k : Int) (h0 : 0 ≤ k) (h1 : k ≤ 60000) : 0 ≤ msOf k ∧ msOf k ≤ 2649600000 := by
  have := monthDay_bd (k / 12) (k % 12 + 1) (by omega) (by omega) (by omega) (by omega)
  unfold msOf; omega
theorem msOf_succ (k : Int) (h0 : 0 ≤ k) : msOf (k + 1) = msOf k + Cal.dim (2000 + k / 12) (k % 12 + 1) * 1440 := by
  have hs := Cal.cum_succ (2000 + k / 12) (k % 12 + 1) (by omega) (by omega)
  unfold msOf
  by_cases c : k % 12 = 11
  · rw [show (k + 1) / 12 = k / 12 + 1 by omega, show (k + 1) % 12 + 1 = 1 by omega, Cal.cum_one]
    have h13 := Cal.cum_13 (2000 + k / 12)
    have hy := Cal.ys_succ (k / 12) (by omega)
    rw [c] at hs ⊢
    rw [show (11 : Int) + 1 + 1 = 13 from rfl] at hs
    omega
  · rw [show (k + 1) / 12 = k / 12 by omega, show (k + 1) % 12 + 1 = k % 12 + 1 + 1 by omega, hs]
    omega
theorem monM_spec (n : Int) (h0 : 0 ≤ n) (h1 : n < 2147483648) : 0 ≤ monM n ∧ monM n ≤ 49007 ∧ msOf (monM n) = Cal.minOf (yM n) (mM n) 1 0 0 ∧ msOf (monM n) ≤ n ∧ n < msOf (monM n + 1) ∧ msOf (monM n + 1) ≤ n + 44640 := by
  obtain ⟨b1, b2, b3, b4, b5, b6, _⟩ := dateBd n h0 h1
  obtain ⟨⟨a1, a2, a3, a4, a5, a6, a7, a8, a9, a10, a11, a12⟩, a13⟩ := dateOk n h0 h1
  have e1 : monM n / 12 = yM n - 2000 := by unfold monM; omega
  have e2 : monM n % 12 + 1 = mM n := by unfold monM; omega
  have e3 : 0 ≤ monM n := by unfold monM; omega
  have hs := msOf_succ (monM n) e3
  rw [e1, e2, show 2000 + (yM n - 2000) = yM n by omega] at hs
  have hd := Cal.dim_le (yM n) (mM n)
  have em : msOf (monM n) = (Cal.ys (yM n - 2000) + Cal.cum (yM n) (mM n)) * 1440 := by
    unfold msOf; rw [e1, e2, show 2000 + (yM n - 2000) = yM n by omega]
  unfold Cal.minOf at a13
  refine ⟨e3, by unfold monM; omega, ?_, ?_, ?_, ?_⟩
  · rw [em]; unfold Cal.minOf; omega
  · omega
  · omega
  · omega

set_option maxHeartbeats 400000 in
theorem month_no (n : Int) (w : World) (h : ¬ (0 ≤ n ∧ n < 2147483648)) :
    Calls Tryd.prog 20 #[.int .i64 n] w fun e w' => e = .returned (.int .i64 0) ∧ Below w.heap.size w w' := by
  go_enter Tryd.func20, Tryd.ntmps20
  go_wp2_with (go_at_call 13; refine (of_no _ _ h).mono ?_; rintro e w1 ⟨rfl, hb1⟩)
  go_ret
  exact ⟨rfl, hb1.alloc hb1.size _⟩
set_option maxHeartbeats 400000 in
theorem month_yes (n : Int) (w : World) (hL : LensIs w) (h0 : 0 ≤ n) (h1 : n < 2147483648) :
    Calls Tryd.prog 20 #[.int .i64 n] w fun e w' => e = .returned (.int .i64 (monM n)) ∧ Below w.heap.size w w' := by
  obtain ⟨b1, b2, b3, b4, _⟩ := dateBd n h0 h1
  go_enter Tryd.func20, Tryd.ntmps20
  go_wp2_with (go_at_call 13; refine (of_ok _ _ hL h0 h1).mono ?_; rintro e w1 ⟨rfl, hb1⟩)
  go_ret
  exact ⟨rfl, hb1.alloc hb1.size _⟩
set_option maxHeartbeats 400000 in
theorem day_no (n : Int) (w : World) (h : ¬ (0 ≤ n ∧ n < 2147483648)) :
    Calls Tryd.prog 21 #[.int .i64 n] w fun e w' => e = .returned (.int .i64 0) ∧ w = w' := by
  have hd : decide (0 ≤ n ∧ n < 2147483648) = false := by simpa using h
  clear h
  go_enter Tryd.func21, Tryd.ntmps21
  go_wp2_with (go_at_call 37; refine (right_any _ _).mono ?_; rintro e w' ⟨rfl, rfl⟩)
  go_ret
  exact ⟨rfl, rfl⟩
set_option maxHeartbeats 400000 in
theorem day_yes (n : Int) (w : World) (h0 : 0 ≤ n) (h1 : n < 2147483648) :
    Calls Tryd.prog 21 #[.int .i64 n] w fun e w' => e = .returned (.int .i64 (n / 1440)) ∧ w = w' := by
  have hd : decide (0 ≤ n ∧ n < 2147483648) = true := by simp [h0, h1]
  go_enter Tryd.func21, Tryd.ntmps21
  go_wp2_with (go_at_call 37; refine (right_any _ _).mono ?_; rintro e w' ⟨rfl, rfl⟩)
  go_ret
  exact ⟨rfl, rfl⟩

theorem mday_ms (k : Int) (w : World) (hL : LensIs w) (h0 : 0 ≤ k) (h1 : k ≤ 60000) :
    Calls Tryd.prog 41 #[.int .i64 k] w fun e w' => e = .returned (.int .i64 (msOf k / 1440)) ∧ w = w' := by
  refine (monthDay_any k w hL h0 (by omega)).mono ?_
  rintro e w' ⟨rfl, rfl⟩
  exact ⟨ret_int (by unfold msOf; omega), rfl⟩
theorem msOf_div (k : Int) : msOf k / 1440 * 1440 = msOf k := by unfold msOf; omega
set_option maxHeartbeats 400000 in
theorem mstart_in (k : Int) (w : World) (hL : LensIs w) (h0 : 0 ≤ k) (h1 : k ≤ 60000) (h2 : msOf k < 2147483648) :
    Calls Tryd.prog 22 #[.int .i64 k] w fun e w' => e = .returned (.int .i64 (msOf k)) ∧ w = w' := by
  obtain ⟨b0, b1⟩ := msOf_bd k h0 h1
  have HE := Lib.hid (msOf_div k)
  have hd : decide (0 ≤ msOf k / 1440 * 1440 ∧ msOf k / 1440 * 1440 < 2147483648) = true := by rw [msOf_div]; simp [b0, h2]
  go_enter Tryd.func22, Tryd.ntmps22
  go_wp2_with (first | (go_at_call 41; refine (mday_ms _ _ hL h0 h1).mono ?_; rintro e w' ⟨rfl, rfl⟩) | (go_at_call 37; refine (right_any _ _).mono ?_; rintro e w' ⟨rfl, rfl⟩))
  go_ret
  exact ⟨ret_int HE.out, rfl⟩
set_option maxHeartbeats 400000 in
theorem mstart_out (k : Int) (w : World) (hL : LensIs w) (h0 : 0 ≤ k) (h1 : k ≤ 60000) (h2 : ¬ msOf k < 2147483648) :
    Calls Tryd.prog 22 #[.int .i64 k] w fun e w' => e = .returned (.int .i64 (-1)) ∧ w = w' := by
  obtain ⟨b0, b1⟩ := msOf_bd k h0 h1
  have hd : decide (0 ≤ msOf k / 1440 * 1440 ∧ msOf k / 1440 * 1440 < 2147483648) = false := by rw [msOf_div]; simp; omega
  go_enter Tryd.func22, Tryd.ntmps22
  go_wp2_with (first | (go_at_call 41; refine (mday_ms _ _ hL h0 h1).mono ?_; rintro e w' ⟨rfl, rfl⟩) | (go_at_call 37; refine (right_any _ _).mono ?_; rintro e w' ⟨rfl, rfl⟩))
  go_ret
  exact ⟨rfl, rfl⟩
end Go.Proofs.YtgiclhkoajbgpaaDoor
