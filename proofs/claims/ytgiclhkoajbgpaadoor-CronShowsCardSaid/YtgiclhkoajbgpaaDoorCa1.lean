/-
  The walks of package calendar's leaves: leaps, yearStart, Leap, Days, right.
-/
import Derived.Test.YtgiclhkoajbgpaaDoorRows
import Derived.Test.YtgiclhkoajbgpaaDoorCal
import Derived.WalkKit
import Derived.WalkSpells
import Derived.WalkLawsBesides
import Derived.Lib.LaidTab
import Derived.Lib.Hide
namespace Go.Proofs.YtgiclhkoajbgpaaDoor
open Go.RowKit

theorem ret_int {k : IntKind} {a b : Int} (h : a = b) : Ending.returned (.int k a) = .returned (.int k b) := by rw [h]
theorem ret_int3 {a b c a' b' c' : Int} (h1 : a = a') (h2 : b = b') (h3 : c = c') : Ending.returned (.tuple #[.int .i64 a, .int .i64 b, .int .i64 c]) = .returned (.tuple #[.int .i64 a', .int .i64 b', .int .i64 c']) := by rw [h1, h2, h3]
theorem ret_bool {a b : Bool} (h : a = b) : Ending.returned (.bool a) = .returned (.bool b) := by rw [h]

set_option maxHeartbeats 400000 in
theorem leaps_any (n : Int) (w : World) (h0 : 0 ≤ n) (h1 : n ≤ 6000) :
    Calls Tryd.prog 79 #[.int .i64 n] w fun e w' => e = .returned (.int .i64 (Cal.lps n)) ∧ w = w' := by
  by_cases hz : n = 0
  · subst hz
    go_enter Tryd.func79, Tryd.ntmps79
    go_wp2
    go_ret
    exact ⟨ret_int (by decide), rfl⟩
  · have hz' : (n == 0) = false := by simpa using hz
    go_enter Tryd.func79, Tryd.ntmps79
    go_wp2
    go_ret
    exact ⟨ret_int (by unfold Cal.lps; omega), rfl⟩

set_option maxHeartbeats 400000 in
theorem yearStart_any (n : Int) (w : World) (h0 : 0 ≤ n) (h1 : n ≤ 6000) :
    Calls Tryd.prog 61 #[.int .i64 n] w fun e w' => e = .returned (.int .i64 (Cal.ys n)) ∧ w = w' := by
  have hb : 0 ≤ Cal.lps n ∧ Cal.lps n ≤ 6000 := by unfold Cal.lps; omega
  obtain ⟨hb0, hb1⟩ := hb
  go_enter Tryd.func61, Tryd.ntmps61
  go_wp2_with (go_at_call 79; refine (leaps_any _ _ (by omega) (by omega)).mono ?_; rintro e w' ⟨rfl, rfl⟩)
  go_ret
  exact ⟨rfl, rfl⟩

set_option maxHeartbeats 400000 in
theorem leap_any (y : Int) (w : World) (h0 : 0 ≤ y) :
    Calls Tryd.prog 63 #[.int .i64 y] w fun e w' => e = .returned (.bool (decide (Cal.lp y = 1))) ∧ w = w' := by
  by_cases a : y % 4 = 0
  · by_cases b : y % 100 = 0
    · by_cases c : y % 400 = 0
      · go_enter Tryd.func63, Tryd.ntmps63
        go_wp2
        go_ret
        exact ⟨ret_bool (by simp [Cal.lp, a, c]), rfl⟩
      · go_enter Tryd.func63, Tryd.ntmps63
        go_wp2
        go_ret
        exact ⟨ret_bool (by simp [Cal.lp, a, b, c]), rfl⟩
    · go_enter Tryd.func63, Tryd.ntmps63
      go_wp2
      go_ret
      exact ⟨ret_bool (by simp [Cal.lp, a, b]), rfl⟩
  · go_enter Tryd.func63, Tryd.ntmps63
    go_wp2
    go_ret
    exact ⟨ret_bool (by simp [Cal.lp, a]), rfl⟩

/-- a month's length in a year that is no leap year -/
def len (m : Int) : Int := if m = 2 then 28 else if m = 4 ∨ m = 6 ∨ m = 9 ∨ m = 11 then 30 else 31
/-- the table of months' lengths lies in variable 0 -/
def LensIs (w : World) : Prop := ∀ m : Int, 1 ≤ m → m ≤ 12 → w.cell? ⟨0, m.toNat, none⟩ = some (.int .i64 (len m))
theorem len_dim (y m : Int) (h1 : 1 ≤ m) (h2 : m ≤ 12) (h : m = 2 → Cal.lp y = 0) : len m = Cal.dim y m := by
  unfold len Cal.dim
  rw [if_neg (show ¬(m < 1 ∨ 12 < m) by omega)]
  by_cases e : m = 2
  · rw [if_pos e, if_pos e, h e]; rfl
  · rw [if_neg e, if_neg e]

set_option maxHeartbeats 400000 in
theorem days_any (y m : Int) (w : World) (hL : LensIs w) (h0 : 0 ≤ y) :
    Calls Tryd.prog 40 #[.int .i64 y, .int .i64 m] w fun e w' => e = .returned (.int .i64 (Cal.dim y m)) ∧ w = w' := by
  by_cases a : m < 1
  · go_enter Tryd.func40, Tryd.ntmps40
    go_wp2
    go_ret
    exact ⟨ret_int (by unfold Cal.dim; rw [if_pos (by omega)]), rfl⟩
  by_cases b : 12 < m
  · go_enter Tryd.func40, Tryd.ntmps40
    go_wp2
    go_ret
    exact ⟨ret_int (by unfold Cal.dim; rw [if_pos (by omega)]), rfl⟩
  have a1 : 1 ≤ m := by omega
  have b1 : m ≤ 12 := by omega
  clear a b
  by_cases c : m = 2
  · by_cases d : Cal.lp y = 1
    · have hc := hL 2 (by decide) (by decide)
      have hx : Cal.dim y 2 = 29 := by unfold Cal.dim; simp [d]
      have HX := Lib.hid hx
      subst c
      have hd : decide (Cal.lp y = 1) = true := by simp [d]
      clear d hx
      simp only [len, show (2 : Int).toNat = 2 from rfl, if_true] at hc
      go_enter Tryd.func40, Tryd.ntmps40
      go_wp2_with (go_at_call 63; refine (leap_any _ _ (by omega)).mono ?_; rintro e w' ⟨rfl, rfl⟩)
      go_ret
      exact ⟨ret_int HX.out.symm, rfl⟩
    · have hc := hL 2 (by decide) (by decide)
      have hl := Cal.lp_01 y
      have hx : Cal.dim y 2 = 28 := by unfold Cal.dim; simp; omega
      have HX := Lib.hid hx
      subst c
      have hd : decide (Cal.lp y = 1) = false := by simp [d]
      clear d hx hl
      simp only [len, show (2 : Int).toNat = 2 from rfl, if_true] at hc
      go_enter Tryd.func40, Tryd.ntmps40
      go_wp2_with (go_at_call 63; refine (leap_any _ _ (by omega)).mono ?_; rintro e w' ⟨rfl, rfl⟩)
      go_ret
      exact ⟨ret_int HX.out.symm, rfl⟩
  · have hc := hL m a1 b1
    have hx := len_dim y m a1 b1 (fun h => absurd h c)
    have HX := Lib.hid hx
    clear hx
    have hc2 : (m == 2) = false := by simpa using c
    clear c
    go_enter Tryd.func40, Tryd.ntmps40
    go_wp2
    go_ret
    exact ⟨ret_int HX.out, rfl⟩

set_option maxHeartbeats 400000 in
theorem right_any (n : Int) (w : World) :
    Calls Tryd.prog 37 #[.int .i64 n] w fun e w' => e = .returned (.bool (decide (0 ≤ n ∧ n < 2147483648))) ∧ w = w' := by
  by_cases a : 0 ≤ n
  · by_cases b : n < 2147483648
    · go_enter Tryd.func37, Tryd.ntmps37
      go_wp2
      go_ret
      exact ⟨ret_bool (by simp [a, b]), rfl⟩
    · go_enter Tryd.func37, Tryd.ntmps37
      go_wp2
      go_ret
      exact ⟨ret_bool (by simp [b]), rfl⟩
  · go_enter Tryd.func37, Tryd.ntmps37
    go_wp2
    go_ret
    exact ⟨ret_bool (by simp; omega), rfl⟩

/-- the loop over the years in split: the year so far is at most the day's -/
theorem split_guess (day : Int) (_h0 : 0 ≤ day) (h1 : day ≤ 1491308) : 0 ≤ day / 146097 * 400 + day % 146097 / 366 ∧ day / 146097 * 400 + day % 146097 / 366 ≤ 4400 ∧ Cal.ys (day / 146097 * 400 + day % 146097 / 366) ≤ day := by
  refine ⟨by omega, by omega, ?_⟩
  rw [Cal.ys_cycle _ _ (by omega) (by omega)]
  have := Cal.ys_le (day % 146097 / 366) (by omega)
  omega
theorem ys_top (n day : Int) (_h0 : 0 ≤ n) (h : Cal.ys n ≤ day) (h1 : day ≤ 1491308) : n ≤ 4083 := by
  by_cases l : n ≤ 4083
  · exact l
  · have := Cal.ys_mono 4084 n (by omega) (by omega)
    have e : 1491309 ≤ Cal.ys 4084 := by decide
    omega

set_option maxHeartbeats 1000000 in
theorem split_any (day : Int) (w : World) (hL : LensIs w) (h0 : 0 ≤ day) (h1 : day ≤ 1491308) :
    Calls Tryd.prog 38 #[.int .i64 day] w fun e w' => e = .returned (.tuple #[.int .i64 (Cal.yOf day), .int .i64 (Cal.mOf day), .int .i64 (Cal.dOf day)]) ∧ w = w' := by
  obtain ⟨g0, g1, g2⟩ := split_guess day h0 h1
  go_enter Tryd.func38, Tryd.ntmps38
  go_wp2_with fail
  go_loop [5] (fun t => ∃ n : Int, 0 ≤ n ∧ n ≤ 4400 ∧ Cal.ys n ≤ day ∧ t = .int .i64 n) (fun t => (4400 - intOf t).toNat)
  case atStart => exact ⟨_, g0, g1, g2, rfl⟩
  case round =>
    obtain ⟨n, n0, n1, n2, rfl⟩ := hrel
    have n3 := ys_top n day n0 n2 h1
    have hs := Cal.ys_succ n n0
    have hlp := Cal.lp_01 (2000 + n)
    have hb := Cal.ys_bd n n0 (by omega)
    clear g0 g1 g2
    by_cases hc : Cal.ys (n + 1) ≤ day
    · have HS := Lib.hid hs
      clear hs
      go_wp2_with (go_at_call 61; refine (yearStart_any _ _ (by omega) (by omega)).mono ?_; rintro e w' ⟨rfl, rfl⟩)
      go_round
      case rel => exact ⟨n + 1, by omega, by omega, hc, rfl⟩
      case measure => simp [intOf]; omega
    · have hz : day < Cal.ys (n + 1) := by omega
      have h13 := Cal.cum_13 (2000 + n)
      have HZ := Lib.hid (show day < Cal.ys n + Cal.cum (2000 + n) 13 by omega)
      have HY := Lib.hid (show 2000 + n - 2000 = n by omega)
      clear hs hlp h13 hz
      go_wp2_with (go_at_call 61; refine (yearStart_any _ _ (by omega) (by omega)).mono ?_; rintro e w' ⟨rfl, rfl⟩)
      go_loop [4, 3] (fun r k => ∃ m : Int, 1 ≤ m ∧ m ≤ 12 ∧ k = .int .i64 m ∧ 0 ≤ day - Cal.ys n - Cal.cum (2000 + n) m ∧ r = .int .i64 (day - Cal.ys n - Cal.cum (2000 + n) m)) (fun _ k => (12 - intOf k).toNat)
      case atStart => exact ⟨1, by omega, by omega, rfl, by rw [Cal.cum_one]; omega, by rw [Cal.cum_one]; go_num⟩
      case round =>
        obtain ⟨m, m1, m2, rfl, hr, rfl⟩ := hrel
        have cb := Cal.cum_bd (2000 + n) m m1 (by omega)
        have db := Cal.dim_bd (2000 + n) m m1 m2
        have cs := Cal.cum_succ (2000 + n) m m1 m2
        by_cases hd : Cal.dim (2000 + n) m ≤ day - Cal.ys n - Cal.cum (2000 + n) m
        · have hm : m < 12 := by
            by_cases e : m = 12
            · subst e; have := HZ.out; rw [show (12 : Int) + 1 = 13 from rfl] at cs; omega
            · omega
          have CS := Lib.hid cs
          clear cs
          go_wp2_with (go_at_call 40; refine (days_any _ _ _ hL (by omega)).mono ?_; rintro e w' ⟨rfl, rfl⟩)
          go_round
          case rel => exact ⟨m + 1, by omega, by omega, rfl, by rw [CS.out]; omega, by rw [CS.out]; go_num⟩
          case measure => simp [intOf]; omega
        · have hday : Cal.IsDay day (2000 + n) m (day - Cal.ys n - Cal.cum (2000 + n) m + 1) :=
            ⟨by omega, m1, m2, by omega, by omega, by rw [HY.out]; omega⟩
          obtain ⟨q1, q2, q3⟩ := Cal.of_isDay hday
          have Q1 := Lib.hid q1
          have Q2 := Lib.hid q2
          have Q3 := Lib.hid q3
          clear q1 q2 q3 hday cs
          go_wp2_with (go_at_call 40; refine (days_any _ _ _ hL (by omega)).mono ?_; rintro e w' ⟨rfl, rfl⟩)
          go_ret3
          exact ⟨ret_int3 Q1.out.symm Q2.out.symm Q3.out.symm, rfl⟩

theorem monthDay_bd (n m : Int) (h0 : 0 ≤ n) (h1 : n ≤ 5000) (h2 : 1 ≤ m) (h3 : m ≤ 13) : 0 ≤ Cal.ys n + Cal.cum (2000 + n) m ∧ Cal.ys n + Cal.cum (2000 + n) m ≤ 1840000 := by
  have := Cal.ys_bd n h0 (by omega)
  have := Cal.cum_bd (2000 + n) m h2 h3
  omega

set_option maxHeartbeats 1000000 in
theorem monthDay_any (k : Int) (w : World) (hL : LensIs w) (h0 : 0 ≤ k) (h1 : k ≤ 60011) :
    Calls Tryd.prog 41 #[.int .i64 k] w fun e w' => e = .returned (.int .i64 (Cal.ys (k / 12) + Cal.cum (2000 + k / 12) (k % 12 + 1))) ∧ w = w' := by
  have n0 : 0 ≤ k / 12 := by omega
  have n1 : k / 12 ≤ 5000 := by omega
  have j0 : 0 ≤ k % 12 := by omega
  have j1 : k % 12 ≤ 11 := by omega
  have hys := Cal.ys_bd (k / 12) n0 (by omega)
  obtain ⟨hy0, hy1⟩ := hys
  go_enter Tryd.func41, Tryd.ntmps41
  go_wp2_with (go_at_call 61; refine (yearStart_any _ _ (by omega) (by omega)).mono ?_; rintro e w' ⟨rfl, rfl⟩)
  go_loop [4, 5] (fun d c => ∃ m : Int, 1 ≤ m ∧ m ≤ k % 12 + 1 ∧ c = .int .i64 m ∧ d = .int .i64 (Cal.ys (k / 12) + Cal.cum (2000 + k / 12) m)) (fun _ c => (13 - intOf c).toNat)
  case atStart => exact ⟨1, by omega, by omega, rfl, by rw [Cal.cum_one]; go_num⟩
  case round =>
    obtain ⟨m, m1, m2, rfl, rfl⟩ := hrel
    have cb := Cal.cum_bd (2000 + k / 12) m m1 (by omega)
    have db := Cal.dim_le (2000 + k / 12) m
    by_cases hm : m ≤ k % 12
    · have cs := Cal.cum_succ (2000 + k / 12) m m1 (by omega)
      have CS := Lib.hid cs
      clear cs
      go_wp2_with (go_at_call 40; refine (days_any _ _ _ hL (by omega)).mono ?_; rintro e w' ⟨rfl, rfl⟩)
      go_round
      case rel => exact ⟨m + 1, by omega, by omega, rfl, by rw [CS.out]; go_num⟩
      case measure => simp [intOf]; omega
    · have HM := Lib.hid (show m = k % 12 + 1 by omega)
      go_wp2_with fail
      go_ret
      exact ⟨ret_int (by rw [← HM.out]), rfl⟩
end Go.Proofs.YtgiclhkoajbgpaaDoor
