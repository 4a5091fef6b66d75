/-
  The walks of the reference's Leap, Days and Of, and of the law's ref.
-/
import Derived.Test.YtgiclhkoajbgpaaDoorCa4
namespace Go.Proofs.YtgiclhkoajbgpaaDoor
open Go.RowKit

set_option maxHeartbeats 400000 in
theorem rleap_any (y : Int) (w : World) (h0 : 0 ≤ y) :
    Calls Tryd.prog 19 #[.int .i64 y] w fun e w' => e = .returned (.bool (decide (Cal.lp y = 1))) ∧ w = w' := by
  by_cases c : y % 400 = 0
  · have c' : (y % 400 == 0) = true := by simp [c]
    have HC := Lib.hid c
    clear c
    go_enter Tryd.func19, Tryd.ntmps19
    go_wp2
    go_ret
    exact ⟨ret_bool (by have := HC.out; simp [Cal.lp, this, show y % 4 = 0 by omega]), rfl⟩
  · have c' : (y % 400 == 0) = false := by simpa using c
    have HC := Lib.hid c
    clear c
    by_cases a : y % 4 = 0
    · have a' : (y % 4 == 0) = true := by simp [a]
      have HA := Lib.hid a
      clear a
      by_cases b : y % 100 = 0
      · have b' : (y % 100 != 0) = false := by simp [b]
        have HB := Lib.hid b
        clear b
        go_enter Tryd.func19, Tryd.ntmps19
        go_wp2
        go_ret
        exact ⟨ret_bool (by have h1 := HA.out; have h2 := HB.out; have h3 := HC.out; simp [Cal.lp, h1, h2, h3]), rfl⟩
      · have b' : (y % 100 != 0) = true := by simp [b]
        have HB := Lib.hid b
        clear b
        go_enter Tryd.func19, Tryd.ntmps19
        go_wp2
        go_ret
        exact ⟨ret_bool (by have h1 := HA.out; have h2 := HB.out; simp [Cal.lp, h1, h2]), rfl⟩
    · have a' : (y % 4 == 0) = false := by simpa using a
      have HA := Lib.hid a
      clear a
      go_enter Tryd.func19, Tryd.ntmps19
      go_wp2
      go_ret
      exact ⟨ret_bool (by have h1 := HA.out; simp [Cal.lp, h1]), rfl⟩

set_option maxHeartbeats 400000 in
theorem rdays_any (y m : Int) (w : World) (h0 : 0 ≤ y) (m1 : 1 ≤ m) (m2 : m ≤ 12) :
    Calls Tryd.prog 18 #[.int .i64 y, .int .i64 m] w fun e w' => e = .returned (.int .i64 (Cal.dim y m)) ∧ w = w' := by
  by_cases a : m = 2
  · subst a
    by_cases d : Cal.lp y = 1
    · have HX := Lib.hid (show Cal.dim y 2 = 29 by unfold Cal.dim; simp [d])
      have hd : decide (Cal.lp y = 1) = true := by simp [d]
      clear d
      go_enter Tryd.func18, Tryd.ntmps18
      go_wp2_with (go_at_call 19; refine (rleap_any _ _ (by omega)).mono ?_; rintro e w' ⟨rfl, rfl⟩)
      go_ret
      exact ⟨ret_int HX.out.symm, rfl⟩
    · have hl := Cal.lp_01 y
      have HX := Lib.hid (show Cal.dim y 2 = 28 by unfold Cal.dim; simp; omega)
      have hd : decide (Cal.lp y = 1) = false := by simp [d]
      clear d hl
      go_enter Tryd.func18, Tryd.ntmps18
      go_wp2_with (go_at_call 19; refine (rleap_any _ _ (by omega)).mono ?_; rintro e w' ⟨rfl, rfl⟩)
      go_ret
      exact ⟨ret_int HX.out.symm, rfl⟩
  · have a' : (m == 2) = false := by simpa using a
    by_cases b : m = 4 ∨ m = 6 ∨ m = 9 ∨ m = 11
    · have HX := Lib.hid (show Cal.dim y m = 30 by unfold Cal.dim; rw [if_neg (by omega), if_neg a, if_pos b])
      clear a
      rcases b with rfl | rfl | rfl | rfl
      all_goals
        go_enter Tryd.func18, Tryd.ntmps18
        go_wp2
        go_ret
        exact ⟨ret_int HX.out.symm, rfl⟩
    · have HX := Lib.hid (show Cal.dim y m = 31 by unfold Cal.dim; rw [if_neg (by omega), if_neg a, if_neg b])
      have b4 : (m == 4) = false := by simp; omega
      have b6 : (m == 6) = false := by simp; omega
      have b9 : (m == 9) = false := by simp; omega
      have b11 : (m == 11) = false := by simp; omega
      clear a b
      go_enter Tryd.func18, Tryd.ntmps18
      go_wp2
      go_ret
      exact ⟨ret_int HX.out.symm, rfl⟩

theorem lp_cycle (q k : Int) : Cal.lp (q * 400 + k) = Cal.lp k := by
  unfold Cal.lp
  have e1 : (q * 400 + k) % 4 = k % 4 := by omega
  have e2 : (q * 400 + k) % 100 = k % 100 := by omega
  have e3 : (q * 400 + k) % 400 = k % 400 := by omega
  rw [e1, e2, e3]

set_option maxHeartbeats 1000000 in
theorem rof_any (n : Int) (w : World) (h0 : 0 ≤ n) (h1 : n < 2147483648) :
    Calls Tryd.prog 17 #[.int .i64 n] w fun e w' => e = .returned (dateV (Cal.yOf (n / 1440)) (Cal.mOf (n / 1440)) (Cal.dOf (n / 1440)) (n % 1440 / 60) (n % 1440 % 60) ((n / 1440 + 6) % 7)) ∧ Below w.heap.size w w' := by
  have gs : Cal.ys (n / 1440 / 146097 * 400) = n / 1440 / 146097 * 146097 := by
    have := Cal.ys_cycle (n / 1440 / 146097) 0 (by omega) (by omega)
    rw [Cal.ys_zero] at this; simpa using this
  have GS := Lib.hid gs
  clear gs
  go_enter Tryd.func17, Tryd.ntmps17
  go_wp2_with fail
  go_loop [5, 6] (fun l y => ∃ N : Int, 0 ≤ N ∧ N ≤ 4500 ∧ Cal.ys N ≤ n / 1440 ∧ y = .int .i64 (2000 + N) ∧ l = .int .i64 (n / 1440 - Cal.ys N)) (fun _ y => (6500 - intOf y).toNat)
  case atStart => exact ⟨n / 1440 / 146097 * 400, by omega, by omega, by have := GS.out; omega, rfl, by have := GS.out; rw [this]; congr 1; omega⟩
  case round =>
    obtain ⟨N, N0, N1, N2, rfl, rfl⟩ := hrel
    have N3 := ys_top N (n / 1440) N0 N2 (by omega)
    have hs := Cal.ys_succ N N0
    have hlp := Cal.lp_01 (2000 + N)
    have hb := Cal.ys_bd N N0 (by omega)
    by_cases hc : Cal.ys (N + 1) ≤ n / 1440
    · by_cases hl : Cal.lp (2000 + N) = 1
      · have hd : decide (Cal.lp (2000 + N) = 1) = true := by simp [hl]
        have hk : 366 ≤ n / 1440 - Cal.ys N := by omega
        have HS := Lib.hid (show Cal.ys (N + 1) = Cal.ys N + 366 by omega)
        clear hs hl hlp
        go_wp2_with (go_at_call 19; refine (rleap_any _ _ (by omega)).mono ?_; rintro e w' ⟨rfl, rfl⟩)
        go_round
        case rel => exact ⟨N + 1, by omega, by omega, hc, by go_num, by rw [HS.out]; go_num⟩
        case measure => simp [intOf]; omega
      · have hd : decide (Cal.lp (2000 + N) = 1) = false := by simp [hl]
        have hk : 365 ≤ n / 1440 - Cal.ys N := by omega
        have HS := Lib.hid (show Cal.ys (N + 1) = Cal.ys N + 365 by omega)
        clear hs hl hlp
        go_wp2_with (go_at_call 19; refine (rleap_any _ _ (by omega)).mono ?_; rintro e w' ⟨rfl, rfl⟩)
        go_round
        case rel => exact ⟨N + 1, by omega, by omega, hc, by go_num, by rw [HS.out]; go_num⟩
        case measure => simp [intOf]; omega
    · have hz : n / 1440 < Cal.ys (N + 1) := by omega
      have h13 := Cal.cum_13 (2000 + N)
      have HZ := Lib.hid (show n / 1440 < Cal.ys N + Cal.cum (2000 + N) 13 by omega)
      have HY := Lib.hid (show 2000 + N - 2000 = N by omega)
      by_cases hl : Cal.lp (2000 + N) = 1
      · have hd : decide (Cal.lp (2000 + N) = 1) = true := by simp [hl]
        have hk : n / 1440 - Cal.ys N < 366 := by omega
        clear hs hl hlp h13 hz hc
        go_wp2_with (go_at_call 19; refine (rleap_any _ _ (by omega)).mono ?_; rintro e w' ⟨rfl, rfl⟩)
        go_loop [5, 8] (fun r k => ∃ m : Int, 1 ≤ m ∧ m ≤ 12 ∧ k = .int .i64 m ∧ 0 ≤ n / 1440 - Cal.ys N - Cal.cum (2000 + N) m ∧ r = .int .i64 (n / 1440 - Cal.ys N - Cal.cum (2000 + N) m)) (fun _ k => (12 - intOf k).toNat)
        case atStart => exact ⟨1, by omega, by omega, rfl, by rw [Cal.cum_one]; omega, by rw [Cal.cum_one]; go_num⟩
        case round =>
          obtain ⟨m, m1, m2, rfl, hr, rfl⟩ := hrel
          have cb := Cal.cum_bd (2000 + N) m m1 (by omega)
          have db := Cal.dim_bd (2000 + N) m m1 m2
          have cs := Cal.cum_succ (2000 + N) m m1 m2
          by_cases hdm : Cal.dim (2000 + N) m ≤ n / 1440 - Cal.ys N - Cal.cum (2000 + N) m
          · have hm : m < 12 := by
              by_cases e : m = 12
              · subst e; have := HZ.out; rw [show (12 : Int) + 1 = 13 from rfl] at cs; omega
              · omega
            have CS := Lib.hid cs
            clear cs
            go_wp2_with (go_at_call 18; refine (rdays_any _ _ _ (by omega) (by omega) (by omega)).mono ?_; rintro e w' ⟨rfl, rfl⟩)
            go_round
            case rel => exact ⟨m + 1, by omega, by omega, rfl, by rw [CS.out]; omega, by rw [CS.out]; go_num⟩
            case measure => simp [intOf]; omega
          · have hday : Cal.IsDay (n / 1440) (2000 + N) m (n / 1440 - Cal.ys N - Cal.cum (2000 + N) m + 1) :=
              ⟨by omega, m1, m2, by omega, by omega, by rw [HY.out]; omega⟩
            have HQ := Lib.hid (Cal.of_isDay hday)
            clear hday cs
            go_wp2_with (go_at_call 18; refine (rdays_any _ _ _ (by omega) (by omega) (by omega)).mono ?_; rintro e w' ⟨rfl, rfl⟩)
            refine bodyPost_ret (v := dateV (2000 + N) m (n / 1440 - Cal.ys N - Cal.cum (2000 + N) m + 1) (n % 1440 / 60) (n % 1440 % 60) ((n / 1440 + 6) % 7)) (by simp [results, Tryd.results17, go_sem]) rfl ⟨?_, (Below.refl _ _).alloc (Nat.le_refl _) _⟩
            obtain ⟨q1, q2, q3⟩ := HQ.out
            rw [q1, q2, q3]
      · have hd : decide (Cal.lp (2000 + N) = 1) = false := by simp [hl]
        have hk : n / 1440 - Cal.ys N < 365 := by omega
        clear hs hl hlp h13 hz hc
        go_wp2_with (go_at_call 19; refine (rleap_any _ _ (by omega)).mono ?_; rintro e w' ⟨rfl, rfl⟩)
        go_loop [5, 8] (fun r k => ∃ m : Int, 1 ≤ m ∧ m ≤ 12 ∧ k = .int .i64 m ∧ 0 ≤ n / 1440 - Cal.ys N - Cal.cum (2000 + N) m ∧ r = .int .i64 (n / 1440 - Cal.ys N - Cal.cum (2000 + N) m)) (fun _ k => (12 - intOf k).toNat)
        case atStart => exact ⟨1, by omega, by omega, rfl, by rw [Cal.cum_one]; omega, by rw [Cal.cum_one]; go_num⟩
        case round =>
          obtain ⟨m, m1, m2, rfl, hr, rfl⟩ := hrel
          have cb := Cal.cum_bd (2000 + N) m m1 (by omega)
          have db := Cal.dim_bd (2000 + N) m m1 m2
          have cs := Cal.cum_succ (2000 + N) m m1 m2
          by_cases hdm : Cal.dim (2000 + N) m ≤ n / 1440 - Cal.ys N - Cal.cum (2000 + N) m
          · have hm : m < 12 := by
              by_cases e : m = 12
              · subst e; have := HZ.out; rw [show (12 : Int) + 1 = 13 from rfl] at cs; omega
              · omega
            have CS := Lib.hid cs
            clear cs
            go_wp2_with (go_at_call 18; refine (rdays_any _ _ _ (by omega) (by omega) (by omega)).mono ?_; rintro e w' ⟨rfl, rfl⟩)
            go_round
            case rel => exact ⟨m + 1, by omega, by omega, rfl, by rw [CS.out]; omega, by rw [CS.out]; go_num⟩
            case measure => simp [intOf]; omega
          · have hday : Cal.IsDay (n / 1440) (2000 + N) m (n / 1440 - Cal.ys N - Cal.cum (2000 + N) m + 1) :=
              ⟨by omega, m1, m2, by omega, by omega, by rw [HY.out]; omega⟩
            have HQ := Lib.hid (Cal.of_isDay hday)
            clear hday cs
            go_wp2_with (go_at_call 18; refine (rdays_any _ _ _ (by omega) (by omega) (by omega)).mono ?_; rintro e w' ⟨rfl, rfl⟩)
            refine bodyPost_ret (v := dateV (2000 + N) m (n / 1440 - Cal.ys N - Cal.cum (2000 + N) m + 1) (n % 1440 / 60) (n % 1440 % 60) ((n / 1440 + 6) % 7)) (by simp [results, Tryd.results17, go_sem]) rfl ⟨?_, (Below.refl _ _).alloc (Nat.le_refl _) _⟩
            obtain ⟨q1, q2, q3⟩ := HQ.out
            rw [q1, q2, q3]
end Go.Proofs.YtgiclhkoajbgpaaDoor
