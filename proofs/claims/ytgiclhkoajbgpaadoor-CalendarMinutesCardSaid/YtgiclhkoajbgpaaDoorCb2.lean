/-
  The walk of the law CalendarMinutes at a date that is refused though each number may be one.
-/
import Derived.Test.YtgiclhkoajbgpaaDoorCb1
namespace Go.Proofs.YtgiclhkoajbgpaaDoor
open Go.RowKit

/-- the days so far of the law's own count -/
def lday (y m d : Int) : Int := d - 1 + Cal.ys (y - 2000) + Cal.cum y m
theorem lday_min (y m d h i : Int) : Cal.minOf y m d h i = lday y m d * 1440 + h * 60 + i := by unfold Cal.minOf lday; omega
theorem not_ok (y m d h i k : Int) (g1 : ¬ y < 2000) (g2 : ¬ 6083 < y) (g3 : ¬ m < 1) (g4 : ¬ 12 < m) (g5 : ¬ d < 1) (g6 : ¬ Cal.dim y m < d) (g7 : ¬ h < 0) (g8 : ¬ 23 < h) (g9 : ¬ i < 0) (g10 : ¬ 59 < i) (g : ¬ DateOk y m d h i k) : 2147483648 ≤ lday y m d * 1440 + h * 60 + i ∨ ¬ k = (lday y m d + 6) % 7 := by
  by_cases a : 2147483648 ≤ lday y m d * 1440 + h * 60 + i
  · exact Or.inl a
  · refine Or.inr fun e => g ⟨by omega, by omega, by omega, by omega, by omega, by omega, by omega, by omega, by omega, by omega, by rw [lday_min]; omega, ?_⟩
    rw [e]; unfold lday; congr 1; omega

set_option maxRecDepth 100000 in
set_option maxHeartbeats 4000000 in
theorem lminutes_rest (y m d h i k : Int) (w : World) (hG : Glob w) (g : ¬ DateOk y m d h i k) (g1 : ¬ y < 2000) (g2 : ¬ 6083 < y) (g3 : ¬ m < 1) (g4 : ¬ 12 < m) (g5 : ¬ d < 1) (g6 : ¬ Cal.dim y m < d) (g7 : ¬ h < 0) (g8 : ¬ 23 < h) (g9 : ¬ i < 0) (g10 : ¬ 59 < i) :
    Calls Tryd.prog 4 #[dateV y m d h i k] w fun e w' => e = .returned (.bool true) ∧ Below w.heap.size w w' := by
  have HN := Lib.hid (not_ok y m d h i k g1 g2 g3 g4 g5 g6 g7 g8 g9 g10 g)
  have db := Cal.dim_le y m
  have hyb := Cal.ys_bd (y - 2000) (by omega) (by omega)
  have hcb := Cal.cum_bd y m (by omega) (by omega)
  have b1 : decide (y < 2000) = false := decide_eq_false g1
  have b2 : decide (6083 < y) = false := decide_eq_false g2
  have b3 : decide (m < 1) = false := decide_eq_false g3
  have b4 : decide (12 < m) = false := decide_eq_false g4
  have b5 : decide (d < 1) = false := decide_eq_false g5
  have b6 : decide (Cal.dim y m < d) = false := decide_eq_false g6
  have b7 : decide (h < 0) = false := decide_eq_false g7
  have b8 : decide (23 < h) = false := decide_eq_false g8
  have b9 : decide (i < 0) = false := decide_eq_false g9
  have b10 : decide (59 < i) = false := decide_eq_false g10
  go_enter Tryd.func4, Tryd.ntmps4
  go_wp2_with (go_at_call 15; refine (minutes_none _ _ _ _ _ _ _ ((hG.alloc _).lens) g).mono ?_; rintro e w1 ⟨rfl, hb1⟩; obtain ⟨hz, c0, c1, c2, c3, c4, c5⟩ := date_cells hb1)
  have G1 := (hG.alloc _).below hb1
  have B1 := Lib.hid (((Below.refl w.heap.size w).alloc (Nat.le_refl _) _).trans (hb1.mono (by simp)))
  have hz2 : w.heap.size ≤ w1.heap.size := by omega
  clear hb1 g
  go_quiet (((go_at_call 18; exact quiet_eq (rdays_any _ _ _ (by omega) (by omega) (by omega)))))
  clear b1 b2 b3 b4 b5 b6 b7 b8 b9 b10
  go_wp2_with fail
  go_loop [5, 6] (fun t u => ∃ Y : Int, 2000 ≤ Y ∧ Y ≤ y ∧ u = .int .i64 Y ∧ t = .int .i64 (d - 1 + Cal.ys (Y - 2000))) (fun _ u => (7000 - intOf u).toNat)
  case atStart => exact ⟨2000, by omega, by omega, rfl, by rw [show (2000 : Int) - 2000 = 0 from rfl, Cal.ys_zero]; go_num⟩
  case round =>
    obtain ⟨Y, Y0, Y1, rfl, rfl⟩ := hrel
    have hys := Cal.ys_bd (Y - 2000) (by omega) (by omega)
    by_cases hc : Y < y
    · have hs := Cal.ys_succ (Y - 2000) (by omega)
      have hlp := Cal.lp_01 Y
      rw [show Y - 2000 + 1 = Y + 1 - 2000 by omega, show 2000 + (Y - 2000) = Y by omega] at hs
      by_cases hl : Cal.lp Y = 1
      · have hd : decide (Cal.lp Y = 1) = true := by simp [hl]
        have HS := Lib.hid (show Cal.ys (Y + 1 - 2000) = Cal.ys (Y - 2000) + 366 by omega)
        clear hs hl hlp
        go_wp2_with (go_at_call 19; refine (rleap_any _ _ (by omega)).mono ?_; rintro e w' ⟨rfl, rfl⟩)
        go_round
        case rel => exact ⟨Y + 1, by omega, by omega, rfl, by rw [HS.out]; go_num⟩
        case measure => simp [intOf]; omega
      · have hd : decide (Cal.lp Y = 1) = false := by simp [hl]
        have HS := Lib.hid (show Cal.ys (Y + 1 - 2000) = Cal.ys (Y - 2000) + 365 by omega)
        clear hs hl hlp
        go_wp2_with (go_at_call 19; refine (rleap_any _ _ (by omega)).mono ?_; rintro e w' ⟨rfl, rfl⟩)
        go_round
        case rel => exact ⟨Y + 1, by omega, by omega, rfl, by rw [HS.out]; go_num⟩
        case measure => simp [intOf]; omega
    · obtain rfl : Y = y := by omega
      go_wp2_with fail
      go_loop [5, 7] (fun t u => ∃ K : Int, 1 ≤ K ∧ K ≤ m ∧ u = .int .i64 K ∧ t = .int .i64 (d - 1 + Cal.ys (Y - 2000) + Cal.cum Y K)) (fun _ u => (20 - intOf u).toNat)
      case atStart => exact ⟨1, by omega, by omega, rfl, by rw [Cal.cum_one]; go_num⟩
      case round =>
        obtain ⟨K, K0, K1, rfl, rfl⟩ := hrel
        have hcb2 := Cal.cum_bd Y K (by omega) (by omega)
        by_cases hk : K < m
        · have hs := Cal.cum_succ Y K (by omega) (by omega)
          have hdb := Cal.dim_le Y K
          have HS := Lib.hid hs
          clear hs
          go_wp2_with (go_at_call 18; refine (rdays_any _ _ _ (by omega) (by omega) (by omega)).mono ?_; rintro e w' ⟨rfl, rfl⟩)
          go_round
          case rel => exact ⟨K + 1, by omega, by omega, rfl, by rw [HS.out]; go_num⟩
          case measure => simp [intOf]; omega
        · obtain rfl : K = m := by omega
          have hN := HN.out
          unfold lday at hN
          by_cases h1 : 2147483648 ≤ (d - 1 + Cal.ys (Y - 2000) + Cal.cum Y K) * 1440 + h * 60 + i
          · clear hN
            go_wp2_with (go_at_call 14; refine (awake_any _ (G1.drewN _)).mono ?_; rintro e w2 ⟨rfl, hb2⟩)
            go_ret
            exact ⟨rfl, (Below.drewN B1.out _).trans (hb2.mono (by simpa using hz2))⟩
          · have h2 : (k != (d - 1 + Cal.ys (Y - 2000) + Cal.cum Y K + 6) % 7) = true := by
              rw [bne_iff_ne]; rcases hN with hN | hN
              · exact absurd hN h1
              · exact hN
            clear hN
            go_wp2_with (go_at_call 14; refine (awake_any _ (G1.drewN _)).mono ?_; rintro e w2 ⟨rfl, hb2⟩)
            go_ret
            exact ⟨rfl, (Below.drewN B1.out _).trans (hb2.mono (by simpa using hz2))⟩

theorem lminutes_any (y m d h i k : Int) (w : World) (hG : Glob w) :
    Calls Tryd.prog 4 #[dateV y m d h i k] w fun e w' => e = .returned (.bool true) ∧ Below w.heap.size w w' := by
  by_cases g : DateOk y m d h i k
  · exact lminutes_good y m d h i k w hG g
  by_cases g1 : y < 2000
  · exact lminutes_bad1 y m d h i k w hG g g1
  by_cases g2 : 6083 < y
  · exact lminutes_bad2 y m d h i k w hG g g1 g2
  by_cases g3 : m < 1
  · exact lminutes_bad3 y m d h i k w hG g g1 g2 g3
  by_cases g4 : 12 < m
  · exact lminutes_bad4 y m d h i k w hG g g1 g2 g3 g4
  by_cases g5 : d < 1
  · exact lminutes_bad5 y m d h i k w hG g g1 g2 g3 g4 g5
  by_cases g6 : Cal.dim y m < d
  · exact lminutes_bad6 y m d h i k w hG g g1 g2 g3 g4 g5 g6
  by_cases g7 : h < 0
  · exact lminutes_bad7 y m d h i k w hG g g1 g2 g3 g4 g5 g6 g7
  by_cases g8 : 23 < h
  · exact lminutes_bad8 y m d h i k w hG g g1 g2 g3 g4 g5 g6 g7 g8
  by_cases g9 : i < 0
  · exact lminutes_bad9 y m d h i k w hG g g1 g2 g3 g4 g5 g6 g7 g8 g9
  by_cases g10 : 59 < i
  · exact lminutes_bad10 y m d h i k w hG g g1 g2 g3 g4 g5 g6 g7 g8 g9 g10
  exact lminutes_rest y m d h i k w hG g g1 g2 g3 g4 g5 g6 g7 g8 g9 g10
end Go.Proofs.YtgiclhkoajbgpaaDoor
