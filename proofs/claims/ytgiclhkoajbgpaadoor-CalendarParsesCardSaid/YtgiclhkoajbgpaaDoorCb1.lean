/-
  The walk of the law CalendarMinutes at a right date, and at one that has a number that no date has.
-/
import Derived.Test.YtgiclhkoajbgpaaDoorCa6
namespace Go.Proofs.YtgiclhkoajbgpaaDoor
open Go.RowKit

theorem rof_min (y m d h i k : Int) (w : World) (g : DateOk y m d h i k) :
    Calls Tryd.prog 17 #[.int .i64 (Cal.minOf y m d h i)] w fun e w' => e = .returned (dateV y m d h i k) ∧ Below w.heap.size w w' := by
  obtain ⟨g1, g2, g3, g4, g5, g6, g7, g8, g9, g10, g11, g12⟩ := g
  have hcum := Cal.cum_bd y m g3 (by omega)
  have hys := Cal.ys_ge (y - 2000) (by omega)
  unfold Cal.minOf at g11 ⊢
  have hd : Cal.IsDay (Cal.ys (y - 2000) + Cal.cum y m + d - 1) y m d := ⟨g1, g3, g4, g5, g6, by omega⟩
  obtain ⟨q1, q2, q3⟩ := Cal.of_isDay hd
  refine (rof_any _ w (by omega) (by omega)).mono ?_
  rintro e w' ⟨rfl, hb⟩
  rw [show ((Cal.ys (y - 2000) + Cal.cum y m + d - 1) * 1440 + h * 60 + i) / 1440 = Cal.ys (y - 2000) + Cal.cum y m + d - 1 by omega,
    show ((Cal.ys (y - 2000) + Cal.cum y m + d - 1) * 1440 + h * 60 + i) % 1440 = h * 60 + i by omega, q1, q2, q3, show (h * 60 + i) / 60 = h by omega, show (h * 60 + i) % 60 = i by omega, ← g12]
  exact ⟨rfl, hb⟩
theorem minOf_bd (y m d h i k : Int) (g : DateOk y m d h i k) : 0 ≤ Cal.minOf y m d h i ∧ Cal.minOf y m d h i < 2147483648 := by
  obtain ⟨g1, g2, g3, g4, g5, g6, g7, g8, g9, g10, g11, g12⟩ := g
  have hcum := Cal.cum_bd y m g3 (by omega)
  have hys := Cal.ys_ge (y - 2000) (by omega)
  refine ⟨?_, g11⟩
  unfold Cal.minOf
  omega

set_option maxRecDepth 100000 in
set_option maxHeartbeats 1000000 in
theorem lminutes_good (y m d h i k : Int) (w : World) (hG : Glob w) (g : DateOk y m d h i k) :
    Calls Tryd.prog 4 #[dateV y m d h i k] w fun e w' => e = .returned (.bool true) ∧ Below w.heap.size w w' := by
  obtain ⟨n0, n1⟩ := minOf_bd y m d h i k g
  have d0 : decide (0 ≤ Cal.minOf y m d h i) = true := decide_eq_true n0
  have d1 : decide (Cal.minOf y m d h i < 2147483648) = true := decide_eq_true n1
  go_enter Tryd.func4, Tryd.ntmps4
  go_wp2_with (go_at_call 15; refine (minutes_good _ _ _ _ _ _ _ ((hG.alloc _).lens) g).mono ?_; rintro e w1 ⟨rfl, hb1⟩)
  obtain ⟨hz, c0, c1, c2, c3, c4, c5⟩ := date_cells hb1
  have G1 := (hG.alloc _).below hb1
  have B1 := Lib.hid (((Below.refl w.heap.size w).alloc (Nat.le_refl _) _).trans (hb1.mono (by simp)))
  have hz2 : w.heap.size ≤ w1.heap.size := by omega
  have G := Lib.hid g
  have C0 := since_cell c0
  have C1 := since_cell c1
  have C2 := since_cell c2
  have C3 := since_cell c3
  have C4 := since_cell c4
  have C5 := since_cell c5
  clear hb1 g c0 c1 c2 c3 c4 c5
  have E6 : ∀ w, (Op.equalIn 10000 30 (dateV y m d h i k) (dateV y m d h i k)).run Tryd.prog w = .ok true w := fun w => by rw [run_eq6]; simp
  refine wp_region_since (by kernel_rfl) (by kernel_rfl) ?_
  repeat (first | go_big_quiet_step ((first | (go_at_call 17; exact since_call (rof_min _ _ _ _ _ _ _ G.out)) | (go_at_call 16; exact since_call (ref_any _ _ _ _ _ _ _)) | (go_at_call 14; exact since_call (awake_any _ (G1.below (Since.h _)))))) | quiet_step ((first | (go_at_call 17; exact since_call (rof_min _ _ _ _ _ _ _ G.out)) | (go_at_call 16; exact since_call (ref_any _ _ _ _ _ _ _)) | (go_at_call 14; exact since_call (awake_any _ (G1.below (Since.h _)))))))
  refine wpQuiet_nil ?_
  rintro _ ⟨x, rfl⟩
  go_wp2
  go_ret
  exact ⟨rfl, B1.out.trans (x.h.mono hz2)⟩

set_option maxRecDepth 100000 in
set_option maxHeartbeats 1000000 in
theorem lminutes_bad1 (y m d h i k : Int) (w : World) (hG : Glob w) (g : ¬ DateOk y m d h i k) (c : y < 2000) :
    Calls Tryd.prog 4 #[dateV y m d h i k] w fun e w' => e = .returned (.bool true) ∧ Below w.heap.size w w' := by
  go_enter Tryd.func4, Tryd.ntmps4
  go_wp2_with (go_at_call 15; refine (minutes_none _ _ _ _ _ _ _ ((hG.alloc _).lens) g).mono ?_; rintro e w1 ⟨rfl, hb1⟩; obtain ⟨hz, c0, c1, c2, c3, c4, c5⟩ := date_cells hb1)
  have G1 := (hG.alloc _).below hb1
  have B1 := Lib.hid (((Below.refl w.heap.size w).alloc (Nat.le_refl _) _).trans (hb1.mono (by simp)))
  have hz2 : w.heap.size ≤ w1.heap.size := by omega
  clear hb1 g
  go_quiet (fail)
  go_wp2_with (go_at_call 14; refine (awake_any _ (G1.drewN _)).mono ?_; rintro e w2 ⟨rfl, hb2⟩)
  go_ret
  exact ⟨rfl, (Below.drewN B1.out _).trans (hb2.mono (by simpa using hz2))⟩

set_option maxRecDepth 100000 in
set_option maxHeartbeats 1000000 in
theorem lminutes_bad2 (y m d h i k : Int) (w : World) (hG : Glob w) (g : ¬ DateOk y m d h i k) (g1 : ¬ y < 2000) (c : 6083 < y) :
    Calls Tryd.prog 4 #[dateV y m d h i k] w fun e w' => e = .returned (.bool true) ∧ Below w.heap.size w w' := by
  have b1 : decide (y < 2000) = false := decide_eq_false g1
  go_enter Tryd.func4, Tryd.ntmps4
  go_wp2_with (go_at_call 15; refine (minutes_none _ _ _ _ _ _ _ ((hG.alloc _).lens) g).mono ?_; rintro e w1 ⟨rfl, hb1⟩; obtain ⟨hz, c0, c1, c2, c3, c4, c5⟩ := date_cells hb1)
  have G1 := (hG.alloc _).below hb1
  have B1 := Lib.hid (((Below.refl w.heap.size w).alloc (Nat.le_refl _) _).trans (hb1.mono (by simp)))
  have hz2 : w.heap.size ≤ w1.heap.size := by omega
  clear hb1 g
  go_quiet (fail)
  go_wp2_with (go_at_call 14; refine (awake_any _ (G1.drewN _)).mono ?_; rintro e w2 ⟨rfl, hb2⟩)
  go_ret
  exact ⟨rfl, (Below.drewN B1.out _).trans (hb2.mono (by simpa using hz2))⟩

set_option maxRecDepth 100000 in
set_option maxHeartbeats 1000000 in
theorem lminutes_bad3 (y m d h i k : Int) (w : World) (hG : Glob w) (g : ¬ DateOk y m d h i k) (g1 : ¬ y < 2000) (g2 : ¬ 6083 < y) (c : m < 1) :
    Calls Tryd.prog 4 #[dateV y m d h i k] w fun e w' => e = .returned (.bool true) ∧ Below w.heap.size w w' := by
  have b1 : decide (y < 2000) = false := decide_eq_false g1
  have b2 : decide (6083 < y) = false := decide_eq_false g2
  go_enter Tryd.func4, Tryd.ntmps4
  go_wp2_with (go_at_call 15; refine (minutes_none _ _ _ _ _ _ _ ((hG.alloc _).lens) g).mono ?_; rintro e w1 ⟨rfl, hb1⟩; obtain ⟨hz, c0, c1, c2, c3, c4, c5⟩ := date_cells hb1)
  have G1 := (hG.alloc _).below hb1
  have B1 := Lib.hid (((Below.refl w.heap.size w).alloc (Nat.le_refl _) _).trans (hb1.mono (by simp)))
  have hz2 : w.heap.size ≤ w1.heap.size := by omega
  clear hb1 g
  go_quiet (fail)
  go_wp2_with (go_at_call 14; refine (awake_any _ (G1.drewN _)).mono ?_; rintro e w2 ⟨rfl, hb2⟩)
  go_ret
  exact ⟨rfl, (Below.drewN B1.out _).trans (hb2.mono (by simpa using hz2))⟩

set_option maxRecDepth 100000 in
set_option maxHeartbeats 1000000 in
theorem lminutes_bad4 (y m d h i k : Int) (w : World) (hG : Glob w) (g : ¬ DateOk y m d h i k) (g1 : ¬ y < 2000) (g2 : ¬ 6083 < y) (g3 : ¬ m < 1) (c : 12 < m) :
    Calls Tryd.prog 4 #[dateV y m d h i k] w fun e w' => e = .returned (.bool true) ∧ Below w.heap.size w w' := by
  have b1 : decide (y < 2000) = false := decide_eq_false g1
  have b2 : decide (6083 < y) = false := decide_eq_false g2
  have b3 : decide (m < 1) = false := decide_eq_false g3
  go_enter Tryd.func4, Tryd.ntmps4
  go_wp2_with (go_at_call 15; refine (minutes_none _ _ _ _ _ _ _ ((hG.alloc _).lens) g).mono ?_; rintro e w1 ⟨rfl, hb1⟩; obtain ⟨hz, c0, c1, c2, c3, c4, c5⟩ := date_cells hb1)
  have G1 := (hG.alloc _).below hb1
  have B1 := Lib.hid (((Below.refl w.heap.size w).alloc (Nat.le_refl _) _).trans (hb1.mono (by simp)))
  have hz2 : w.heap.size ≤ w1.heap.size := by omega
  clear hb1 g
  go_quiet (fail)
  go_wp2_with (go_at_call 14; refine (awake_any _ (G1.drewN _)).mono ?_; rintro e w2 ⟨rfl, hb2⟩)
  go_ret
  exact ⟨rfl, (Below.drewN B1.out _).trans (hb2.mono (by simpa using hz2))⟩

set_option maxRecDepth 100000 in
set_option maxHeartbeats 1000000 in
theorem lminutes_bad5 (y m d h i k : Int) (w : World) (hG : Glob w) (g : ¬ DateOk y m d h i k) (g1 : ¬ y < 2000) (g2 : ¬ 6083 < y) (g3 : ¬ m < 1) (g4 : ¬ 12 < m) (c : d < 1) :
    Calls Tryd.prog 4 #[dateV y m d h i k] w fun e w' => e = .returned (.bool true) ∧ Below w.heap.size w w' := by
  have b1 : decide (y < 2000) = false := decide_eq_false g1
  have b2 : decide (6083 < y) = false := decide_eq_false g2
  have b3 : decide (m < 1) = false := decide_eq_false g3
  have b4 : decide (12 < m) = false := decide_eq_false g4
  go_enter Tryd.func4, Tryd.ntmps4
  go_wp2_with (go_at_call 15; refine (minutes_none _ _ _ _ _ _ _ ((hG.alloc _).lens) g).mono ?_; rintro e w1 ⟨rfl, hb1⟩; obtain ⟨hz, c0, c1, c2, c3, c4, c5⟩ := date_cells hb1)
  have G1 := (hG.alloc _).below hb1
  have B1 := Lib.hid (((Below.refl w.heap.size w).alloc (Nat.le_refl _) _).trans (hb1.mono (by simp)))
  have hz2 : w.heap.size ≤ w1.heap.size := by omega
  clear hb1 g
  go_quiet (fail)
  go_wp2_with (go_at_call 14; refine (awake_any _ (G1.drewN _)).mono ?_; rintro e w2 ⟨rfl, hb2⟩)
  go_ret
  exact ⟨rfl, (Below.drewN B1.out _).trans (hb2.mono (by simpa using hz2))⟩

set_option maxRecDepth 100000 in
set_option maxHeartbeats 1000000 in
theorem lminutes_bad6 (y m d h i k : Int) (w : World) (hG : Glob w) (g : ¬ DateOk y m d h i k) (g1 : ¬ y < 2000) (g2 : ¬ 6083 < y) (g3 : ¬ m < 1) (g4 : ¬ 12 < m) (g5 : ¬ d < 1) (c : Cal.dim y m < d) :
    Calls Tryd.prog 4 #[dateV y m d h i k] w fun e w' => e = .returned (.bool true) ∧ Below w.heap.size w w' := by
  have b1 : decide (y < 2000) = false := decide_eq_false g1
  have b2 : decide (6083 < y) = false := decide_eq_false g2
  have b3 : decide (m < 1) = false := decide_eq_false g3
  have b4 : decide (12 < m) = false := decide_eq_false g4
  have b5 : decide (d < 1) = false := decide_eq_false g5
  go_enter Tryd.func4, Tryd.ntmps4
  go_wp2_with (go_at_call 15; refine (minutes_none _ _ _ _ _ _ _ ((hG.alloc _).lens) g).mono ?_; rintro e w1 ⟨rfl, hb1⟩; obtain ⟨hz, c0, c1, c2, c3, c4, c5⟩ := date_cells hb1)
  have G1 := (hG.alloc _).below hb1
  have B1 := Lib.hid (((Below.refl w.heap.size w).alloc (Nat.le_refl _) _).trans (hb1.mono (by simp)))
  have hz2 : w.heap.size ≤ w1.heap.size := by omega
  clear hb1 g
  go_quiet (((go_at_call 18; exact quiet_eq (rdays_any _ _ _ (by omega) (by omega) (by omega)))))
  go_wp2_with (go_at_call 14; refine (awake_any _ (G1.drewN _)).mono ?_; rintro e w2 ⟨rfl, hb2⟩)
  go_ret
  exact ⟨rfl, (Below.drewN B1.out _).trans (hb2.mono (by simpa using hz2))⟩

set_option maxRecDepth 100000 in
set_option maxHeartbeats 1000000 in
theorem lminutes_bad7 (y m d h i k : Int) (w : World) (hG : Glob w) (g : ¬ DateOk y m d h i k) (g1 : ¬ y < 2000) (g2 : ¬ 6083 < y) (g3 : ¬ m < 1) (g4 : ¬ 12 < m) (g5 : ¬ d < 1) (g6 : ¬ Cal.dim y m < d) (c : h < 0) :
    Calls Tryd.prog 4 #[dateV y m d h i k] w fun e w' => e = .returned (.bool true) ∧ Below w.heap.size w w' := by
  have b1 : decide (y < 2000) = false := decide_eq_false g1
  have b2 : decide (6083 < y) = false := decide_eq_false g2
  have b3 : decide (m < 1) = false := decide_eq_false g3
  have b4 : decide (12 < m) = false := decide_eq_false g4
  have b5 : decide (d < 1) = false := decide_eq_false g5
  have b6 : decide (Cal.dim y m < d) = false := decide_eq_false g6
  go_enter Tryd.func4, Tryd.ntmps4
  go_wp2_with (go_at_call 15; refine (minutes_none _ _ _ _ _ _ _ ((hG.alloc _).lens) g).mono ?_; rintro e w1 ⟨rfl, hb1⟩; obtain ⟨hz, c0, c1, c2, c3, c4, c5⟩ := date_cells hb1)
  have G1 := (hG.alloc _).below hb1
  have B1 := Lib.hid (((Below.refl w.heap.size w).alloc (Nat.le_refl _) _).trans (hb1.mono (by simp)))
  have hz2 : w.heap.size ≤ w1.heap.size := by omega
  clear hb1 g
  go_quiet (((go_at_call 18; exact quiet_eq (rdays_any _ _ _ (by omega) (by omega) (by omega)))))
  go_wp2_with (go_at_call 14; refine (awake_any _ (G1.drewN _)).mono ?_; rintro e w2 ⟨rfl, hb2⟩)
  go_ret
  exact ⟨rfl, (Below.drewN B1.out _).trans (hb2.mono (by simpa using hz2))⟩

set_option maxRecDepth 100000 in
set_option maxHeartbeats 1000000 in
theorem lminutes_bad8 (y m d h i k : Int) (w : World) (hG : Glob w) (g : ¬ DateOk y m d h i k) (g1 : ¬ y < 2000) (g2 : ¬ 6083 < y) (g3 : ¬ m < 1) (g4 : ¬ 12 < m) (g5 : ¬ d < 1) (g6 : ¬ Cal.dim y m < d) (g7 : ¬ h < 0) (c : 23 < h) :
    Calls Tryd.prog 4 #[dateV y m d h i k] w fun e w' => e = .returned (.bool true) ∧ Below w.heap.size w w' := by
  have b1 : decide (y < 2000) = false := decide_eq_false g1
  have b2 : decide (6083 < y) = false := decide_eq_false g2
  have b3 : decide (m < 1) = false := decide_eq_false g3
  have b4 : decide (12 < m) = false := decide_eq_false g4
  have b5 : decide (d < 1) = false := decide_eq_false g5
  have b6 : decide (Cal.dim y m < d) = false := decide_eq_false g6
  have b7 : decide (h < 0) = false := decide_eq_false g7
  go_enter Tryd.func4, Tryd.ntmps4
  go_wp2_with (go_at_call 15; refine (minutes_none _ _ _ _ _ _ _ ((hG.alloc _).lens) g).mono ?_; rintro e w1 ⟨rfl, hb1⟩; obtain ⟨hz, c0, c1, c2, c3, c4, c5⟩ := date_cells hb1)
  have G1 := (hG.alloc _).below hb1
  have B1 := Lib.hid (((Below.refl w.heap.size w).alloc (Nat.le_refl _) _).trans (hb1.mono (by simp)))
  have hz2 : w.heap.size ≤ w1.heap.size := by omega
  clear hb1 g
  go_quiet (((go_at_call 18; exact quiet_eq (rdays_any _ _ _ (by omega) (by omega) (by omega)))))
  go_wp2_with (go_at_call 14; refine (awake_any _ (G1.drewN _)).mono ?_; rintro e w2 ⟨rfl, hb2⟩)
  go_ret
  exact ⟨rfl, (Below.drewN B1.out _).trans (hb2.mono (by simpa using hz2))⟩

set_option maxRecDepth 100000 in
set_option maxHeartbeats 1000000 in
theorem lminutes_bad9 (y m d h i k : Int) (w : World) (hG : Glob w) (g : ¬ DateOk y m d h i k) (g1 : ¬ y < 2000) (g2 : ¬ 6083 < y) (g3 : ¬ m < 1) (g4 : ¬ 12 < m) (g5 : ¬ d < 1) (g6 : ¬ Cal.dim y m < d) (g7 : ¬ h < 0) (g8 : ¬ 23 < h) (c : i < 0) :
    Calls Tryd.prog 4 #[dateV y m d h i k] w fun e w' => e = .returned (.bool true) ∧ Below w.heap.size w w' := by
  have b1 : decide (y < 2000) = false := decide_eq_false g1
  have b2 : decide (6083 < y) = false := decide_eq_false g2
  have b3 : decide (m < 1) = false := decide_eq_false g3
  have b4 : decide (12 < m) = false := decide_eq_false g4
  have b5 : decide (d < 1) = false := decide_eq_false g5
  have b6 : decide (Cal.dim y m < d) = false := decide_eq_false g6
  have b7 : decide (h < 0) = false := decide_eq_false g7
  have b8 : decide (23 < h) = false := decide_eq_false g8
  go_enter Tryd.func4, Tryd.ntmps4
  go_wp2_with (go_at_call 15; refine (minutes_none _ _ _ _ _ _ _ ((hG.alloc _).lens) g).mono ?_; rintro e w1 ⟨rfl, hb1⟩; obtain ⟨hz, c0, c1, c2, c3, c4, c5⟩ := date_cells hb1)
  have G1 := (hG.alloc _).below hb1
  have B1 := Lib.hid (((Below.refl w.heap.size w).alloc (Nat.le_refl _) _).trans (hb1.mono (by simp)))
  have hz2 : w.heap.size ≤ w1.heap.size := by omega
  clear hb1 g
  go_quiet (((go_at_call 18; exact quiet_eq (rdays_any _ _ _ (by omega) (by omega) (by omega)))))
  go_wp2_with (go_at_call 14; refine (awake_any _ (G1.drewN _)).mono ?_; rintro e w2 ⟨rfl, hb2⟩)
  go_ret
  exact ⟨rfl, (Below.drewN B1.out _).trans (hb2.mono (by simpa using hz2))⟩

set_option maxRecDepth 100000 in
set_option maxHeartbeats 1000000 in
theorem lminutes_bad10 (y m d h i k : Int) (w : World) (hG : Glob w) (g : ¬ DateOk y m d h i k) (g1 : ¬ y < 2000) (g2 : ¬ 6083 < y) (g3 : ¬ m < 1) (g4 : ¬ 12 < m) (g5 : ¬ d < 1) (g6 : ¬ Cal.dim y m < d) (g7 : ¬ h < 0) (g8 : ¬ 23 < h) (g9 : ¬ i < 0) (c : 59 < i) :
    Calls Tryd.prog 4 #[dateV y m d h i k] w fun e w' => e = .returned (.bool true) ∧ Below w.heap.size w w' := by
  have b1 : decide (y < 2000) = false := decide_eq_false g1
  have b2 : decide (6083 < y) = false := decide_eq_false g2
  have b3 : decide (m < 1) = false := decide_eq_false g3
  have b4 : decide (12 < m) = false := decide_eq_false g4
  have b5 : decide (d < 1) = false := decide_eq_false g5
  have b6 : decide (Cal.dim y m < d) = false := decide_eq_false g6
  have b7 : decide (h < 0) = false := decide_eq_false g7
  have b8 : decide (23 < h) = false := decide_eq_false g8
  have b9 : decide (i < 0) = false := decide_eq_false g9
  go_enter Tryd.func4, Tryd.ntmps4
  go_wp2_with (go_at_call 15; refine (minutes_none _ _ _ _ _ _ _ ((hG.alloc _).lens) g).mono ?_; rintro e w1 ⟨rfl, hb1⟩; obtain ⟨hz, c0, c1, c2, c3, c4, c5⟩ := date_cells hb1)
  have G1 := (hG.alloc _).below hb1
  have B1 := Lib.hid (((Below.refl w.heap.size w).alloc (Nat.le_refl _) _).trans (hb1.mono (by simp)))
  have hz2 : w.heap.size ≤ w1.heap.size := by omega
  clear hb1 g
  go_quiet (((go_at_call 18; exact quiet_eq (rdays_any _ _ _ (by omega) (by omega) (by omega)))))
  go_wp2_with (go_at_call 14; refine (awake_any _ (G1.drewN _)).mono ?_; rintro e w2 ⟨rfl, hb2⟩)
  go_ret
  exact ⟨rfl, (Below.drewN B1.out _).trans (hb2.mono (by simpa using hz2))⟩
end Go.Proofs.YtgiclhkoajbgpaaDoor
