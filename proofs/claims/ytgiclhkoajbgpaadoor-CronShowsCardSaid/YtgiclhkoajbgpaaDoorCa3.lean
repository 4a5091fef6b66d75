/-
  The walk of Date.Minutes, both ways.
-/
import Derived.Test.YtgiclhkoajbgpaaDoorCa2
namespace Go.Proofs.YtgiclhkoajbgpaaDoor
open Go.RowKit
theorem monthDay_at (y m : Int) (w : World) (hL : LensIs w) (h0 : 2000 ≤ y) (h1 : y ≤ 7000) (m1 : 1 ≤ m) (m2 : m ≤ 12) :
    Calls Tryd.prog 41 #[.int .i64 ((y - 2000) * 12 + m - 1)] w fun e w' => e = .returned (.int .i64 (Cal.ys (y - 2000) + Cal.cum y m)) ∧ w = w' := by
  refine (monthDay_any _ w hL (by omega) (by omega)).mono ?_
  rintro e w' ⟨rfl, rfl⟩
  refine ⟨ret_int ?_, rfl⟩
  rw [show ((y - 2000) * 12 + m - 1) / 12 = y - 2000 by omega, show ((y - 2000) * 12 + m - 1) % 12 + 1 = m by omega, show 2000 + (y - 2000) = y by omega]

theorem bcell {W w1 : World} (hb : Below W.heap.size W w1) : (∀ b o, b < W.heap.size → w1.cell? ⟨b, o, none⟩ = W.cell? ⟨b, o, none⟩) ∧ (∀ b o, b < W.heap.size → w1.frozen? ⟨b, o, none⟩ = W.frozen? ⟨b, o, none⟩) :=
  ⟨fun b o h => hb.cell (p := ⟨b, o, none⟩) h, fun b o h => hb.frozen (p := ⟨b, o, none⟩) h⟩
theorem quiet_eq2 {P : Program} {f : FuncId} {args : Array Value} {w : World} {a n : Nat} {v : Value}
    (h : Calls P f args (w.drewN (a + n)) fun e w' => e = .returned v ∧ w.drewN (a + n) = w') : Calls P f args (w.drewN (a + n)) fun e w'' => e = .returned v ∧ ∃ m, w'' = w.drewN (a + m) :=
  h.mono fun _ _ ⟨he, hm⟩ => ⟨he, n, hm.symm⟩
/-- a date's minute, whatever its weekday -/
def Cal.minOf (y m d h i : Int) : Int := (Cal.ys (y - 2000) + Cal.cum y m + d - 1) * 1440 + h * 60 + i

set_option maxHeartbeats 400000 in
theorem minutes_t (y m d h i k : Int) (w : World) (hL : LensIs w) (g1 : ¬ y < 2000) (g2 : ¬ 7000 < y) (g3 : ¬ m < 1) (g4 : ¬ 12 < m) (g5 : ¬ d < 1) (g6 : ¬ Cal.dim y m < d) (g7 : ¬ h < 0) (g8 : ¬ 24 ≤ h) (g9 : ¬ i < 0) (g10 : ¬ 60 ≤ i)
    (c : 2147483648 ≤ Cal.minOf y m d h i) :
    Calls Tryd.prog 15 #[dateV y m d h i k] w fun e w' => e = .returned noMin ∧ Below w.heap.size w w' := by
  have b1 : decide (y < 2000) = false := decide_eq_false g1
  have b2 : decide (7000 < y) = false := decide_eq_false g2
  have b3 : decide (m < 1) = false := decide_eq_false g3
  have b4 : decide (12 < m) = false := decide_eq_false g4
  have b5 : decide (d < 1) = false := decide_eq_false g5
  have b6 : decide (Cal.dim y m < d) = false := decide_eq_false g6
  have b7 : decide (h < 0) = false := decide_eq_false g7
  have b8 : decide (24 ≤ h) = false := decide_eq_false g8
  have b9 : decide (i < 0) = false := decide_eq_false g9
  have b10 : decide (60 ≤ i) = false := decide_eq_false g10
  have db := Cal.dim_le y m
  have mb := monthDay_bd (y - 2000) m (by omega) (by omega) (by omega) (by omega)
  rw [show 2000 + (y - 2000) = y by omega] at mb
  obtain ⟨mb0, mb1⟩ := mb
  go_enter Tryd.func15, Tryd.ntmps15
  go_wp2_with fail
  go_quiet (((go_at_call 40; exact quiet_eq (days_any _ _ _ ((hL.alloc _).drewN _) (by omega)))))
  go_wp2_with fail
  clear b1 b2 b3 b4 b5 b6 b7 b8 b9 b10
  go_quiet (((go_at_call 41; exact quiet_eq2 (monthDay_at _ _ _ ((hL.alloc _).drewN _) (by omega) (by omega) (by omega) (by omega)))))
  go_wp2_with (go_at_call 13; refine (of_no _ _ (by unfold Cal.minOf at c; omega)).mono ?_; rintro e w1 ⟨rfl, hb⟩; obtain ⟨hc, hf⟩ := bcell hb; have hz : w.heap.size + 1 ≤ w1.heap.size := (by have := hb.size; simp at this; omega))
  go_ret2
  exact ⟨rfl, ((Below.drewN ((Below.refl _ _).alloc (Nat.le_refl _) _) _).trans (hb.mono (Nat.le_of_lt (by simp)))).alloc (by omega) _⟩

theorem of_min (y m d h i : Int) (w : World) (hL : LensIs w) (g1 : 2000 ≤ y) (g3 : 1 ≤ m) (g4 : m ≤ 12) (g5 : 1 ≤ d) (g6 : d ≤ Cal.dim y m) (g7 : 0 ≤ h) (g8 : h < 24) (g9 : 0 ≤ i) (g10 : i < 60)
    (c : Cal.minOf y m d h i < 2147483648) :
    Calls Tryd.prog 13 #[.int .i64 ((Cal.ys (y - 2000) + Cal.cum y m + d - 1) * 1440 + h * 60 + i)] w fun e w' => e = .returned (.tuple #[dateV y m d h i ((Cal.ys (y - 2000) + Cal.cum y m + d - 1 + 6) % 7), .int .i64 0]) ∧ Below w.heap.size w w' := by
  have hcum := Cal.cum_bd y m g3 (by omega)
  have hys := Cal.ys_ge (y - 2000) (by omega)
  unfold Cal.minOf at c
  refine (of_yes _ w hL (by omega) (by omega)).mono ?_
  rintro e w' ⟨rfl, hb⟩
  have e1 : ((Cal.ys (y - 2000) + Cal.cum y m + d - 1) * 1440 + h * 60 + i) / 1440 = Cal.ys (y - 2000) + Cal.cum y m + d - 1 := by omega
  have e2 : ((Cal.ys (y - 2000) + Cal.cum y m + d - 1) * 1440 + h * 60 + i) % 1440 = h * 60 + i := by omega
  have hd : Cal.IsDay (Cal.ys (y - 2000) + Cal.cum y m + d - 1) y m d := ⟨g1, g3, g4, g5, g6, by omega⟩
  obtain ⟨q1, q2, q3⟩ := Cal.of_isDay hd
  rw [e1, e2, q1, q2, q3, show (h * 60 + i) / 60 = h by omega, show (h * 60 + i) % 60 = i by omega]
  exact ⟨rfl, hb⟩


set_option maxHeartbeats 400000 in
theorem minutes_wd (y m d h i k : Int) (w : World) (hL : LensIs w) (g1 : ¬ y < 2000) (g2 : ¬ 7000 < y) (g3 : ¬ m < 1) (g4 : ¬ 12 < m) (g5 : ¬ d < 1) (g6 : ¬ Cal.dim y m < d) (g7 : ¬ h < 0) (g8 : ¬ 24 ≤ h) (g9 : ¬ i < 0) (g10 : ¬ 60 ≤ i)
    (c : Cal.minOf y m d h i < 2147483648) (hk : ¬ k = (Cal.ys (y - 2000) + Cal.cum y m + d - 1 + 6) % 7) :
    Calls Tryd.prog 15 #[dateV y m d h i k] w fun e w' => e = .returned noMin ∧ Below w.heap.size w w' := by
  have b1 : decide (y < 2000) = false := decide_eq_false g1
  have b2 : decide (7000 < y) = false := decide_eq_false g2
  have b3 : decide (m < 1) = false := decide_eq_false g3
  have b4 : decide (12 < m) = false := decide_eq_false g4
  have b5 : decide (d < 1) = false := decide_eq_false g5
  have b6 : decide (Cal.dim y m < d) = false := decide_eq_false g6
  have b7 : decide (h < 0) = false := decide_eq_false g7
  have b8 : decide (24 ≤ h) = false := decide_eq_false g8
  have b9 : decide (i < 0) = false := decide_eq_false g9
  have b10 : decide (60 ≤ i) = false := decide_eq_false g10
  have hk2 : ((Cal.ys (y - 2000) + Cal.cum y m + d - 1 + 6) % 7 == k) = false := by simp; omega
  have hk3 : ((Cal.ys (y - 2000) + Cal.cum y m + d - 1 + 6) % 7 != k) = true := by simp; omega
  clear hk
  have db := Cal.dim_le y m
  have mb := monthDay_bd (y - 2000) m (by omega) (by omega) (by omega) (by omega)
  rw [show 2000 + (y - 2000) = y by omega] at mb
  obtain ⟨mb0, mb1⟩ := mb
  go_enter Tryd.func15, Tryd.ntmps15
  go_wp2_with fail
  go_quiet (((go_at_call 40; exact quiet_eq (days_any _ _ _ ((hL.alloc _).drewN _) (by omega)))))
  go_wp2_with fail
  clear b1 b2 b3 b4 b5 b6 b7 b8 b9 b10
  go_quiet (((go_at_call 41; exact quiet_eq2 (monthDay_at _ _ _ ((hL.alloc _).drewN _) (by omega) (by omega) (by omega) (by omega)))))
  go_wp2_with (go_at_call 13; refine (of_min _ _ _ _ _ _ ((hL.alloc _).drewN _) (by omega) (by omega) (by omega) (by omega) (by omega) (by omega) (by omega) (by omega) (by omega) c).mono ?_; rintro e w1 ⟨rfl, hb⟩; have hz : w.heap.size < w1.heap.size := (by have := hb.size; simp at this; omega); have c0 : w1.cell? ⟨w.heap.size, 0, none⟩ = some (.int .i64 y) := ((hb.cell (p := ⟨w.heap.size, 0, none⟩) (by simp)).trans (by simp [go_sem])); have c1 : w1.cell? ⟨w.heap.size, 1, none⟩ = some (.int .i64 m) := ((hb.cell (p := ⟨w.heap.size, 1, none⟩) (by simp)).trans (by simp [go_sem])); have c2 : w1.cell? ⟨w.heap.size, 2, none⟩ = some (.int .i64 d) := ((hb.cell (p := ⟨w.heap.size, 2, none⟩) (by simp)).trans (by simp [go_sem])); have c3 : w1.cell? ⟨w.heap.size, 3, none⟩ = some (.int .i64 h) := ((hb.cell (p := ⟨w.heap.size, 3, none⟩) (by simp)).trans (by simp [go_sem])); have c4 : w1.cell? ⟨w.heap.size, 4, none⟩ = some (.int .i64 i) := ((hb.cell (p := ⟨w.heap.size, 4, none⟩) (by simp)).trans (by simp [go_sem])); have c5 : w1.cell? ⟨w.heap.size, 5, none⟩ = some (.int .i64 k) := ((hb.cell (p := ⟨w.heap.size, 5, none⟩) (by simp)).trans (by simp [go_sem])))
  go_ret2
  exact ⟨rfl, ((Below.drewN ((Below.refl _ _).alloc (Nat.le_refl _) _) _).trans (hb.mono (Nat.le_of_lt (by simp)))).alloc (Nat.le_of_lt hz) _⟩

set_option maxHeartbeats 400000 in
theorem minutes_ok (y m d h i k : Int) (w : World) (hL : LensIs w) (g1 : ¬ y < 2000) (g2 : ¬ 7000 < y) (g3 : ¬ m < 1) (g4 : ¬ 12 < m) (g5 : ¬ d < 1) (g6 : ¬ Cal.dim y m < d) (g7 : ¬ h < 0) (g8 : ¬ 24 ≤ h) (g9 : ¬ i < 0) (g10 : ¬ 60 ≤ i)
    (c : Cal.minOf y m d h i < 2147483648) (hk : k = (Cal.ys (y - 2000) + Cal.cum y m + d - 1 + 6) % 7) :
    Calls Tryd.prog 15 #[dateV y m d h i k] w fun e w' => e = .returned (.tuple #[.int .i64 (Cal.minOf y m d h i), .int .i64 0]) ∧ Below w.heap.size w w' := by
  have b1 : decide (y < 2000) = false := decide_eq_false g1
  have b2 : decide (7000 < y) = false := decide_eq_false g2
  have b3 : decide (m < 1) = false := decide_eq_false g3
  have b4 : decide (12 < m) = false := decide_eq_false g4
  have b5 : decide (d < 1) = false := decide_eq_false g5
  have b6 : decide (Cal.dim y m < d) = false := decide_eq_false g6
  have b7 : decide (h < 0) = false := decide_eq_false g7
  have b8 : decide (24 ≤ h) = false := decide_eq_false g8
  have b9 : decide (i < 0) = false := decide_eq_false g9
  have b10 : decide (60 ≤ i) = false := decide_eq_false g10
  subst hk
  have db := Cal.dim_le y m
  have mb := monthDay_bd (y - 2000) m (by omega) (by omega) (by omega) (by omega)
  rw [show 2000 + (y - 2000) = y by omega] at mb
  obtain ⟨mb0, mb1⟩ := mb
  go_enter Tryd.func15, Tryd.ntmps15
  go_wp2_with fail
  go_quiet (((go_at_call 40; exact quiet_eq (days_any _ _ _ ((hL.alloc _).drewN _) (by omega)))))
  go_wp2_with fail
  clear b1 b2 b3 b4 b5 b6 b7 b8 b9 b10
  go_quiet (((go_at_call 41; exact quiet_eq2 (monthDay_at _ _ _ ((hL.alloc _).drewN _) (by omega) (by omega) (by omega) (by omega)))))
  go_wp2_with (go_at_call 13; refine (of_min _ _ _ _ _ _ ((hL.alloc _).drewN _) (by omega) (by omega) (by omega) (by omega) (by omega) (by omega) (by omega) (by omega) (by omega) c).mono ?_; rintro e w1 ⟨rfl, hb⟩; have hz : w.heap.size < w1.heap.size := (by have := hb.size; simp at this; omega); have c0 : w1.cell? ⟨w.heap.size, 0, none⟩ = some (.int .i64 y) := ((hb.cell (p := ⟨w.heap.size, 0, none⟩) (by simp)).trans (by simp [go_sem])); have c1 : w1.cell? ⟨w.heap.size, 1, none⟩ = some (.int .i64 m) := ((hb.cell (p := ⟨w.heap.size, 1, none⟩) (by simp)).trans (by simp [go_sem])); have c2 : w1.cell? ⟨w.heap.size, 2, none⟩ = some (.int .i64 d) := ((hb.cell (p := ⟨w.heap.size, 2, none⟩) (by simp)).trans (by simp [go_sem])); have c3 : w1.cell? ⟨w.heap.size, 3, none⟩ = some (.int .i64 h) := ((hb.cell (p := ⟨w.heap.size, 3, none⟩) (by simp)).trans (by simp [go_sem])); have c4 : w1.cell? ⟨w.heap.size, 4, none⟩ = some (.int .i64 i) := ((hb.cell (p := ⟨w.heap.size, 4, none⟩) (by simp)).trans (by simp [go_sem])); have c5 : w1.cell? ⟨w.heap.size, 5, none⟩ = some (.int .i64 ((Cal.ys (y - 2000) + Cal.cum y m + d - 1 + 6) % 7)) := ((hb.cell (p := ⟨w.heap.size, 5, none⟩) (by simp)).trans (by simp [go_sem])))
  go_ret2
  exact ⟨rfl, ((Below.drewN ((Below.refl _ _).alloc (Nat.le_refl _) _) _).trans (hb.mono (Nat.le_of_lt (by simp)))).alloc (Nat.le_of_lt hz) _⟩

/-- a right date -/
def DateOk (y m d h i k : Int) : Prop := 2000 ≤ y ∧ y ≤ 7000 ∧ 1 ≤ m ∧ m ≤ 12 ∧ 1 ≤ d ∧ d ≤ Cal.dim y m ∧ 0 ≤ h ∧ h < 24 ∧ 0 ≤ i ∧ i < 60 ∧ Cal.minOf y m d h i < 2147483648 ∧ k = (Cal.ys (y - 2000) + Cal.cum y m + d - 1 + 6) % 7

theorem minutes_good (y m d h i k : Int) (w : World) (hL : LensIs w) (g : DateOk y m d h i k) :
    Calls Tryd.prog 15 #[dateV y m d h i k] w fun e w' => e = .returned (.tuple #[.int .i64 (Cal.minOf y m d h i), .int .i64 0]) ∧ Below w.heap.size w w' := by
  obtain ⟨g1, g2, g3, g4, g5, g6, g7, g8, g9, g10, g11, g12⟩ := g
  exact minutes_ok y m d h i k w hL (by omega) (by omega) (by omega) (by omega) (by omega) (by omega) (by omega) (by omega) (by omega) (by omega) g11 g12
theorem minutes_none (y m d h i k : Int) (w : World) (hL : LensIs w) (g : ¬ DateOk y m d h i k) :
    Calls Tryd.prog 15 #[dateV y m d h i k] w fun e w' => e = .returned noMin ∧ Below w.heap.size w w' := by
  by_cases g1 : y < 2000
  · exact minutes_bad1 y m d h i k w g1
  by_cases g2 : 7000 < y
  · exact minutes_bad2 y m d h i k w g1 g2
  by_cases g3 : m < 1
  · exact minutes_bad3 y m d h i k w g1 g2 g3
  by_cases g4 : 12 < m
  · exact minutes_bad4 y m d h i k w g1 g2 g3 g4
  by_cases g5 : d < 1
  · exact minutes_bad5 y m d h i k w g1 g2 g3 g4 g5
  by_cases g6 : Cal.dim y m < d
  · exact minutes_bad6 y m d h i k w hL g1 g2 g3 g4 g5 g6
  by_cases g7 : h < 0
  · exact minutes_bad7 y m d h i k w hL g1 g2 g3 g4 g5 g6 g7
  by_cases g8 : 24 ≤ h
  · exact minutes_bad8 y m d h i k w hL g1 g2 g3 g4 g5 g6 g7 g8
  by_cases g9 : i < 0
  · exact minutes_bad9 y m d h i k w hL g1 g2 g3 g4 g5 g6 g7 g8 g9
  by_cases g10 : 60 ≤ i
  · exact minutes_bad10 y m d h i k w hL g1 g2 g3 g4 g5 g6 g7 g8 g9 g10
  by_cases g11 : 2147483648 ≤ Cal.minOf y m d h i
  · exact minutes_t y m d h i k w hL g1 g2 g3 g4 g5 g6 g7 g8 g9 g10 g11
  by_cases g12 : k = (Cal.ys (y - 2000) + Cal.cum y m + d - 1 + 6) % 7
  · exact absurd ⟨by omega, by omega, by omega, by omega, by omega, by omega, by omega, by omega, by omega, by omega, by omega, g12⟩ g
  · exact minutes_wd y m d h i k w hL g1 g2 g3 g4 g5 g6 g7 g8 g9 g10 (by omega) g12
end Go.Proofs.YtgiclhkoajbgpaaDoor
