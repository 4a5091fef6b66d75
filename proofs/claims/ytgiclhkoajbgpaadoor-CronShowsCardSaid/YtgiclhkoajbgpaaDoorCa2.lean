/-
  The walks of calendar.Of and of Date.Minutes.
-/
import Derived.Test.YtgiclhkoajbgpaaDoorCa1
import Derived.Deep.QuietTactic
import Derived.BigQuiet
namespace Go.Proofs.YtgiclhkoajbgpaaDoor
open Go.RowKit

/-- a date as a value -/
abbrev dateV (y m d h i k : Int) : Value := .agg #[.int .i64 y, .int .i64 m, .int .i64 d, .int .i64 h, .int .i64 i, .int .i64 k]
theorem lens_pos {w : World} (hL : LensIs w) : 0 < w.heap.size := by
  have h := hL 1 (by decide) (by decide)
  by_cases e : 0 < w.heap.size
  · exact e
  · have : w.heap[0]? = none := by rw [Array.getElem?_eq_none_iff]; omega
    simp [World.cell?, this] at h
theorem LensIs.below {B : Nat} {w w' : World} (hL : LensIs w) (hb : Below B w w') (hB : 0 < B) : LensIs w' :=
  fun m h1 h2 => (hb.cell (p := ⟨0, m.toNat, none⟩) hB).trans (hL m h1 h2)
theorem LensIs.alloc {w : World} (hL : LensIs w) (o : Obj) : LensIs (w.alloc o) := hL.below ((Below.refl w.heap.size w).alloc (Nat.le_refl _) o) (lens_pos hL)
theorem LensIs.drew {w : World} (hL : LensIs w) : LensIs w.drew := hL.below ((Below.refl w.heap.size w).drew) (lens_pos hL)

set_option maxHeartbeats 1000000 in
theorem of_no (n : Int) (w : World) (h : ¬ (0 ≤ n ∧ n < 2147483648)) :
    Calls Tryd.prog 13 #[.int .i64 n] w fun e w' => e = .returned (.tuple #[dateV 0 0 0 0 0 0, .int .i64 30]) ∧ Below w.heap.size w w' := by
  have hd : decide (0 ≤ n ∧ n < 2147483648) = false := by simpa using h
  clear h
  go_enter Tryd.func13, Tryd.ntmps13
  go_wp2_with (go_at_call 37; refine (right_any _ _).mono ?_; rintro e w' ⟨rfl, rfl⟩)
  exact bodyPost_ret (v := .tuple #[dateV 0 0 0 0 0 0, .int .i64 30]) (by simp [results, Tryd.results13, go_sem]) rfl ⟨rfl, (Below.refl _ _).alloc (Nat.le_refl _) _⟩
set_option maxHeartbeats 1000000 in
theorem of_yes (n : Int) (w : World) (hL : LensIs w) (h0 : 0 ≤ n) (h1 : n < 2147483648) :
    Calls Tryd.prog 13 #[.int .i64 n] w fun e w' => e = .returned (.tuple #[dateV (Cal.yOf (n / 1440)) (Cal.mOf (n / 1440)) (Cal.dOf (n / 1440)) (n % 1440 / 60) (n % 1440 % 60) ((n / 1440 + 6) % 7), .int .i64 0]) ∧ Below w.heap.size w w' := by
  have hd : decide (0 ≤ n ∧ n < 2147483648) = true := by simp [h0, h1]
  go_enter Tryd.func13, Tryd.ntmps13
  go_wp2_with (first | (go_at_call 37; refine (right_any _ _).mono ?_; rintro e w' ⟨rfl, rfl⟩) | (go_at_call 38; refine (split_any _ _ ?_ (by omega) (by omega)).mono ?_; (exact hL.alloc _ |>.alloc _); rintro e w' ⟨rfl, rfl⟩))
  exact bodyPost_ret (v := .tuple #[dateV (Cal.yOf (n / 1440)) (Cal.mOf (n / 1440)) (Cal.dOf (n / 1440)) (n % 1440 / 60) (n % 1440 % 60) ((n / 1440 + 6) % 7), .int .i64 0]) (by simp [results, Tryd.results13, go_sem]) rfl
    ⟨rfl, ((Below.refl _ _).alloc (Nat.le_refl _) _).alloc (by simp) _⟩

theorem quiet_eq {P : Program} {f : FuncId} {args : Array Value} {w : World} {n : Nat} {v : Value}
    (h : Calls P f args (w.drewN n) fun e w' => e = .returned v ∧ w.drewN n = w') : Calls P f args (w.drewN n) fun e w'' => e = .returned v ∧ ∃ m, w'' = w.drewN m :=
  h.mono fun _ _ ⟨he, hm⟩ => ⟨he, n, hm.symm⟩
theorem Below.drewN {B : Nat} {a w : World} (h : Below B a w) (n : Nat) : Below B a (w.drewN n) := ⟨h.os, h.tape, h.output, h.size, h.block⟩
theorem LensIs.drewN {w : World} (hL : LensIs w) (n : Nat) : LensIs (w.drewN n) := hL.below (Below.drewN (Below.refl w.heap.size w) n) (lens_pos hL)
abbrev noMin : Value := .tuple #[.int .i64 0, .int .i64 30]

set_option maxHeartbeats 400000 in
theorem minutes_bad1 (y m d h i k : Int) (w : World) (c : y < 2000) :
    Calls Tryd.prog 15 #[dateV y m d h i k] w fun e w' => e = .returned noMin ∧ Below w.heap.size w w' := by
  go_enter Tryd.func15, Tryd.ntmps15
  go_wp2_with fail
  go_quiet (fail)
  go_wp2_with fail
  go_ret2
  exact ⟨rfl, Below.drewN ((Below.refl _ _).alloc (Nat.le_refl _) _) _⟩
set_option maxHeartbeats 400000 in
theorem minutes_bad2 (y m d h i k : Int) (w : World) (g1 : ¬ y < 2000) (c : 7000 < y) :
    Calls Tryd.prog 15 #[dateV y m d h i k] w fun e w' => e = .returned noMin ∧ Below w.heap.size w w' := by
  have b1 : decide (y < 2000) = false := decide_eq_false g1
  go_enter Tryd.func15, Tryd.ntmps15
  go_wp2_with fail
  go_quiet (fail)
  go_wp2_with fail
  go_ret2
  exact ⟨rfl, Below.drewN ((Below.refl _ _).alloc (Nat.le_refl _) _) _⟩
set_option maxHeartbeats 400000 in
theorem minutes_bad3 (y m d h i k : Int) (w : World) (g1 : ¬ y < 2000) (g2 : ¬ 7000 < y) (c : m < 1) :
    Calls Tryd.prog 15 #[dateV y m d h i k] w fun e w' => e = .returned noMin ∧ Below w.heap.size w w' := by
  have b1 : decide (y < 2000) = false := decide_eq_false g1
  have b2 : decide (7000 < y) = false := decide_eq_false g2
  go_enter Tryd.func15, Tryd.ntmps15
  go_wp2_with fail
  go_quiet (fail)
  go_wp2_with fail
  go_ret2
  exact ⟨rfl, Below.drewN ((Below.refl _ _).alloc (Nat.le_refl _) _) _⟩
set_option maxHeartbeats 400000 in
theorem minutes_bad4 (y m d h i k : Int) (w : World) (g1 : ¬ y < 2000) (g2 : ¬ 7000 < y) (g3 : ¬ m < 1) (c : 12 < m) :
    Calls Tryd.prog 15 #[dateV y m d h i k] w fun e w' => e = .returned noMin ∧ Below w.heap.size w w' := by
  have b1 : decide (y < 2000) = false := decide_eq_false g1
  have b2 : decide (7000 < y) = false := decide_eq_false g2
  have b3 : decide (m < 1) = false := decide_eq_false g3
  go_enter Tryd.func15, Tryd.ntmps15
  go_wp2_with fail
  go_quiet (fail)
  go_wp2_with fail
  go_ret2
  exact ⟨rfl, Below.drewN ((Below.refl _ _).alloc (Nat.le_refl _) _) _⟩
set_option maxHeartbeats 400000 in
theorem minutes_bad5 (y m d h i k : Int) (w : World) (g1 : ¬ y < 2000) (g2 : ¬ 7000 < y) (g3 : ¬ m < 1) (g4 : ¬ 12 < m) (c : d < 1) :
    Calls Tryd.prog 15 #[dateV y m d h i k] w fun e w' => e = .returned noMin ∧ Below w.heap.size w w' := by
  have b1 : decide (y < 2000) = false := decide_eq_false g1
  have b2 : decide (7000 < y) = false := decide_eq_false g2
  have b3 : decide (m < 1) = false := decide_eq_false g3
  have b4 : decide (12 < m) = false := decide_eq_false g4
  go_enter Tryd.func15, Tryd.ntmps15
  go_wp2_with fail
  go_quiet (fail)
  go_wp2_with fail
  go_ret2
  exact ⟨rfl, Below.drewN ((Below.refl _ _).alloc (Nat.le_refl _) _) _⟩
set_option maxHeartbeats 400000 in
theorem minutes_bad6 (y m d h i k : Int) (w : World) (hL : LensIs w) (g1 : ¬ y < 2000) (g2 : ¬ 7000 < y) (g3 : ¬ m < 1) (g4 : ¬ 12 < m) (g5 : ¬ d < 1) (c : Cal.dim y m < d) :
    Calls Tryd.prog 15 #[dateV y m d h i k] w fun e w' => e = .returned noMin ∧ Below w.heap.size w w' := by
  have b1 : decide (y < 2000) = false := decide_eq_false g1
  have b2 : decide (7000 < y) = false := decide_eq_false g2
  have b3 : decide (m < 1) = false := decide_eq_false g3
  have b4 : decide (12 < m) = false := decide_eq_false g4
  have b5 : decide (d < 1) = false := decide_eq_false g5
  go_enter Tryd.func15, Tryd.ntmps15
  go_wp2_with fail
  go_quiet (((go_at_call 40; exact quiet_eq (days_any _ _ _ ((hL.alloc _).drewN _) (by omega)))))
  go_wp2_with fail
  go_ret2
  exact ⟨rfl, Below.drewN ((Below.refl _ _).alloc (Nat.le_refl _) _) _⟩
set_option maxHeartbeats 400000 in
theorem minutes_bad7 (y m d h i k : Int) (w : World) (hL : LensIs w) (g1 : ¬ y < 2000) (g2 : ¬ 7000 < y) (g3 : ¬ m < 1) (g4 : ¬ 12 < m) (g5 : ¬ d < 1) (g6 : ¬ Cal.dim y m < d) (c : h < 0) :
    Calls Tryd.prog 15 #[dateV y m d h i k] w fun e w' => e = .returned noMin ∧ Below w.heap.size w w' := by
  have b1 : decide (y < 2000) = false := decide_eq_false g1
  have b2 : decide (7000 < y) = false := decide_eq_false g2
  have b3 : decide (m < 1) = false := decide_eq_false g3
  have b4 : decide (12 < m) = false := decide_eq_false g4
  have b5 : decide (d < 1) = false := decide_eq_false g5
  have b6 : decide (Cal.dim y m < d) = false := decide_eq_false g6
  go_enter Tryd.func15, Tryd.ntmps15
  go_wp2_with fail
  go_quiet (((go_at_call 40; exact quiet_eq (days_any _ _ _ ((hL.alloc _).drewN _) (by omega)))))
  go_wp2_with fail
  go_ret2
  exact ⟨rfl, Below.drewN ((Below.refl _ _).alloc (Nat.le_refl _) _) _⟩
set_option maxHeartbeats 400000 in
theorem minutes_bad8 (y m d h i k : Int) (w : World) (hL : LensIs w) (g1 : ¬ y < 2000) (g2 : ¬ 7000 < y) (g3 : ¬ m < 1) (g4 : ¬ 12 < m) (g5 : ¬ d < 1) (g6 : ¬ Cal.dim y m < d) (g7 : ¬ h < 0) (c : 24 ≤ h) :
    Calls Tryd.prog 15 #[dateV y m d h i k] w fun e w' => e = .returned noMin ∧ Below w.heap.size w w' := by
  have b1 : decide (y < 2000) = false := decide_eq_false g1
  have b2 : decide (7000 < y) = false := decide_eq_false g2
  have b3 : decide (m < 1) = false := decide_eq_false g3
  have b4 : decide (12 < m) = false := decide_eq_false g4
  have b5 : decide (d < 1) = false := decide_eq_false g5
  have b6 : decide (Cal.dim y m < d) = false := decide_eq_false g6
  have b7 : decide (h < 0) = false := decide_eq_false g7
  go_enter Tryd.func15, Tryd.ntmps15
  go_wp2_with fail
  go_quiet (((go_at_call 40; exact quiet_eq (days_any _ _ _ ((hL.alloc _).drewN _) (by omega)))))
  go_wp2_with fail
  go_ret2
  exact ⟨rfl, Below.drewN ((Below.refl _ _).alloc (Nat.le_refl _) _) _⟩
set_option maxHeartbeats 400000 in
theorem minutes_bad9 (y m d h i k : Int) (w : World) (hL : LensIs w) (g1 : ¬ y < 2000) (g2 : ¬ 7000 < y) (g3 : ¬ m < 1) (g4 : ¬ 12 < m) (g5 : ¬ d < 1) (g6 : ¬ Cal.dim y m < d) (g7 : ¬ h < 0) (g8 : ¬ 24 ≤ h) (c : i < 0) :
    Calls Tryd.prog 15 #[dateV y m d h i k] w fun e w' => e = .returned noMin ∧ Below w.heap.size w w' := by
  have b1 : decide (y < 2000) = false := decide_eq_false g1
  have b2 : decide (7000 < y) = false := decide_eq_false g2
  have b3 : decide (m < 1) = false := decide_eq_false g3
  have b4 : decide (12 < m) = false := decide_eq_false g4
  have b5 : decide (d < 1) = false := decide_eq_false g5
  have b6 : decide (Cal.dim y m < d) = false := decide_eq_false g6
  have b7 : decide (h < 0) = false := decide_eq_false g7
  have b8 : decide (24 ≤ h) = false := decide_eq_false g8
  go_enter Tryd.func15, Tryd.ntmps15
  go_wp2_with fail
  go_quiet (((go_at_call 40; exact quiet_eq (days_any _ _ _ ((hL.alloc _).drewN _) (by omega)))))
  go_wp2_with fail
  go_ret2
  exact ⟨rfl, Below.drewN ((Below.refl _ _).alloc (Nat.le_refl _) _) _⟩
set_option maxHeartbeats 400000 in
theorem minutes_bad10 (y m d h i k : Int) (w : World) (hL : LensIs w) (g1 : ¬ y < 2000) (g2 : ¬ 7000 < y) (g3 : ¬ m < 1) (g4 : ¬ 12 < m) (g5 : ¬ d < 1) (g6 : ¬ Cal.dim y m < d) (g7 : ¬ h < 0) (g8 : ¬ 24 ≤ h) (g9 : ¬ i < 0) (c : 60 ≤ i) :
    Calls Tryd.prog 15 #[dateV y m d h i k] w fun e w' => e = .returned noMin ∧ Below w.heap.size w w' := by
  have b1 : decide (y < 2000) = false := decide_eq_false g1
  have b2 : decide (7000 < y) = false := decide_eq_false g2
  have b3 : decide (m < 1) = false := decide_eq_false g3
  have b4 : decide (12 < m) = false := decide_eq_false g4
  have b5 : decide (d < 1) = false := decide_eq_false g5
  have b6 : decide (Cal.dim y m < d) = false := decide_eq_false g6
  have b7 : decide (h < 0) = false := decide_eq_false g7
  have b8 : decide (24 ≤ h) = false := decide_eq_false g8
  have b9 : decide (i < 0) = false := decide_eq_false g9
  go_enter Tryd.func15, Tryd.ntmps15
  go_wp2_with fail
  go_quiet (((go_at_call 40; exact quiet_eq (days_any _ _ _ ((hL.alloc _).drewN _) (by omega)))))
  go_wp2_with fail
  go_ret2
  exact ⟨rfl, Below.drewN ((Below.refl _ _).alloc (Nat.le_refl _) _) _⟩
end Go.Proofs.YtgiclhkoajbgpaaDoor
