/-
  The walks of the laws CalendarDates, and what they stand on.
-/
import Derived.Test.YtgiclhkoajbgpaaDoorCa5
import Derived.Test.YtgiclhkoajbgpaaDoorArr
namespace Go.Proofs.YtgiclhkoajbgpaaDoor
open Go.RowKit

theorem run_eq6 (y m d h i k y' m' d' h' i' k' : Int) (w : World) :
    (Op.equalIn 10000 30 (dateV y m d h i k) (dateV y' m' d' h' i' k')).run Tryd.prog w = .ok (y == y' && (m == m' && (d == d' && (h == h' && (i == i' && k == k'))))) w := by
  have ia : ∀ w, (isAgg 3).run Tryd.prog w = .ok false w := fun w => by kernel_rfl
  have h := run_equalIn_arr (P := Tryd.prog) (w := w) (d := 9999) (t := 30) (e := 3) (len := 6) (n := 1)
    (xs := #[.int .i64 y, .int .i64 m, .int .i64 d, .int .i64 h, .int .i64 i, .int .i64 k]) (ys := #[.int .i64 y', .int .i64 m', .int .i64 d', .int .i64 h', .int .i64 i', .int .i64 k'])
    (fun j => [y, m, d, h, i, k].getD j 0 == [y', m', d', h', i', k'].getD j 0) (fun j => .int .i64 ([y, m, d, h, i, k].getD j 0)) (fun j => .int .i64 ([y', m', d', h', i', k'].getD j 0))
    (by kernel_rfl) (by kernel_rfl) ?_ ?_ ?_
  · rw [range6_all] at h
    exact h
  · intro j hj
    have : j = 0 ∨ j = 1 ∨ j = 2 ∨ j = 3 ∨ j = 4 ∨ j = 5 := by omega
    rcases this with rfl | rfl | rfl | rfl | rfl | rfl <;> exact run_part_cell (ia w) rfl
  · intro j hj
    have : j = 0 ∨ j = 1 ∨ j = 2 ∨ j = 3 ∨ j = 4 ∨ j = 5 := by omega
    rcases this with rfl | rfl | rfl | rfl | rfl | rfl <;> exact run_part_cell (ia w) rfl
  · intro j _
    exact run_equalIn_int _ _ _ _ .i64 _ _ (by kernel_rfl)
/-- a date in a block of its own, behind whatever makes new memory -/
theorem date_cells {W w2 : World} {y m d h i k : Int} {T : TypeId} (hb : Below (W.alloc (.cells #[.int .i64 y, .int .i64 m, .int .i64 d, .int .i64 h, .int .i64 i, .int .i64 k] T)).heap.size (W.alloc (.cells #[.int .i64 y, .int .i64 m, .int .i64 d, .int .i64 h, .int .i64 i, .int .i64 k] T)) w2) :
    W.heap.size < w2.heap.size ∧
    (w2.cell? ⟨W.heap.size, 0, none⟩ = some (.int .i64 y) ∧ w2.cell? ⟨W.heap.size, 1, none⟩ = some (.int .i64 m) ∧ w2.cell? ⟨W.heap.size, 2, none⟩ = some (.int .i64 d) ∧
    w2.cell? ⟨W.heap.size, 3, none⟩ = some (.int .i64 h) ∧ w2.cell? ⟨W.heap.size, 4, none⟩ = some (.int .i64 i) ∧ w2.cell? ⟨W.heap.size, 5, none⟩ = some (.int .i64 k)) := by
  refine ⟨by have := hb.size; simp at this; omega, ?_⟩
  refine ⟨?_, ?_, ?_, ?_, ?_, ?_⟩
  all_goals (refine (hb.cell (p := ⟨W.heap.size, _, none⟩) (by simp)).trans ?_; simp [go_sem])
/-- a minute's date -/
noncomputable def yM (n : Int) : Int := Cal.yOf (n / 1440)
noncomputable def mM (n : Int) : Int := Cal.mOf (n / 1440)
noncomputable def dM (n : Int) : Int := Cal.dOf (n / 1440)
def hM (n : Int) : Int := n % 1440 / 60
def iM (n : Int) : Int := n % 1440 % 60
def kM (n : Int) : Int := (n / 1440 + 6) % 7
/-- the date of a minute is right, and that minute's -/
theorem dateOk (n : Int) (h0 : 0 ≤ n) (h1 : n < 2147483648) :
    DateOk (yM n) (mM n) (dM n) (hM n) (iM n) (kM n) ∧ Cal.minOf (yM n) (mM n) (dM n) (hM n) (iM n) = n := by
  have h := Cal.isDay (n / 1440) (by omega)
  obtain ⟨b1, b2, b3, b4, b5, b6⟩ := Cal.isDay_bd h (by omega)
  obtain ⟨a1, a2, a3, a4, a5, a6⟩ := h
  unfold yM mM dM hM iM kM
  have e : Cal.minOf (Cal.yOf (n / 1440)) (Cal.mOf (n / 1440)) (Cal.dOf (n / 1440)) (n % 1440 / 60) (n % 1440 % 60) = n := by
    unfold Cal.minOf; omega
  refine ⟨⟨a1, by omega, a2, a3, a4, a5, by omega, by omega, by omega, by omega, by omega, ?_⟩, e⟩
  rw [show Cal.ys (Cal.yOf (n / 1440) - 2000) + Cal.cum (Cal.yOf (n / 1440)) (Cal.mOf (n / 1440)) + Cal.dOf (n / 1440) - 1 = n / 1440 by omega]
theorem dateBd (n : Int) (h0 : 0 ≤ n) (h1 : n < 2147483648) : 2000 ≤ yM n ∧ yM n ≤ 6083 ∧ 1 ≤ mM n ∧ mM n ≤ 12 ∧ 1 ≤ dM n ∧ dM n ≤ 31 ∧ 0 ≤ hM n ∧ hM n ≤ 23 ∧ 0 ≤ iM n ∧ iM n ≤ 59 ∧ 0 ≤ kM n ∧ kM n ≤ 6 := by
  obtain ⟨b1, b2, b3, b4, b5, b6⟩ := Cal.isDay_bd (Cal.isDay (n / 1440) (by omega)) (by omega)
  unfold yM mM dM hM iM kM
  omega
theorem of_ok (n : Int) (w : World) (hL : LensIs w) (h0 : 0 ≤ n) (h1 : n < 2147483648) :
    Calls Tryd.prog 13 #[.int .i64 n] w fun e w' => e = .returned (.tuple #[dateV (yM n) (mM n) (dM n) (hM n) (iM n) (kM n), .int .i64 0]) ∧ Below w.heap.size w w' := of_yes n w hL h0 h1
theorem rof_ok (n : Int) (w : World) (h0 : 0 ≤ n) (h1 : n < 2147483648) :
    Calls Tryd.prog 17 #[.int .i64 n] w fun e w' => e = .returned (dateV (yM n) (mM n) (dM n) (hM n) (iM n) (kM n)) ∧ Below w.heap.size w w' := rof_any n w h0 h1
theorem minutes_of (n : Int) (w : World) (hL : LensIs w) (h0 : 0 ≤ n) (h1 : n < 2147483648) :
    Calls Tryd.prog 15 #[dateV (yM n) (mM n) (dM n) (hM n) (iM n) (kM n)] w fun e w' => e = .returned (.tuple #[.int .i64 n, .int .i64 0]) ∧ Below w.heap.size w w' := by
  have h := minutes_good _ _ _ _ _ _ w hL (dateOk n h0 h1).1
  rw [(dateOk n h0 h1).2] at h
  exact h

set_option maxHeartbeats 400000 in
theorem ref_any (y m d h i k : Int) (w : World) : Calls Tryd.prog 16 #[dateV y m d h i k] w fun e w' => e = .returned (dateV y m d h i k) ∧ Below w.heap.size w w' := by
  go_enter Tryd.func16, Tryd.ntmps16
  go_wp2
  exact bodyPost_ret (v := dateV y m d h i k) (by simp [results, Tryd.results16, go_sem]) rfl ⟨rfl, ((Below.refl _ _).alloc (Nat.le_refl _) _).alloc (by simp) _⟩

set_option maxHeartbeats 400000 in
theorem dates_no (n : Int) (w : World) (hG : Glob w) (h : ¬ (0 ≤ n ∧ n < 2147483648)) :
    Calls Tryd.prog 3 #[.int .i64 n] w fun e w' => e = .returned (.bool true) ∧ Below w.heap.size w w' := by
  by_cases c : n < 0
  all_goals
    have H := Lib.hid h
    clear h
    first | have c' : (n < 0) := c | have c' : 2147483648 ≤ n := by have := H.out; omega
    go_enter Tryd.func3, Tryd.ntmps3
    go_wp2_with (first | (go_at_call 13; refine (of_no _ _ H.out).mono ?_; rintro e w1 ⟨rfl, hb1⟩; have G1 := hG.below hb1) | (go_at_call 14; refine (awake_any _ (G1.alloc _)).mono ?_; rintro e w2 ⟨rfl, hb2⟩))
    go_ret
    exact ⟨rfl, ((hb1.alloc hb1.size _).trans (hb2.mono (by simp; have := hb1.size; omega)))⟩

set_option maxRecDepth 100000 in
set_option maxHeartbeats 400000 in
theorem dates_yes (n : Int) (w : World) (hG : Glob w) (h0 : 0 ≤ n) (h1 : n < 2147483648) :
    Calls Tryd.prog 3 #[.int .i64 n] w fun e w' => e = .returned (.bool true) ∧ Below w.heap.size w w' := by
  go_enter Tryd.func3, Tryd.ntmps3
  go_wp2_with fail
  refine (of_ok _ _ hG.lens h0 h1).mono ?_
  rintro e w1 ⟨rfl, hb1⟩
  go_wp2_with fail
  refine (minutes_of _ _ ((hG.below hb1).alloc _).lens h0 h1).mono ?_
  rintro e w2 ⟨rfl, hb2⟩
  obtain ⟨hz, c0, c1, c2, c3, c4, c5⟩ := date_cells hb2
  have G2 := ((hG.below hb1).alloc _).below hb2
  have B2 := Lib.hid ((hb1.alloc hb1.size _).trans (hb2.mono (Nat.le_of_lt (Nat.lt_of_le_of_lt hb1.size (by simp)))))
  have hz2 : w.heap.size ≤ w2.heap.size := by have := hb1.size; omega
  clear hb2
  go_wp2_with fail
  refine (ref_any _ _ _ _ _ _ _).mono ?_
  rintro e w3 ⟨rfl, hb3⟩
  have G3 := G2.below hb3
  go_wp2_with fail
  refine (rof_ok _ _ h0 h1).mono ?_
  rintro e w4 ⟨rfl, hb4⟩
  have G4 := G3.below hb4
  have E6 : ∀ w, (Op.equalIn 10000 30 (dateV (yM n) (mM n) (dM n) (hM n) (iM n) (kM n)) (dateV (yM n) (mM n) (dM n) (hM n) (iM n) (kM n))).run Tryd.prog w = .ok true w := fun w => by rw [run_eq6]; simp
  go_wp2_with fail
  refine (awake_any _ G4).mono ?_
  rintro e w5 ⟨rfl, hb5⟩
  go_wp2_with fail
  go_ret
  exact ⟨rfl, B2.out.trans (((hb3.trans (hb4.mono hb3.size)).trans (hb5.mono (Nat.le_trans hb3.size hb4.size))).mono hz2)⟩
theorem dates_any (n : Int) (W : World) (hG : Glob W) : Calls Tryd.prog 3 #[.int .i64 n] W fun e w' => e = .returned (.bool true) ∧ Below W.heap.size W w' := by
  by_cases c : 0 ≤ n ∧ n < 2147483648
  · exact dates_yes n W hG c.1 c.2
  · exact dates_no n W hG c
end Go.Proofs.YtgiclhkoajbgpaaDoor
