/-
  The walk of the law CalendarMonths.
-/
import Derived.Test.YtgiclhkoajbgpaaDoorCc1
namespace Go.Proofs.YtgiclhkoajbgpaaDoor
open Go.RowKit

set_option maxRecDepth 100000 in
set_option maxHeartbeats 400000 in
theorem lmonths_no (n : Int) (w : World) (hG : Glob w) (h : ¬ (0 ≤ n ∧ n < 2147483648)) :
    Calls Tryd.prog 5 #[.int .i64 n] w fun e w' => e = .returned (.bool true) ∧ Below w.heap.size w w' := by
  by_cases c : n < 0
  all_goals
    have H := Lib.hid h
    clear h
    first | have c' : (n < 0) := c | have c' : 2147483648 ≤ n := by have := H.out; omega
    go_enter Tryd.func5, Tryd.ntmps5
    go_wp2_with (first | (go_at_call 20; refine (month_no _ _ H.out).mono ?_; rintro e w1 ⟨rfl, hb1⟩; have G1 := hG.below hb1) | (go_at_call 21; refine (day_no _ _ H.out).mono ?_; rintro e w' ⟨rfl, rfl⟩) | (go_at_call 14; refine (awake_any _ G1).mono ?_; rintro e w2 ⟨rfl, hb2⟩))
    go_ret
    exact ⟨rfl, hb1.trans (hb2.mono hb1.size)⟩

/-- what the walk of the law wants to know of a minute's month -/
theorem months_facts (n : Int) (h0 : 0 ≤ n) (h1 : n < 2147483648) : ∃ k : Int, DateOk (yM n) (mM n) 1 0 0 k ∧ Cal.minOf (yM n) (mM n) 1 0 0 = msOf (monM n) := by
  obtain ⟨e3, e4, em, l1, l2, l3⟩ := monM_spec n h0 h1
  obtain ⟨⟨a1, a2, a3, a4, a5, a6, a7, a8, a9, a10, a11, a12⟩, a13⟩ := dateOk n h0 h1
  refine ⟨_, ⟨a1, a2, a3, a4, by omega, ?_, by omega, by omega, by omega, by omega, by omega, rfl⟩, em.symm⟩
  have := Cal.dim_bd (yM n) (mM n) a3 a4
  omega
theorem rof_start (n : Int) (w : World) (k : Int) (hk : DateOk (yM n) (mM n) 1 0 0 k) (he : Cal.minOf (yM n) (mM n) 1 0 0 = msOf (monM n)) :
    Calls Tryd.prog 17 #[.int .i64 (msOf (monM n))] w fun e w' => e = .returned (dateV (yM n) (mM n) 1 0 0 k) ∧ Below w.heap.size w w' := by
  have := rof_min _ _ _ _ _ _ w hk
  rwa [he] at this

set_option maxRecDepth 100000 in
set_option maxHeartbeats 1000000 in
theorem lmonths_in (n : Int) (w : World) (hG : Glob w) (h0 : 0 ≤ n) (h1 : n < 2147483648) (hn : msOf (monM n + 1) < 2147483648) :
    Calls Tryd.prog 5 #[.int .i64 n] w fun e w' => e = .returned (.bool true) ∧ Below w.heap.size w w' := by
  obtain ⟨b1, b2, b3, b4, _⟩ := dateBd n h0 h1
  obtain ⟨e3, e4, em, l1, l2, l3⟩ := monM_spec n h0 h1
  obtain ⟨k, hk, he⟩ := months_facts n h0 h1
  obtain ⟨p0, p1⟩ := msOf_bd (monM n) e3 (by omega)
  have HK := Lib.hid hk
  have HE := Lib.hid he
  have q1 : (monM n != (yM n - 2000) * 12 + mM n - 1) = false := by simp [monM]
  have q2 : decide (n < msOf (monM n)) = false := decide_eq_false (by omega)
  have q3 : decide (msOf (monM n) < 0) = false := decide_eq_false (by omega)
  have q4 : decide (msOf (monM n + 1) ≤ n) = false := decide_eq_false (by omega)
  have q5 : decide (msOf (monM n + 1) < 0) = false := decide_eq_false (by omega)
  clear hk he em
  go_enter Tryd.func5, Tryd.ntmps5
  go_wp2_with fail
  refine (rof_ok _ _ h0 h1).mono ?_
  rintro e w1 ⟨rfl, hb1⟩
  have G1 := (hG.below hb1)
  go_wp2_with fail
  refine (month_yes _ _ ((G1.alloc _).lens) h0 h1).mono ?_
  rintro e w2 ⟨rfl, hb2⟩
  obtain ⟨hz, c0, c1, c2, c3, c4, c5⟩ := date_cells hb2
  have G2 := (G1.alloc _).below hb2
  have B2 := Lib.hid ((hb1.alloc hb1.size _).trans (hb2.mono (Nat.le_of_lt (Nat.lt_of_le_of_lt hb1.size (by simp)))))
  have hz2 : w.heap.size ≤ w2.heap.size := by have := hb1.size; omega
  clear hb2
  go_wp2_with fail
  refine (mstart_in _ _ G2.lens (by omega) (by omega) hn).mono ?_
  rintro e w' ⟨rfl, rfl⟩
  go_wp2_with fail
  refine (mstart_in _ _ G2.lens (by omega) (by omega) (by omega)).mono ?_
  rintro e w' ⟨rfl, rfl⟩
  go_wp2_with fail
  have C0 := since_cell c0
  have C1 := since_cell c1
  clear c0 c1 c2 c3 c4 c5
  have E6 : ∀ w, (Op.equalIn 10000 30 (dateV (yM n) (mM n) 1 0 0 k) (dateV (yM n) (mM n) 1 0 0 k)).run Tryd.prog w = .ok true w := fun w => by rw [run_eq6]; simp
  have i5 : ∀ w, (Instr.index 30 (dateV (yM n) (mM n) 1 0 0 k) (.int .i64 5)).run Tryd.prog w = .ok (.int .i64 k) w := fun _ => by kernel_rfl
  refine wp_region_since (by kernel_rfl) (by kernel_rfl) ?_
  repeat (first | go_big_quiet_step ((first | (go_at_call 17; exact since_call (rof_start _ _ _ HK.out HE.out)) | (go_at_call 21; exact since_same (day_yes _ _ h0 h1)) | (go_at_call 14; exact since_call (awake_any _ (G2.below (Since.h _)))))) | quiet_step ((first | (go_at_call 17; exact since_call (rof_start _ _ _ HK.out HE.out)) | (go_at_call 21; exact since_same (day_yes _ _ h0 h1)) | (go_at_call 14; exact since_call (awake_any _ (G2.below (Since.h _)))))))
  refine wpQuiet_nil ?_
  rintro _ ⟨x, rfl⟩
  go_wp2
  go_ret
  exact ⟨rfl, B2.out.trans (x.h.mono hz2)⟩

set_option maxRecDepth 100000 in
set_option maxHeartbeats 1000000 in
theorem lmonths_out (n : Int) (w : World) (hG : Glob w) (h0 : 0 ≤ n) (h1 : n < 2147483648) (hn : ¬ msOf (monM n + 1) < 2147483648) :
    Calls Tryd.prog 5 #[.int .i64 n] w fun e w' => e = .returned (.bool true) ∧ Below w.heap.size w w' := by
  obtain ⟨b1, b2, b3, b4, _⟩ := dateBd n h0 h1
  obtain ⟨e3, e4, em, l1, l2, l3⟩ := monM_spec n h0 h1
  obtain ⟨k, hk, he⟩ := months_facts n h0 h1
  obtain ⟨p0, p1⟩ := msOf_bd (monM n) e3 (by omega)
  have HK := Lib.hid hk
  have HE := Lib.hid he
  have q1 : (monM n != (yM n - 2000) * 12 + mM n - 1) = false := by simp [monM]
  have q2 : decide (n < msOf (monM n)) = false := decide_eq_false (by omega)
  have q3 : decide (msOf (monM n) < 0) = false := decide_eq_false (by omega)
  have q4 : decide (n < 2147439008) = false := decide_eq_false (by omega)
  clear hk he em
  go_enter Tryd.func5, Tryd.ntmps5
  go_wp2_with fail
  refine (rof_ok _ _ h0 h1).mono ?_
  rintro e w1 ⟨rfl, hb1⟩
  have G1 := (hG.below hb1)
  go_wp2_with fail
  refine (month_yes _ _ ((G1.alloc _).lens) h0 h1).mono ?_
  rintro e w2 ⟨rfl, hb2⟩
  obtain ⟨hz, c0, c1, c2, c3, c4, c5⟩ := date_cells hb2
  have G2 := (G1.alloc _).below hb2
  have B2 := Lib.hid ((hb1.alloc hb1.size _).trans (hb2.mono (Nat.le_of_lt (Nat.lt_of_le_of_lt hb1.size (by simp)))))
  have hz2 : w.heap.size ≤ w2.heap.size := by have := hb1.size; omega
  clear hb2
  go_wp2_with fail
  refine (mstart_out _ _ G2.lens (by omega) (by omega) (by omega)).mono ?_
  rintro e w' ⟨rfl, rfl⟩
  go_wp2_with fail
  refine (mstart_in _ _ G2.lens (by omega) (by omega) (by omega)).mono ?_
  rintro e w' ⟨rfl, rfl⟩
  go_wp2_with fail
  have C0 := since_cell c0
  have C1 := since_cell c1
  clear c0 c1 c2 c3 c4 c5
  have E6 : ∀ w, (Op.equalIn 10000 30 (dateV (yM n) (mM n) 1 0 0 k) (dateV (yM n) (mM n) 1 0 0 k)).run Tryd.prog w = .ok true w := fun w => by rw [run_eq6]; simp
  have i5 : ∀ w, (Instr.index 30 (dateV (yM n) (mM n) 1 0 0 k) (.int .i64 5)).run Tryd.prog w = .ok (.int .i64 k) w := fun _ => by kernel_rfl
  refine wp_region_since (by kernel_rfl) (by kernel_rfl) ?_
  repeat (first | go_big_quiet_step ((first | (go_at_call 17; exact since_call (rof_start _ _ _ HK.out HE.out)) | (go_at_call 21; exact since_same (day_yes _ _ h0 h1)) | (go_at_call 14; exact since_call (awake_any _ (G2.below (Since.h _)))))) | quiet_step ((first | (go_at_call 17; exact since_call (rof_start _ _ _ HK.out HE.out)) | (go_at_call 21; exact since_same (day_yes _ _ h0 h1)) | (go_at_call 14; exact since_call (awake_any _ (G2.below (Since.h _)))))))
  refine wpQuiet_nil ?_
  rintro _ ⟨x, rfl⟩
  go_wp2
  go_ret
  exact ⟨rfl, B2.out.trans (x.h.mono hz2)⟩

theorem lmonths_any (n : Int) (w : World) (hG : Glob w) :
    Calls Tryd.prog 5 #[.int .i64 n] w fun e w' => e = .returned (.bool true) ∧ Below w.heap.size w w' := by
  by_cases c : 0 ≤ n ∧ n < 2147483648
  · by_cases d : msOf (monM n + 1) < 2147483648
    · exact lmonths_in n w hG c.1 c.2 d
    · exact lmonths_out n w hG c.1 c.2 d
  · exact lmonths_no n w hG c
end Go.Proofs.YtgiclhkoajbgpaaDoor
