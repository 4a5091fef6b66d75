/-
  The walk of the law CronNext.
-/
import Derived.Test.YtgiclhkoajbgpaaDoorEe
namespace Go.Proofs.YtgiclhkoajbgpaaDoor
open Go.RowKit

/-- the document's Match at a right spec's fields -/
theorem refm_any (S : Nat → Nat) (A : Nat → Bool) (hk : okS S A = true) (m : Int) (h0 : 0 ≤ m) (h1 : m < 2147483648) (b : Bool) (hb : matchM S A m = b) (w : World) :
    Calls Tryd.prog 30 #[refV (refG S A), .int .i64 m] w fun e w' => e = .returned (.bool b) ∧ Below w.heap.size w w' := by
  have h := refMatch_any (refG S A) m h0 h1 w
  rwa [match_ref S A hk m h0 h1, hb] at h
theorem below_tabs {w W : World} {S : Nat → Nat} {A : Nat → Bool} (hL : LensIs w) (hB : BoundsIs w) (h : Below (w.heap.size + 1) (w.alloc (.cells (specA S A) 41)) W) : LensIs W ∧ BoundsIs W :=
  ⟨hL.below (below_old h) (lens_pos hL), hB.below (below_old h)⟩

set_option maxRecDepth 100000 in
set_option maxHeartbeats 4000000 in
theorem lcnext_any (S : Nat → Nat) (A : Nat → Bool) (hS : ∀ i, i < 5 → S i < 2 ^ 64) (n : Int) (w : World) (hL : LensIs w) (hB : BoundsIs w) :
    Calls Tryd.prog 8 #[specV S A, .int .i64 n] w fun e w' => e = .returned (.bool true) ∧ Below w.heap.size w w' := by
  have hb0 : Below (w.heap.size + 1) (w.alloc (.cells (specA S A) 41)) (w.alloc (.cells (specA S A) 41)) := Below.refl _ _
  obtain ⟨hLw, hBw⟩ := below_tabs hL hB hb0
  have hz := zero47
  have hrm := refm_any S A
  have hB' := hB
  obtain ⟨q0, q1, q2, q3, q4, q5, q6, q7, q8, q9, -, -, -, -, -, -, -, -, -, -⟩ := cells10 (below_spec hb0)
  go_enter Tryd.func8, Tryd.ntmps8
  go_wp2_with fail
  refine (next_any S A hS n _ hLw hBw).mono ?_
  rintro e W1 ⟨⟨r, ok, rfl, hu⟩, hb1⟩
  have hB1 := hb0.trans (hb1.mono (below_lt hb0))
  obtain ⟨q0, q1, q2, q3, q4, q5, q6, q7, q8, q9, -, -, -, -, -, -, -, -, -, -⟩ := cells10 (below_spec hB1)
  go_wp2_with fail
  refine (rightS_any S A hS _).mono ?_
  rintro e W2 ⟨rfl, hb2⟩
  have hB2 := hB1.trans (hb2.mono (below_lt hB1))
  clear q0 q1 q2 q3 q4 q5 q6 q7 q8 q9 hb1 hb2 hB1 hLw hBw hb0
  obtain ⟨hL2, hBd2⟩ := below_tabs hL hB hB2
  have haw := cawake_any W2 hL2 hBd2
  cases hk : okS S A
  · obtain ⟨rfl, rfl⟩ : ok = false ∧ r = 0 := by
      rcases hu with ⟨rfl, h1, h2, h3, h4⟩ | ⟨rfl, rfl, h4⟩
      · rw [match_no hk] at h3; cases h3
      · exact ⟨rfl, rfl⟩
    go_wp2_with (go_at_call 23; refine haw.mono ?_; rintro e W3 ⟨rfl, hb3⟩)
    go_ret
    exact ⟨rfl, below_old (hB2.trans (hb3.mono (below_lt hB2)))⟩
  · have hrm := hrm hk
    rcases hu with ⟨rfl, h1, h2, h3, h4⟩ | ⟨rfl, rfl, h4⟩
    · -- a minute is told
      have hMm : -1 ≤ max n (-1) := Int.le_max_right _ _
      have hMn : n ≤ max n (-1) := Int.le_max_left _ _
      have hrm1 := hrm r (by omega) (by omega) true h3
      obtain ⟨q0, q1, q2, q3, q4, q5, q6, q7, q8, q9, -, -, -, -, -, -, -, -, -, -⟩ := cells10 (below_spec hB2)
      have g1 : n < r := by omega
      have g2 : 0 ≤ r := by omega
      have g3 : r < 2147483648 := by omega
      clear haw
      go_wp2_with fail
      refine (refL_any S A hS _).mono ?_
      rintro e W3 ⟨rfl, hb3⟩
      have hB3 := hB2.trans (hb3.mono (below_lt hB2))
      go_wp2_with fail
      refine (hrm1 _).mono ?_
      rintro e W4 ⟨rfl, hb4⟩
      have hB4 := hB3.trans (hb4.mono (below_lt hB3))
      obtain ⟨q0, q1, q2, q3, q4, q5, q6, q7, q8, q9, -, -, -, -, -, -, -, -, -, -⟩ := cells10 (below_spec hB4)
      go_wp2_with fail
      refine (refL_any S A hS _).mono ?_
      rintro e W5 ⟨rfl, hb5⟩
      have hB5 := hB4.trans (hb5.mono (below_lt hB4))
      have hst := run_cells47 (World.alloc_heap_new W5 (.cells (cellsF fun _ => false) 47)) (refG S A)
      rw [World.setRow_alloc_new] at hst
      clear q0 q1 q2 q3 q4 q5 q6 q7 q8 q9 hrm1 hb3 hb4 hb5 hB2 hB3 hB4 hL2 hBd2
      go_wp2_with fail
      have hF0 := World.alloc_heap_new W5 (.cells (cellsF (refG S A)) 47)
      have hB6 := hB5.alloc (below_lt hB5) (.cells (cellsF (refG S A)) 47)
      have hlt0 : W5.heap.size < (W5.alloc (.cells (cellsF (refG S A)) 47)).heap.size := by simp
      clear hst
      generalize W5.alloc (.cells (cellsF (refG S A)) 47) = W6 at *
      generalize W5.heap.size = X at *
      clear hB5
      generalize max n (-1) = M at *
      trace "HERE1"
      trace_state
      go_loopw [11, 76, 77, 78, 79, 80, 81, 82, 83, 84] (fun x11 x76 x77 x78 x79 x80 x81 x82 x83 x84 wr => ∃ m : Int, M < m ∧ m ≤ r ∧ x11 = .int .i64 m ∧ Below (w.heap.size + 1) (w.alloc (.cells (specA S A) 41)) wr ∧ X < wr.heap.size ∧ wr.heap[X]? = some (.cells (cellsF (refG S A)) 47 (0, 0)))
        (fun x11 x76 x77 x78 x79 x80 x81 x82 x83 x84 wr => (2147483648 - (intOf x11)).toNat)
      case atStart => exact ⟨M + 1, by omega, by omega, rfl, hB6, hlt0, hF0⟩
      case round =>
        clear hB6 hlt0 hF0
        obtain ⟨m, hm0, hm1, rfl, hB, hlt, hF⟩ := hrel
        by_cases c1 : m < r <;> by_cases c2 : m < M + 1 + 3000
        · go_wp2_with fail
          refine wp_load47 _ rfl X _ rfl hF ?_
          go_wp2_with fail
          refine (hrm m (by omega) (by omega) false (h4 m (by omega) c1) _).mono ?_
          rintro e W7 ⟨rfl, hb7⟩
          go_wp2_with fail
          go_roundw
          case rel => exact ⟨m + 1, by omega, by omega, rfl, hB.trans (hb7.mono (below_lt hB)), Nat.lt_of_lt_of_le hlt hb7.size, (hb7.block X hlt).trans hF⟩
          case measure => simp [intOf]; omega
        all_goals (
          go_wp2_with fail
          trace "HERE2"
          go_loopw [12, 92, 93, 94, 95, 96, 97, 98, 99, 100] (fun x12 x92 x93 x94 x95 x96 x97 x98 x99 x100 wi => ∃ k : Int, M ≤ k ∧ k < r ∧ x12 = .int .i64 k ∧ Below (w.heap.size + 1) (w.alloc (.cells (specA S A) 41)) wi ∧ X < wi.heap.size ∧ wi.heap[X]? = some (.cells (cellsF (refG S A)) 47 (0, 0)))
            (fun x12 x92 x93 x94 x95 x96 x97 x98 x99 x100 wi => (intOf x12 + 1).toNat)
          case atStart => exact ⟨r - 1, by omega, by omega, rfl, hB, hlt, hF⟩
          case round =>
            clear hB hlt hF
            obtain ⟨k, hk0, hk1, rfl, hB, hlt, hF⟩ := hrel
            by_cases d1 : M + 1 ≤ k <;> by_cases d2 : r - 3000 < k
            · go_wp2_with fail
              refine wp_load47 _ rfl X _ rfl hF ?_
              go_wp2_with fail
              refine (hrm k (by omega) (by omega) false (h4 k (by omega) hk1) _).mono ?_
              rintro e W7 ⟨rfl, hb7⟩
              go_wp2_with fail
              go_roundw
              case rel => exact ⟨k - 1, by omega, by omega, rfl, hB.trans (hb7.mono (below_lt hB)), Nat.lt_of_lt_of_le hlt hb7.size, (hb7.block X hlt).trans hF⟩
              case measure => simp [intOf]; omega
            all_goals (
              obtain ⟨hLx, hBx⟩ := below_tabs hL hB' hB
              go_wp2_with fail
              refine (cawake_any _ hLx hBx).mono ?_
              rintro e W8 ⟨rfl, hb8⟩
              go_wp2_with fail
              go_ret
              exact ⟨rfl, below_old (hB.trans (hb8.mono (below_lt hB)))⟩))
    · -- there is none
      have hMm : -1 ≤ max n (-1) := Int.le_max_right _ _
      have hMn : n ≤ max n (-1) := Int.le_max_left _ _
      clear haw
      go_wp2_with fail
      trace "HERE3"
      go_loopw [8, 36, 37, 38, 39, 40, 41, 42, 43, 44] (fun x8 x36 x37 x38 x39 x40 x41 x42 x43 x44 wr => ∃ m : Int, 2147480647 ≤ m ∧ m ≤ 2147483647 ∧ x8 = .int .i64 m ∧ Below (w.heap.size + 1) (w.alloc (.cells (specA S A) 41)) wr)
        (fun x8 x36 x37 x38 x39 x40 x41 x42 x43 x44 wr => (intOf x8).toNat)
      case atStart => exact ⟨2147483647, by omega, by omega, rfl, hB2⟩
      case round =>
        clear hB2 hL2 hBd2
        obtain ⟨m, hm0, hm1, rfl, hB⟩ := hrel
        obtain ⟨q0, q1, q2, q3, q4, q5, q6, q7, q8, q9, -, -, -, -, -, -, -, -, -, -⟩ := cells10 (below_spec hB)
        by_cases c1 : 2147480647 < m <;> by_cases c2 : n < m
        · have hno : matchM S A m = false := h4 m (by omega) hm1
          go_wp2_with fail
          refine (refL_any S A hS _).mono ?_
          rintro e W3 ⟨rfl, hb3⟩
          have hB3 := hB.trans (hb3.mono (below_lt hB))
          go_wp2_with fail
          refine (hrm m (by omega) (by omega) false hno _).mono ?_
          rintro e W4 ⟨rfl, hb4⟩
          have hB4 := hB3.trans (hb4.mono (below_lt hB3))
          go_wp2_with fail
          go_roundw
          case rel => exact ⟨m - 1, by omega, by omega, rfl, hB4⟩
          case measure => simp [intOf]; omega
        all_goals (
          obtain ⟨hLx, hBx⟩ := below_tabs hL hB' hB
          go_wp2_with fail
          refine (cawake_any _ hLx hBx).mono ?_
          rintro e W8 ⟨rfl, hb8⟩
          go_wp2_with fail
          go_ret
          exact ⟨rfl, below_old (hB.trans (hb8.mono (below_lt hB)))⟩)
end Go.Proofs.YtgiclhkoajbgpaaDoor
