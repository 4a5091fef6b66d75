/-
  The walk of the law CronParses.
-/
import Derived.Test.YtgiclhkoajbgpaaDoorFe
import Derived.Test.YtgiclhkoajbgpaaDoorFg
import Derived.Test.YtgiclhkoajbgpaaDoorFh
import Derived.Test.YtgiclhkoajbgpaaDoorEg
namespace Go.Proofs.YtgiclhkoajbgpaaDoor
open Go.RowKit

set_option maxRecDepth 100000 in
set_option maxHeartbeats 4000000 in
theorem lcparses_long (l : List UInt8) (h : 300 < l.length) (w : World) (hL : LensIs w) (hB : BoundsIs w) : Calls Tryd.prog 6 #[.string ⟨l.toArray⟩] w fun e w' => e = .returned (.bool true) ∧ Below w.heap.size w w' := by
  have hd : decide ((300 : Int) < (l.length : Nat)) = true := by simp; omega
  have haw := cawake_any w hL hB
  go_enter Tryd.func6, Tryd.ntmps6
  go_wp2_with (go_at_call 23; refine haw.mono ?_; rintro e W ⟨rfl, hb⟩)
  go_ret
  exact ⟨rfl, hb⟩
set_option maxRecDepth 100000 in
set_option maxHeartbeats 4000000 in
theorem lcparses_short (l : List UInt8) (h : l.length ≤ 300) (w : World) (hL : LensIs w) (hB : BoundsIs w) : Calls Tryd.prog 6 #[.string ⟨l.toArray⟩] w fun e w' => e = .returned (.bool true) ∧ Below w.heap.size w w' := by
  have hd : decide ((300 : Int) < (l.length : Nat)) = false := by simp; omega
  have hz := zero47
  have hp := parse_any24 l (by omega) w hB
  have hq := rparse_any l (by omega)
  have hS := parse_lt l
  have hok : parseE l = 0 → okS (parseS l) (parseA l) = true := parse_right
  have hrl := refL_any (parseS l) (parseA l) hS
  have hrs := rightS_any (parseS l) (parseA l) hS
  have hcy := fun h => check_yes (parseS l) (parseA l) hS h
  have E47 := eq47 (refG (parseS l) (parseA l))
  go_enter Tryd.func6, Tryd.ntmps6
  go_wp2_with (go_at_call 24; refine hp.mono ?_; rintro e W ⟨rfl, hb⟩)
  refine (hq _).mono ?_
  rintro e W2 ⟨rfl, hb2⟩
  have hS2 : Below (W.heap.size + 1) (W.alloc (.cells (specA (parseS l) (parseA l)) 41)) W2 := (Below.refl _ _).trans (hb2.mono (by simp))
  have hst := run_cells47 (World.alloc_heap_new W2 (.cells (cellsF fun _ => false) 47)) (refG (parseS l) (parseA l))
  rw [World.setRow_alloc_new] at hst
  clear hq hp
  go_wp2_with fail
  have hF0 := World.alloc_heap_new W2 (.cells (cellsF (refG (parseS l) (parseA l))) 47)
  have hS3 := hS2.alloc (below_lt hS2) (.cells (cellsF (refG (parseS l) (parseA l))) 47)
  have hX : W2.heap.size < (W2.alloc (.cells (cellsF (refG (parseS l) (parseA l))) 47)).heap.size := by simp
  clear hst hb2 hS2
  generalize W2.alloc (.cells (cellsF (refG (parseS l) (parseA l))) 47) = W3 at *
  generalize W2.heap.size = X at *
  have hld1 : ∀ w', (∃ x : Since W3, w' = x.w) → (Instr.loadAt 41 (.pointer (some ⟨W.heap.size, 0, none⟩))).run Tryd.prog w' = .ok (specV (parseS l) (parseA l)) w' := by
    rintro _ ⟨x, rfl⟩
    exact load_spec ((x.h.block W.heap.size (below_lt hS3)).trans (below_spec hS3))
  have hld2 : ∀ w', (∃ x : Since W3, w' = x.w) → (Instr.loadAt 47 (.pointer (some ⟨X, 0, none⟩))).run Tryd.prog w' = .ok (refV (refG (parseS l) (parseA l))) w' := by
    rintro _ ⟨x, rfl⟩
    have h := (x.h.block X hX).trans hF0
    simp only [Instr.loadAt, Instr.sureAddr, Sem.run_bind, Sem.run_pure, Result.andThen_ok, run_loadVar_row x.w X 47 47 _ (0, 0) _ h under47 rfl (by rw [cellsF_size]; exact size47)]
  refine wp_region_since (by kernel_rfl) (by kernel_rfl) ?_
  go_big_quiet_step (fail)
  go_big_quiet_step (fail)
  go_big_quiet_step (fail)
  go_big_quiet_step (fail)
  (go_big_quiet_want; refine quiet_load 41 _ rfl _ _ rfl hld1 ?_; simp only [Act.put, List.setIfInBounds_toArray, List.set]; go_big_quiet_on)
  go_big_quiet_step ((go_at_call 26; exact since_call (hrl _)))
  (go_big_quiet_want; refine quiet_load 47 _ rfl _ _ rfl hld2 ?_; simp only [Act.put, List.setIfInBounds_toArray, List.set]; go_big_quiet_on)
  go_big_quiet_step (fail)
  go_big_quiet_step (fail)
  refine wpQuiet_nil ?_
  rintro _ ⟨x, rfl⟩
  have hS4 : Below (W.heap.size + 1) (W.alloc (.cells (specA (parseS l) (parseA l)) 41)) x.w := hS3.trans (x.h.mono (below_lt hS3))
  clear hld1 hld2 hS3 hF0 hX E47
  generalize x.w = W4 at *
  clear x
  obtain ⟨q0, q1, q2, q3, q4, q5, q6, q7, q8, q9, -, -, -, -, -, -, -, -, -, -⟩ := cells10 (below_spec hS4)
  have hLW := hL.below hb (lens_pos hL)
  have hBW := hB.below hb
  obtain ⟨hL4, hB4⟩ := below_tabs hLW hBW hS4
  by_cases he : parseE l = 0
  · have hk := hok he
    rw [hk] at hrs
    have hcy := hcy hk
    go_wp2_with (first
      | (go_at_call 27; refine (hrs _).mono ?_; rintro e W5 ⟨rfl, hb5⟩
         have hS5 := hS4.trans (hb5.mono (below_lt hS4))
         obtain ⟨hL5, hB5⟩ := below_tabs hLW hBW hS5
         obtain ⟨q0, q1, q2, q3, q4, q5, q6, q7, q8, q9, -, -, -, -, -, -, -, -, -, -⟩ := cells10 (below_spec hS5))
      | (go_at_call 28; refine (hcy _ hB5).mono ?_; rintro e W6 ⟨rfl, hb6⟩))
    have hS6 := hS5.trans (hb6.mono (below_lt hS5))
    obtain ⟨hL6, hB6⟩ := below_tabs hLW hBW hS6
    have haw := cawake_any W6 hL6 hB6
    go_wp2_with (go_at_call 23; refine haw.mono ?_; rintro e W7 ⟨rfl, hb7⟩)
    go_ret
    exact ⟨rfl, hb.trans ((below_old (hS6.trans (hb7.mono (below_lt hS6)))).mono hb.size)⟩
  · have haw := cawake_any W4 hL4 hB4
    go_wp2_with (go_at_call 23; refine haw.mono ?_; rintro e W7 ⟨rfl, hb7⟩)
    go_ret
    exact ⟨rfl, hb.trans ((below_old (hS4.trans (hb7.mono (below_lt hS4)))).mono hb.size)⟩
theorem lcparses_any (s : ByteArray) (w : World) (hL : LensIs w) (hB : BoundsIs w) : Calls Tryd.prog 6 #[.string s] w fun e w' => e = .returned (.bool true) ∧ Below w.heap.size w w' := by
  obtain ⟨l, rfl⟩ : ∃ l : List UInt8, s = ⟨l.toArray⟩ := ⟨s.data.toList, by cases s; simp⟩
  by_cases h : l.length ≤ 300
  · exact lcparses_short l h w hL hB
  · exact lcparses_long l (by omega) w hL hB
end Go.Proofs.YtgiclhkoajbgpaaDoor
