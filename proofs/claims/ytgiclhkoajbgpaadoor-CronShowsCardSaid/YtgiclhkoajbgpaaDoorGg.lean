/-
  The walk of the law CronShows.
-/
import Derived.Test.YtgiclhkoajbgpaaDoorGf
import Derived.Test.YtgiclhkoajbgpaaDoorFg
import Derived.Test.YtgiclhkoajbgpaaDoorEg
namespace Go.Proofs.YtgiclhkoajbgpaaDoor
open Go.RowKit

theorem eq38 (d : Nat) (xs : Array Value) (h : Nat → Nat) (hx : ∀ i, i < 5 → xs[i]? = some (.int .u64 (h i : Nat))) (w : World) : (Op.equalIn (d + 2) 38 (.agg xs) (.agg xs)).run Tryd.prog w = .ok true w := by
  have ia : ∀ w, (isAgg 37).run Tryd.prog w = .ok false w := fun w => by kernel_rfl
  have H := run_equalIn_arr (P := Tryd.prog) (w := w) (d := d + 1) (t := 38) (e := 37) (len := 5) (n := 1) (xs := xs) (ys := xs) (fun _ => true) (fun i => .int .u64 (h i : Nat)) (fun i => .int .u64 (h i : Nat)) (by kernel_rfl) (by kernel_rfl)
    (fun i hi => by rw [Nat.mul_one]; exact run_part_cell (ia w) (hx i hi)) (fun i hi => by rw [Nat.mul_one]; exact run_part_cell (ia w) (hx i hi))
    (fun i _ => by simp [Op.equalIn, run_underlying (P := Tryd.prog) (t := 37) Tryd.underlying37])
  rw [all_true] at H
  exact H
theorem eq39 (d : Nat) (xs : Array Value) (h : Nat → Bool) (hx : ∀ i, i < 5 → xs[i]? = some (.bool (h i))) (w : World) : (Op.equalIn (d + 2) 39 (.agg xs) (.agg xs)).run Tryd.prog w = .ok true w := by
  have ia : ∀ w, (isAgg 4).run Tryd.prog w = .ok false w := fun w => by kernel_rfl
  have H := run_equalIn_arr (P := Tryd.prog) (w := w) (d := d + 1) (t := 39) (e := 4) (len := 5) (n := 1) (xs := xs) (ys := xs) (fun _ => true) (fun i => .bool (h i)) (fun i => .bool (h i)) (by kernel_rfl) (by kernel_rfl)
    (fun i hi => by rw [Nat.mul_one]; exact run_part_cell (ia w) (hx i hi)) (fun i hi => by rw [Nat.mul_one]; exact run_part_cell (ia w) (hx i hi))
    (fun i _ => by simp [Op.equalIn, run_underlying (P := Tryd.prog) (t := 4) Tryd.underlying4])
  rw [all_true] at H
  exact H
theorem eq41d (d : Nat) (X : Array Value) (hX : X.size = 10) (S : Nat → Nat) (A : Nat → Bool) (h0 : ∀ i, i < 5 → X[i]? = some (.int .u64 (S i : Nat))) (h1 : ∀ i, i < 5 → X[5 + i]? = some (.bool (A i))) (w : World) :
    (Op.equalIn (d + 3) 41 (.agg X) (.agg X)).run Tryd.prog w = .ok true w := by
  have p0 := fun w => part_agg 38 5 (fun w => by kernel_rfl) (fun w => by kernel_rfl) X 0 w
  have p1 := fun w => part_agg 39 5 (fun w => by kernel_rfl) (fun w => by kernel_rfl) X 5 w
  have e0 := fun w => eq38 d (X.extract 0 (0 + 5)) S (fun i hi => by
    rw [Array.getElem?_extract, if_pos (by omega), Nat.zero_add]; exact h0 i hi) w
  have e1 := fun w => eq39 d (X.extract 5 (5 + 5)) A (fun i hi => by
    rw [Array.getElem?_extract, if_pos (by omega)]; exact h1 i hi) w
  have hh : Tryd.prog.stoodInHeld 41 = false := by kernel_rfl
  rw [Op.equalIn]
  simp [Sem.run_bind, run_underlying (P := Tryd.prog) (t := 41) Tryd.underlying41, hh, p0, p1, e0, e1]
theorem eq41 (S : Nat → Nat) (A : Nat → Bool) (w : World) : (Op.equalIn 10000 41 (specV S A) (specV S A)).run Tryd.prog w = .ok true w := eq41d 9997 (specA S A) rfl S A (fun i hi => by
    obtain rfl | rfl | rfl | rfl | rfl : i = 0 ∨ i = 1 ∨ i = 2 ∨ i = 3 ∨ i = 4 := by omega
    all_goals rfl) (fun i hi => by
    obtain rfl | rfl | rfl | rfl | rfl : i = 0 ∨ i = 1 ∨ i = 2 ∨ i = 3 ∨ i = 4 := by omega
    all_goals rfl) w
theorem rshow_ref (S : Nat → Nat) (A : Nat → Bool) (i : Nat) (hS : S i < 2 ^ 64) : rshowT (fun k => refG S A (i * 65 + k)) = fT S A i := by
  have e1 : hasP (fun k => refG S A (i * 65 + k)) = (S i).testBit := by
    funext j
    unfold hasP
    by_cases c : j < 64
    · rw [decide_eq_true c, Bool.true_and]; exact ref_at S A i j c
    · rw [decide_eq_false c, Bool.false_and, high_bit hS (by omega)]
  unfold rshowT fT
  rw [e1]
  show fieldT _ (refG S A (i * 65 + 64)) = _
  rw [ref_any64]
theorem fT_len {S : Nat → Nat} {A : Nat → Bool} (hS : ∀ i, i < 5 → S i < 2 ^ 64) (hk : okS S A = true) : ∀ i, i < 5 → (fT S A i).length ≤ 1000 := fun i hi => by
  have hr := runs_good hS hk i hi
  have hhi := hiM_le i
  unfold fT fieldT
  split
  · simp
  · have h64 : (runsA (S i).testBit 0).length ≤ 64 := runsA_len (fun j hj => high_bit (hS i hi) hj) 64 0 (by omega)
    have := joinL_len 44 5 ((runsA (S i).testBit 0).map runT) (fun x hx => by
      obtain ⟨p, hp, rfl⟩ := List.mem_map.1 hx
      have hi2 := hr.inn p hp
      obtain ⟨⟨-, l1⟩, -⟩ := numT_good p.1 (by omega)
      obtain ⟨⟨-, l2⟩, -⟩ := numT_good p.2 (by omega)
      unfold runT
      rw [List.length_append]
      split <;> simp <;> omega)
    rw [List.length_map] at this
    omega
theorem rshow_any (h : Nat → Bool) (w : World) : Calls Tryd.prog 36 #[.agg (cells65 h)] w fun e w' => e = .returned (.string ⟨(rshowT h).toArray⟩) ∧ Below w.heap.size w w' := by
  cases ha : h 64
  · exact rshow_runs h ha w
  · exact rshow_star h ha w
theorem show_any (S : Nat → Nat) (A : Nat → Bool) (hS : ∀ i, i < 5 → S i < 2 ^ 64) (w : World) (hB : BoundsIs w) (hT : TabT w) :
    Calls Tryd.prog 35 #[specV S A] w fun e w' => e = .returned (.string ⟨(showT S A).toArray⟩) ∧ Below w.heap.size w w' := by
  cases hk : okS S A
  · exact show_no S A hS hk w hB
  · exact show_yes S A hS hk w hB hT

set_option maxRecDepth 100000 in
set_option maxHeartbeats 2000000 in
theorem lcshows_no (S : Nat → Nat) (A : Nat → Bool) (hS : ∀ i, i < 5 → S i < 2 ^ 64) (hk : okS S A = false) (w : World) (hL : LensIs w) (hB : BoundsIs w) (hT : TabT w) :
    Calls Tryd.prog 12 #[specV S A] w fun e w' => e = .returned (.bool true) ∧ Below w.heap.size w w' := by
  have hB' := hB
  have hb0 : Below (w.heap.size + 1) (w.alloc (.cells (specA S A) 41)) (w.alloc (.cells (specA S A) 41)) := Below.refl _ _
  obtain ⟨hLx, hBx⟩ := below_tabs hL hB' hb0
  have hTx := hT.below (below_old hb0) hT.pos
  obtain ⟨q0, q1, q2, q3, q4, q5, q6, q7, q8, q9, -, -, -, -, -, -, -, -, -, -⟩ := cells10 (below_spec hb0)
  have hsh := show_any S A hS _ hBx hTx
  rw [show showT S A = [] by simp [showT, hk]] at hsh
  have hrs := rightS_any S A hS
  rw [hk] at hrs
  go_enter Tryd.func12, Tryd.ntmps12
  go_wp2_with fail
  refine hsh.mono ?_
  rintro e W1 ⟨rfl, hb1⟩
  have hS1 := hb0.trans (hb1.mono (below_lt hb0))
  obtain ⟨q0, q1, q2, q3, q4, q5, q6, q7, q8, q9, -, -, -, -, -, -, -, -, -, -⟩ := cells10 (below_spec hS1)
  go_wp2_with fail
  refine (hrs _).mono ?_
  rintro e W2 ⟨rfl, hb2⟩
  have hS2 := hS1.trans (hb2.mono (below_lt hS1))
  obtain ⟨hL2, hB2⟩ := below_tabs hL hB' hS2
  obtain ⟨q0, q1, q2, q3, q4, q5, q6, q7, q8, q9, -, -, -, -, -, -, -, -, -, -⟩ := cells10 (below_spec hS2)
  go_wp2_with fail
  refine (check_no S A hS hk _ hB2).mono ?_
  rintro e W3 ⟨rfl, hb3⟩
  have hS3 := hS2.trans (hb3.mono (below_lt hS2))
  obtain ⟨hL3, hB3⟩ := below_tabs hL hB' hS3
  go_wp2_with fail
  refine (cawake_any _ hL3 hB3).mono ?_
  rintro e W4 ⟨rfl, hb4⟩
  go_wp2_with fail
  go_ret
  exact ⟨rfl, below_old (hS3.trans (hb4.mono (below_lt hS3)))⟩

set_option maxRecDepth 100000 in
set_option maxHeartbeats 2000000 in
theorem lcshows_yes (S : Nat → Nat) (A : Nat → Bool) (hS : ∀ i, i < 5 → S i < 2 ^ 64) (hk : okS S A = true) (w : World) (hL : LensIs w) (hB : BoundsIs w) (hT : TabT w) :
    Calls Tryd.prog 12 #[specV S A] w fun e w' => e = .returned (.bool true) ∧ Below w.heap.size w w' := by
  have hB' := hB
  have hz := zero47
  have hb0 : Below (w.heap.size + 1) (w.alloc (.cells (specA S A) 41)) (w.alloc (.cells (specA S A) 41)) := Below.refl _ _
  obtain ⟨hLx, hBx⟩ := below_tabs hL hB' hb0
  have hTx := hT.below (below_old hb0) hT.pos
  obtain ⟨q0, q1, q2, q3, q4, q5, q6, q7, q8, q9, -, -, -, -, -, -, -, -, -, -⟩ := cells10 (below_spec hb0)
  have hsh := show_any S A hS _ hBx hTx
  have hrs := rightS_any S A hS
  rw [hk] at hrs
  obtain ⟨hpe, hps⟩ := show_read hS hk
  have hspec : specV (parseS (showT S A)) (parseA (showT S A)) = specV S A := by
    simp only [specV, specA, (hps 0 (by omega)).1, (hps 1 (by omega)).1, (hps 2 (by omega)).1, (hps 3 (by omega)).1, (hps 4 (by omega)).1, (hps 0 (by omega)).2, (hps 1 (by omega)).2, (hps 2 (by omega)).2, (hps 3 (by omega)).2, (hps 4 (by omega)).2]
  have hshow : showT S A = joinL 32 ((List.range 5).map (fT S A)) := by simp [showT, hk, specT, List.range, List.range.loop]
  have hfl : ∀ i, i < 5 → (fT S A i).length ≤ 1000 := fun i hi => fT_len hS hk i hi
  have hjl : ∀ i, i ≤ 5 → (joinL 32 ((List.range i).map (fT S A))).length ≤ 6000 := fun i hi => by
    have := joinL_len 32 1000 ((List.range i).map (fT S A)) (fun x hx => by
      obtain ⟨n, hn, rfl⟩ := List.mem_map.1 hx
      exact hfl n (by have := List.mem_range.1 hn; omega))
    rw [List.length_map, List.length_range] at this
    have h2 : i * (1000 + 1) ≤ 5 * (1000 + 1) := Nat.mul_le_mul_right _ hi
    omega
  have hslen : (showT S A).length ≤ 100000 := by rw [hshow]; have := hjl 5 (by omega); omega
  have hpp := fun W hW => parse_any24 (showT S A) hslen W hW
  rw [hspec, hpe] at hpp
  have HSH := Lib.hid hshow
  have HFL := Lib.hid hfl
  have HJL := Lib.hid hjl
  have E41 := eq41 S A
  clear hpe hps hspec hshow hfl hjl hslen
  generalize showT S A = T at *
  go_enter Tryd.func12, Tryd.ntmps12
  go_wp2_with fail
  refine hsh.mono ?_
  rintro e W1 ⟨rfl, hb1⟩
  have hS1 := hb0.trans (hb1.mono (below_lt hb0))
  obtain ⟨q0, q1, q2, q3, q4, q5, q6, q7, q8, q9, -, -, -, -, -, -, -, -, -, -⟩ := cells10 (below_spec hS1)
  go_wp2_with fail
  refine (hrs _).mono ?_
  rintro e W2 ⟨rfl, hb2⟩
  have hS2 := hS1.trans (hb2.mono (below_lt hS1))
  obtain ⟨q0, q1, q2, q3, q4, q5, q6, q7, q8, q9, -, -, -, -, -, -, -, -, -, -⟩ := cells10 (below_spec hS2)
  go_wp2_with fail
  refine (refL_any S A hS _).mono ?_
  rintro e W3 ⟨rfl, hb3⟩
  have hS3 := hS2.trans (hb3.mono (below_lt hS2))
  have hst := run_cells47 (World.alloc_heap_new W3 (.cells (cellsF fun _ => false) 47)) (refG S A)
  rw [World.setRow_alloc_new] at hst
  clear q0 q1 q2 q3 q4 q5 q6 q7 q8 q9 hb0 hb1 hb2 hb3 hS1 hS2 hLx hBx hTx hsh
  go_wp2_with fail
  have hF0 := World.alloc_heap_new W3 (.cells (cellsF (refG S A)) 47)
  have hS4 := hS3.alloc (below_lt hS3) (.cells (cellsF (refG S A)) 47)
  have hX0 : W3.heap.size < (W3.alloc (.cells (cellsF (refG S A)) 47)).heap.size := by simp
  clear hst hS3
  generalize W3.alloc (.cells (cellsF (refG S A)) 47) = W4 at *
  generalize W3.heap.size = X at *
  go_loopw [5, 6, 26, 27] (fun x5 x6 x26 x27 wr => ∃ i : Nat, i ≤ 5 ∧ x26 = .int .i64 i ∧ x5 = .string ⟨(joinL 32 ((List.range i).map (fT S A))).toArray⟩ ∧ Below (w.heap.size + 1) (w.alloc (.cells (specA S A) 41)) wr ∧ X < wr.heap.size ∧ wr.heap[X]? = some (.cells (cellsF (refG S A)) 47 (0, 0)))
    (fun x5 x6 x26 x27 wr => 5 - (intOf x26).toNat)
  case atStart => exact ⟨0, by omega, rfl, rfl, hS4, hX0, hF0⟩
  case round =>
    clear hS4 hX0 hF0
    obtain ⟨i, hi, rfl, rfl, hb, hX, hF⟩ := hrel
    by_cases h5 : i = 5
    · subst h5
      rw [← HSH.out]
      obtain ⟨hLx, hBx⟩ := below_tabs hL hB' hb
      go_wp2_with fail
      refine (hpp _ hBx).mono ?_
      rintro e W5 ⟨rfl, hb5⟩
      have hS5 := hb.trans (hb5.mono (below_lt hb))
      have hS6 := hS5.alloc (below_lt hS5) (.cells (specA S A) 41)
      have hP6 := World.alloc_heap_new W5 (.cells (specA S A) 41)
      have hPl : W5.heap.size < (W5.alloc (.cells (specA S A) 41)).heap.size := by simp
      obtain ⟨q0, q1, q2, q3, q4, q5, q6, q7, q8, q9, -, -, -, -, -, -, -, -, -, -⟩ := cells10 (below_spec hS6)
      obtain ⟨hL6, hB6⟩ := below_tabs hL hB' hS6
      go_wp2_with fail
      refine (check_yes S A hS hk _ hB6).mono ?_
      rintro e W7 ⟨rfl, hb7⟩
      have hS7 := hS6.trans (hb7.mono (below_lt hS6))
      have hP7 := (hb7.block _ hPl).trans hP6
      obtain ⟨hL7, hB7⟩ := below_tabs hL hB' hS7
      obtain ⟨q0, q1, q2, q3, q4, q5, q6, q7, q8, q9, -, -, -, -, -, -, -, -, -, -⟩ := cells10 (below_spec hS7)
      obtain ⟨r0, r1, r2, r3, r4, r5, r6, r7, r8, r9, -, -, -, -, -, -, -, -, -, -⟩ := cells10 hP7
      go_wp2_with fail
      refine (cawake_any _ hL7 hB7).mono ?_
      rintro e W8 ⟨rfl, hb8⟩
      go_wp2_with fail
      go_ret
      exact ⟨rfl, below_old (hS7.trans (hb8.mono (below_lt hS7)))⟩
    · have hi5 : i < 5 := by omega
      have hii : ((i : Nat) : Int) < 5 := by omega
      have h0i : (0 : Int) ≤ (i : Nat) := by omega
      have hr := rshow_any (fun k => refG S A (i * 65 + k))
      rw [rshow_ref S A i (hS i hi5)] at hr
      have hl1 := HJL.out i (by omega)
      have hl2 := HFL.out i hi5
      have hsn : joinL 32 ((List.range (i + 1)).map (fT S A)) = if i = 0 then fT S A i else joinL 32 ((List.range i).map (fT S A)) ++ 32 :: fT S A i := by
        rw [List.range_succ, List.map_append, List.map_cons, List.map_nil, joinL_snoc]; simp
      by_cases hi0 : i = 0
      · subst hi0
        rw [if_pos rfl] at hsn
        have HSN := Lib.hid hsn
        have hc := cat_run [] (fT S A 0) (by simp; omega)
        simp only [List.nil_append] at hc
        rw [show joinL 32 ((List.range 0).map (fT S A)) = [] from rfl]
        clear hsn
        go_wp2_with (first
          | (refine wpList_load46 rfl _ rfl X _ 0 (by omega) rfl hF ?_; simp only [Act.put, List.setIfInBounds_toArray, List.set])
          | (go_at_call 36; refine (hr _).mono ?_; rintro e Wy ⟨rfl, hb2⟩))
        go_roundw
        case rel => exact ⟨1, by omega, by simp, by rw [HSN.out], hb.trans (hb2.mono (below_lt hb)), Nat.lt_of_lt_of_le hX hb2.size, (hb2.block X hX).trans hF⟩
        case measure => simp [intOf]
      · rw [if_neg hi0] at hsn
        have hi1 : (0 : Int) < (i : Nat) := by omega
        generalize joinL 32 ((List.range i).map (fT S A)) = J at *
        have HSN := Lib.hid hsn
        have hc0 := cat_run J [32] (by simp; omega)
        have hc1 := cat_run (J ++ [32]) (fT S A i) (by simp; omega)
        rw [show J ++ [32] ++ fT S A i = J ++ 32 :: fT S A i by simp] at hc1
        clear hsn
        go_wp2_with (first
          | (refine wpList_load46 rfl _ rfl X _ i hi5 rfl hF ?_; simp only [Act.put, List.setIfInBounds_toArray, List.set])
          | (go_at_call 36; refine (hr _).mono ?_; rintro e Wy ⟨rfl, hb2⟩))
        go_roundw
        case rel => exact ⟨i + 1, by omega, by simp, by rw [HSN.out], hb.trans (hb2.mono (below_lt hb)), Nat.lt_of_lt_of_le hX hb2.size, (hb2.block X hX).trans hF⟩
        case measure => simp [intOf]; omega
theorem lcshows_any (S : Nat → Nat) (A : Nat → Bool) (hS : ∀ i, i < 5 → S i < 2 ^ 64) (w : World) (hL : LensIs w) (hB : BoundsIs w) (hT : TabT w) :
    Calls Tryd.prog 12 #[specV S A] w fun e w' => e = .returned (.bool true) ∧ Below w.heap.size w w' := by
  cases hk : okS S A
  · exact lcshows_no S A hS hk w hL hB hT
  · exact lcshows_yes S A hS hk w hL hB hT
end Go.Proofs.YtgiclhkoajbgpaaDoor
