/-
  cron: Show.
-/
import Derived.Test.YtgiclhkoajbgpaaDoorGc
namespace Go.Proofs.YtgiclhkoajbgpaaDoor
open Go.RowKit

/-- the text of a spec's field -/
def fT (S : Nat → Nat) (A : Nat → Bool) (i : Nat) : List UInt8 := fieldT (runsA (S i).testBit 0) (A i)
/-- Show's answer -/
def showT (S : Nat → Nat) (A : Nat → Bool) : List UInt8 := if okS S A then specT (fT S A) else []
theorem okS_at {S : Nat → Nat} {A : Nat → Bool} (h : okS S A = true) : ∀ i, i < 5 → okF S A i = true := fun i hi => by
  simp only [okS, Bool.and_eq_true] at h
  obtain rfl | rfl | rfl | rfl | rfl : i = 0 ∨ i = 1 ∨ i = 2 ∨ i = 3 ∨ i = 4 := by omega
  · exact h.1
  · exact h.2.1
  · exact h.2.2.1
  · exact h.2.2.2.1
  · exact h.2.2.2.2
theorem okF_spec {S : Nat → Nat} {A : Nat → Bool} {i : Nat} (hS : S i < 2 ^ 64) (h : okF S A i = true) : S i ≠ 0 ∧ (∀ n, (S i).testBit n = true → inF i n = true) ∧ (A i = true → S i = fullM i) := by
  simp only [okF, Bool.and_eq_true, decide_eq_true_eq, Bool.or_eq_true, Bool.not_eq_true'] at h
  obtain ⟨⟨h1, h2⟩, h3⟩ := h
  have hF : fullM i < 2 ^ 64 := rowM_lt _ _ _ (by have := hiM_le i; omega)
  refine ⟨h1, fun n hn => ?_, fun ha => ?_⟩
  · have hb : (S i &&& (18446744073709551615 - fullM i)).testBit n = false := by rw [h2, Nat.zero_testBit]
    rw [Nat.testBit_and, hn, Bool.true_and, show 18446744073709551615 - fullM i = 2 ^ 64 - (fullM i + 1) by omega, Nat.testBit_two_pow_sub_succ hF, full_bit] at hb
    by_cases c : n < 64
    · rw [decide_eq_true c, Bool.true_and] at hb; simpa using hb
    · rw [high_bit hS (by omega)] at hn; cases hn
  · rcases h3 with h | h
    · rw [ha] at h; cases h
    · exact h
theorem runs_good {S : Nat → Nat} {A : Nat → Bool} (hS : ∀ i, i < 5 → S i < 2 ^ 64) (h : okS S A = true) : ∀ i, i < 5 → Runs i (S i) (runsA (S i).testBit 0) := fun i hi =>
  runs_of (okF_spec (hS i hi) (okS_at h i hi)).1 (okF_spec (hS i hi) (okS_at h i hi)).2.1
/-- what Show tells is read as the spec -/
theorem show_read {S : Nat → Nat} {A : Nat → Bool} (hS : ∀ i, i < 5 → S i < 2 ^ 64) (h : okS S A = true) : parseE (showT S A) = 0 ∧ ∀ i, i < 5 → parseS (showT S A) i = S i ∧ parseA (showT S A) i = A i := by
  rw [showT, if_pos h]
  exact spec_read (runs_good hS h) (fun i hi => (okF_spec (hS i hi) (okS_at h i hi)).2.2)

theorem runsA_len {p : Nat → Bool} (hp : ∀ j, 64 ≤ j → p j = false) : ∀ (k n : Nat), 64 ≤ n + k → (runsA p n).length ≤ 64 - n
  | 0, n, h => by rw [runsA_end (by omega)]; simp
  | k + 1, n, h => by
    by_cases c : n < 64
    · cases hn : p n
      · rw [runsA_no hp c hn]
        have := runsA_len hp k (n + 1) (by omega); omega
      · rw [runsA_yes hp c hn]
        obtain ⟨e1, e2, e3, e4⟩ := ext_spec p hp 64 n hn (by omega)
        have := runsA_len hp k (ext p 64 n + 1) (by omega)
        rw [List.length_cons]; omega
    · rw [runsA_end (by omega)]; simp

set_option maxRecDepth 100000 in
set_option maxHeartbeats 2000000 in
theorem show_no (S : Nat → Nat) (A : Nat → Bool) (hS : ∀ i, i < 5 → S i < 2 ^ 64) (hk : okS S A = false) (w : World) (hB : BoundsIs w) :
    Calls Tryd.prog 35 #[specV S A] w fun e w' => e = .returned (.string ⟨(showT S A).toArray⟩) ∧ Below w.heap.size w w' := by
  have hb0 : Below (w.heap.size + 1) (w.alloc (.cells (specA S A) 41)) (w.alloc (.cells (specA S A) 41)) := Below.refl _ _
  obtain ⟨q0, q1, q2, q3, q4, q5, q6, q7, q8, q9, -, -, -, -, -, -, -, -, -, -⟩ := cells10 (below_spec hb0)
  have hBw := hB.below (below_old hb0)
  have hsh : showT S A = [] := by simp [showT, hk]
  have HS := Lib.hid hsh
  clear hsh
  go_enter Tryd.func35, Tryd.ntmps35
  go_wp2_with (go_at_call 28; refine (check_no S A hS hk _ hBw).mono ?_; rintro e W ⟨rfl, hb⟩)
  go_ret
  exact ⟨by rw [HS.out]; rfl, below_old (hb0.trans (hb.mono (below_lt hb0)))⟩
set_option maxRecDepth 100000 in
set_option maxHeartbeats 2000000 in
theorem show_yes (S : Nat → Nat) (A : Nat → Bool) (hS : ∀ i, i < 5 → S i < 2 ^ 64) (hk : okS S A = true) (w : World) (hB : BoundsIs w) (hT : TabT w) :
    Calls Tryd.prog 35 #[specV S A] w fun e w' => e = .returned (.string ⟨(showT S A).toArray⟩) ∧ Below w.heap.size w w' := by
  have hb0 : Below (w.heap.size + 1) (w.alloc (.cells (specA S A) 41)) (w.alloc (.cells (specA S A) 41)) := Below.refl _ _
  obtain ⟨q0, q1, q2, q3, q4, q5, q6, q7, q8, q9, -, -, -, -, -, -, -, -, -, -⟩ := cells10 (below_spec hb0)
  have hBw := hB.below (below_old hb0)
  have hsh : showT S A = joinL 32 [fT S A 0, fT S A 1, fT S A 2, fT S A 3, fT S A 4] := by simp [showT, hk, specT]
  have HS := Lib.hid hsh
  have hfl : ∀ i, i < 5 → (fT S A i).length ≤ 1000 := fun i hi => by
    have hr := runs_good hS hk i hi
    have hhi := hiM_le i
    unfold fT fieldT
    split
    · simp
    · have h64 : (runsA (S i).testBit 0).length ≤ 64 := runsA_len (fun j hj => high_bit (hS i hi) hj) 64 0 (by omega)
      have := joinL_len 44 5 ((runsA (S i).testBit 0).map runT) (fun x hx => by
        obtain ⟨p, hp, rfl⟩ := List.mem_map.1 hx
        have hi2 := hr.inn p hp
        obtain ⟨⟨-, l1⟩, -⟩ := numT_good p.1 (by omega)
        obtain ⟨⟨-, l2⟩, -⟩ := numT_good p.2 (by omega)
        unfold runT
        rw [List.length_append]
        split <;> simp <;> omega)
      rw [List.length_map] at this
      omega
  have HFL := Lib.hid hfl
  obtain ⟨i0, hi0, hz0, hz1, hz2⟩ := info9y
  have HI := Lib.hid hi0
  have HZ := Lib.hid hz0
  clear hi0 hz0 hsh hfl
  go_enter Tryd.func35, Tryd.ntmps35
  go_wp2_with (go_at_call 28; refine (check_yes S A hS hk _ hBw).mono ?_; rintro e W ⟨rfl, hb⟩
               have hb1 := hb0.trans (hb.mono (below_lt hb0))
               obtain ⟨q0, q1, q2, q3, q4, q5, q6, q7, q8, q9, -, -, -, -, -, -, -, -, -, -⟩ := cells10 (below_spec hb1))
  clear q0 q1 q2 q3 q4 q5 q6 q7 q8 q9 hb hb0 hBw
  go_loopw [3, 4, 5, 11, 12] (fun x3 x4 x5 x11 x12 wr => ∃ i : Nat, i ≤ 5 ∧ x11 = .int .i64 i ∧ OwnStrs wr (w.heap.size + 1) x3 ((List.range i).map (fT S A)) ∧ Below (w.heap.size + 1) (w.alloc (.cells (specA S A) 41)) wr)
    (fun x3 x4 x5 x11 x12 wr => 5 - (intOf x11).toNat)
  case atStart => exact ⟨0, by omega, rfl, World.ownsRow_nil _ _ _ _, hb1⟩
  case round =>
    clear hb1
    obtain ⟨i, hi, rfl, own3, hb⟩ := hrel
    by_cases h5 : i = 5
    · subst h5
      have hj := join_own 32 ((List.range 5).map (fT S A)) (by simp) (fun x hx => by
        obtain ⟨n, hn, rfl⟩ := List.mem_map.1 hx
        have := HFL.out n (List.mem_range.1 hn); omega) wr _ _ own3
      have hl : (List.range 5).map (fT S A) = [fT S A 0, fT S A 1, fT S A 2, fT S A 3, fT S A 4] := by simp [List.range, List.range.loop]
      rw [hl, ← HS.out] at hj
      obtain ⟨a3, c3, rfl⟩ := strs_form own3
      clear hl own3
      go_wp2_with fail
      refine hj.mono ?_
      rintro e W9 ⟨rfl, hb9⟩
      go_wp2_with fail
      go_ret
      exact ⟨rfl, below_old (hb.trans (hb9.mono (below_lt hb)))⟩
    · have hi5 : i < 5 := by omega
      obtain ⟨-, -, qa, -⟩ := spec_cell (below_spec hb) i hi5
      have hx := idx5 S wr i hi5
      have hid : decide ((i : Int) < 5) = true := by simp; omega
      have hTw := hT.below (below_old hb) hT.pos
      have hb60 : ∀ n, (S i).testBit n = true → n < 60 := fun n hn => by
        have := (okF_spec (hS i hi5) (okS_at hk i hi5)).2.1 n hn
        have hhi := hiM_le i
        simp only [inF, Bool.and_eq_true, decide_eq_true_eq] at this; omega
      have hit := items_any (S i) hb60 wr hTw
      obtain ⟨a3, c3, rfl⟩ := strs_form own3
      have hlr : ((List.range i).map (fT S A)).length = i := by simp
      rw [hlr] at own3 ⊢
      clear hb60 hTw hlr
      cases hA : A i
      · have hfT : fT S A i = joinL 44 ((runsA (S i).testBit 0).map runT) := by simp [fT, fieldT, hA]
        have HA := Lib.hid hfT
        rw [← hfT] at hit
        clear hfT
        rw [hA] at qa
        go_wp2_with fail
        refine hit.mono ?_
        rintro e W5 ⟨rfl, hb5⟩
        have hbb := hb.trans (hb5.mono (below_lt hb))
        have own5 := OwnStrs.below own3 hb5
        have HA : Hid (fT S A i = fT S A i) := Lib.hid rfl
        go_wp2_with (first
        | (at_builtin; go_loud (refine wpList_append_own _ rfl _ _ 71 rfl (w.heap.size + 1) 9 i0 (.string ⟨#[]⟩) 1 16 Tryd.underlying71 HI.out HZ.out hz1 hz2 rfl (by decide) _ ((List.range i).map (fT S A)).length ((List.range i).map (fT S A) |>.map strV) rfl (World.ownsRow.alloc own5 _) ⟨W5.heap.size, 0, none⟩ 1 1 [strV (fT S A i)] rfl rfl (cell_one_new _ _ _) (by simp [Value.oneCell']) (by unfold maxLen; simp; omega) (by simp; omega) (by have := below_lt hbb; simp; omega) ?_; intro v' w1 hown' hgrow _
                                have hB1 : Below (w.heap.size + 1) (w.alloc (.cells (specA S A) 41)) w1 := Below.grown (hbb.alloc (below_lt hbb) _) hgrow (by have := below_lt hbb; simp; omega) (fun j hj => (World.ownsRow.lt own5 _ hj).1)
                                have hown3 : OwnStrs w1 (w.heap.size + 1) v' ((List.range (i + 1)).map (fT S A)) := by
                                  rw [List.range_succ, List.map_append, List.map_cons, List.map_nil]
                                  unfold OwnStrs; simpa using hown'
                                have X : Aside (OwnStrs w1 (w.heap.size + 1) v' ((List.range (i + 1)).map (fT S A)) ∧ Below (w.heap.size + 1) (w.alloc (.cells (specA S A) 41)) w1) := ⟨hown3, hB1⟩
                                clear hown' hgrow hown3 hB1)))
        go_roundw
        case rel => exact ⟨i + 1, by omega, by simp, X.out.1, X.out.2⟩
        case measure => simp [intOf]; omega
      · have hfT : fT S A i = [42] := by simp [fT, fieldT, hA]
        have HA := Lib.hid hfT
        clear hfT hit
        rw [hA] at qa
        go_wp2_with (first
        | (at_builtin; refine wpList_append_own _ rfl _ _ 71 rfl (w.heap.size + 1) 9 i0 (.string ⟨#[]⟩) 1 16 Tryd.underlying71 HI.out HZ.out hz1 hz2 rfl (by decide) _ _ _ rfl (World.ownsRow.alloc own3 _) ⟨wr.heap.size, 0, none⟩ 1 1 [strV ([42])] rfl rfl (cell_one_new _ _ _) (by simp [Value.oneCell']) (by unfold maxLen; simp; omega) (by simp; omega) (by have := below_lt hb; simp; omega) ?_; intro v' w1 hown' hgrow _
           have hB1 : Below (w.heap.size + 1) (w.alloc (.cells (specA S A) 41)) w1 := Below.grown (hb.alloc (below_lt hb) _) hgrow (by have := below_lt hb; simp; omega) (fun j hj => (World.ownsRow.lt own3 _ hj).1)
           have hown3 : OwnStrs w1 (w.heap.size + 1) v' ((List.range (i + 1)).map (fT S A)) := by
             rw [List.range_succ, List.map_append, List.map_cons, List.map_nil, HA.out]
             unfold OwnStrs; simpa using hown'
           have X : Aside (OwnStrs w1 (w.heap.size + 1) v' ((List.range (i + 1)).map (fT S A)) ∧ Below (w.heap.size + 1) (w.alloc (.cells (specA S A) 41)) w1) := ⟨hown3, hB1⟩
           clear hown' hgrow hown3 hB1))
        go_roundw
        case rel => exact ⟨i + 1, by omega, by simp, X.out.1, X.out.2⟩
        case measure => simp [intOf]; omega
end Go.Proofs.YtgiclhkoajbgpaaDoor
