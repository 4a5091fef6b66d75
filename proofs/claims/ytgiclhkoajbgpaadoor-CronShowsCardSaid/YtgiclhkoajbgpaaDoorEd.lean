/-
  A spec is right by the document just if it is by the program: the law's function right.
-/
import Derived.Test.YtgiclhkoajbgpaaDoorEc
namespace Go.Proofs.YtgiclhkoajbgpaaDoor
open Go.RowKit

theorem full_bit (f n : Nat) : (fullM f).testBit n = inF f n := by
  have := hiM_le f
  rw [fullM, rowM_bit _ _ _ _ (by omega) (by omega), inF, ← Bool.decide_and]
  apply decide_eq_decide.2
  simp [Nat.mod_one]
theorem ref_at (S : Nat → Nat) (A : Nat → Bool) (f n : Nat) (hn : n < 64) : refG S A (f * 65 + n) = (S f).testBit n := by
  have e1 : (f * 65 + n) % 65 = n := by omega
  have e2 : (f * 65 + n) / 65 = f := by omega
  simp only [refG, e1, e2]
  rw [if_neg (by omega)]
theorem ref_any64 (S : Nat → Nat) (A : Nat → Bool) (f : Nat) : refG S A (f * 65 + 64) = A f := by
  have e1 : (f * 65 + 64) % 65 = 64 := by omega
  have e2 : (f * 65 + 64) / 65 = f := by omega
  simp [refG, e1, e2]
theorem high_bit {x n : Nat} (hx : x < 2 ^ 64) (hn : 64 ≤ n) : x.testBit n = false :=
  Nat.testBit_lt_two_pow (Nat.lt_of_lt_of_le hx (Nat.pow_le_pow_right (by omega) hn))
theorem okF_right (S : Nat → Nat) (A : Nat → Bool) (f : Nat) (hS : S f < 2 ^ 64) : rightF f (fun k => refG S A (f * 65 + k)) = okF S A f := by
  have hF : fullM f < 2 ^ 64 := rowM_lt _ _ _ (by have := hiM_le f; omega)
  have hsub : (S f &&& (18446744073709551615 - fullM f) = 0) ↔ ∀ n, n < 64 → (S f).testBit n = true → inF f n = true := by
    have hbit : ∀ n, (S f &&& (18446744073709551615 - fullM f)).testBit n = ((S f).testBit n && (decide (n < 64) && !inF f n)) := fun n => by
      rw [Nat.testBit_and, show 18446744073709551615 - fullM f = 2 ^ 64 - (fullM f + 1) by omega, Nat.testBit_two_pow_sub_succ hF, full_bit]
    constructor
    · intro h n hn hb
      have := hbit n
      rw [h, Nat.zero_testBit, hb, decide_eq_true hn] at this
      revert this; cases inF f n <;> simp
    · intro h
      apply Nat.eq_of_testBit_eq
      intro n
      rw [hbit, Nat.zero_testBit]
      by_cases hn : n < 64
      · have := h n hn
        revert this; cases (S f).testBit n <;> cases inF f n <;> simp
      · simp [hn]
  rw [Bool.eq_iff_iff]
  simp only [rightF, okF, Bool.and_eq_true, List.all_eq_true, List.any_eq_true, List.mem_range, decide_eq_true_eq, Bool.or_eq_true, Bool.not_eq_true', okB, ref_any64, hsub]
  constructor
  · rintro ⟨h1, n, hn, hx⟩
    rw [ref_at S A f n hn] at hx
    refine ⟨⟨fun e => (by rw [e, Nat.zero_testBit] at hx; cases hx), fun j hj hb => ?_⟩, ?_⟩
    · have := h1 j hj
      rw [ref_at S A f j hj, hb] at this
      revert this; cases inF f j <;> simp
    · cases hA : A f
      · exact .inl rfl
      · right
        apply Nat.eq_of_testBit_eq
        intro j
        by_cases hj : j < 64
        · have := h1 j hj
          rw [ref_at S A f j hj, hA] at this
          rw [full_bit]
          revert this; cases inF f j <;> cases (S f).testBit j <;> simp
        · rw [high_bit hS (by omega), high_bit hF (by omega)]
  · rintro ⟨⟨h0, h1⟩, h2⟩
    refine ⟨fun j hj => ?_, ?_⟩
    · rw [ref_at S A f j hj]
      rcases h2 with h2 | h2
      · have := h1 j hj
        rw [h2]
        revert this; cases inF f j <;> cases (S f).testBit j <;> simp
      · rw [h2, full_bit]
        cases inF f j <;> cases A f <;> simp
    · obtain ⟨n, hn⟩ := Nat.exists_testBit_of_ne_zero h0
      by_cases h : n < 64
      · exact ⟨n, h, by rw [ref_at S A f n h]; exact hn⟩
      · rw [high_bit hS (by omega)] at hn; cases hn
theorem under46 : ∃ d, Tryd.prog.underlying 46 = some d ∧ d.isRow = true := by
  have h : (Tryd.prog.underlying 46).any (·.isRow) = true := by kernel_rfl
  cases e : Tryd.prog.underlying 46 with
  | none => rw [e] at h; cases h
  | some d => rw [e] at h; exact ⟨d, rfl, h⟩
theorem size46 : (Tryd.prog.info? 46).map (·.size) = some 65 := by kernel_rfl
/-- a field is loaded out of the row of five -/
theorem wp_load46 {op : Oper} {a : Act} {w : World} {K : Act → World → Prop} {Q : Exit → Act → World → Prop} (x : Operand) (ho : op.op = .load 46 x) (b : Nat) (g : Nat → Bool) (i : Nat) (hi : i < 5) (hx : a.eval x = .pointer (some ⟨b, i * 65, none⟩))
    (h : w.heap[b]? = some (.cells (cellsF g) 47 (0, 0))) (hk : K (a.put op.dst (.agg (cells65 fun k => g (i * 65 + k)))) w) : op.wp Tryd.prog a w K Q := by
  obtain ⟨l, hu, hd⟩ := under46
  have hr : w.rangeAt b (i * 65) (cells65 fun k => g (i * 65 + k)).toList := fun j v hv => by
    rw [Array.getElem?_toList] at hv
    have hj : j < 65 := by
      have := (Array.getElem?_eq_some_iff.1 hv).1
      rwa [cells65_size] at this
    rw [cells65_get _ j hj] at hv
    rw [(fld_cell h (i * 65 + j) (by omega)).1]
    exact hv
  refine wp_load_mid 46 x ho b (i * 65) hx _ _ hr hu hd (by rw [Array.length_toList, cells65_size]; exact size46) ?_
  simpa using hk

theorem wpList_load46 {ops : Array Oper} {rest : List Oper} {o : Oper} {a : Act} {w : World} {Q : Exit → Act → World → Prop} (hgd : o.guard = none) (x : Operand) (ho : o.op = .load 46 x) (b : Nat) (g : Nat → Bool) (i : Nat) (hi : i < 5)
    (hx : a.eval x = .pointer (some ⟨b, i * 65, none⟩)) (h : w.heap[b]? = some (.cells (cellsF g) 47 (0, 0))) (hk : wpList Tryd.prog ops Q rest (a.put o.dst (.agg (cells65 fun k => g (i * 65 + k)))) w) : wpList Tryd.prog ops Q (o :: rest) a w :=
  wpList_plain hgd fun _ hK => wp_load46 x ho b g i hi hx h (hK _ _ hk)
/-- right by the document -/
def rightM (S : Nat → Nat) (A : Nat → Bool) : Bool := rightF 0 (fun k => refG S A (0 * 65 + k)) && (rightF 1 (fun k => refG S A (1 * 65 + k)) && (rightF 2 (fun k => refG S A (2 * 65 + k)) && (rightF 3 (fun k => refG S A (3 * 65 + k)) && rightF 4 (fun k => refG S A (4 * 65 + k)))))
theorem rightM_ok (S : Nat → Nat) (A : Nat → Bool) (hS : ∀ i, i < 5 → S i < 2 ^ 64) : rightM S A = okS S A := by
  simp only [rightM, okS, okF_right S A _ (hS 0 (by omega)), okF_right S A _ (hS 1 (by omega)), okF_right S A _ (hS 2 (by omega)), okF_right S A _ (hS 3 (by omega)), okF_right S A _ (hS 4 (by omega))]

set_option maxRecDepth 100000 in
set_option maxHeartbeats 2000000 in
theorem rightS_any (S : Nat → Nat) (A : Nat → Bool) (hS : ∀ i, i < 5 → S i < 2 ^ 64) (w : World) :
    Calls Tryd.prog 27 #[specV S A] w fun e w' => e = .returned (.bool (okS S A)) ∧ Below w.heap.size w w' := by
  rw [← rightM_ok S A hS]
  have hz := zero47
  have hb0 : Below (w.heap.size + 1) (w.alloc (.cells (specA S A) 41)) (w.alloc (.cells (specA S A) 41)) := Below.refl _ _
  obtain ⟨q0, q1, q2, q3, q4, q5, q6, q7, q8, q9, -, -, -, -, -, -, -, -, -, -⟩ := cells10 (below_spec hb0)
  go_enter Tryd.func27, Tryd.ntmps27
  go_wp2_with fail
  refine (refL_any S A hS _).mono ?_
  rintro e W ⟨rfl, hbW⟩
  have hst := run_cells47 (World.alloc_heap_new W (.cells (cellsF fun _ => false) 47)) (refG S A)
  rw [World.setRow_alloc_new] at hst
  have hB1 : Below w.heap.size w W := below_old (hb0.trans (hbW.mono (below_lt hb0)))
  go_wp2_with fail
  have hF0 := World.alloc_heap_new W (.cells (cellsF (refG S A)) 47)
  have hB2 : Below w.heap.size w (W.alloc (.cells (cellsF (refG S A)) 47)) := hB1.alloc hB1.size _
  have hsW := hB1.size
  clear q0 q1 q2 q3 q4 q5 q6 q7 q8 q9 hst hbW hB1 hb0
  have hlt : W.heap.size < (W.alloc (.cells (cellsF (refG S A)) 47)).heap.size := by simp
  generalize W.alloc (.cells (cellsF (refG S A)) 47) = W1 at *
  have hbad : ∀ i, i < 5 → rightF i (fun k => refG S A (i * 65 + k)) = false → rightM S A = false := fun i hi h => by
    obtain rfl | rfl | rfl | rfl | rfl : i = 0 ∨ i = 1 ∨ i = 2 ∨ i = 3 ∨ i = 4 := by omega
    all_goals simp only [rightM, h, Bool.false_and, Bool.and_false]
  go_loopw [4, 7, 8] (fun x4 x7 x8 wr => ∃ i : Nat, i ≤ 5 ∧ x7 = .int .i64 i ∧ Below w.heap.size w wr ∧ W.heap.size < wr.heap.size ∧ wr.heap[W.heap.size]? = some (.cells (cellsF (refG S A)) 47 (0, 0)) ∧ ∀ j, j < i → rightF j (fun k => refG S A (j * 65 + k)) = true)
    (fun x4 x7 x8 wr => 5 - (intOf x7).toNat)
  case atStart => exact ⟨0, by omega, rfl, hB2, hlt, hF0, fun j hj => by omega⟩
  case round =>
    clear hF0 hB2 hlt
    obtain ⟨i, hi, rfl, hB, hlt, hF, hok⟩ := hrel
    have H := Lib.hid hok
    have HB := Lib.hid hbad
    clear hok hbad
    by_cases h5 : i = 5
    · subst h5
      have hall : rightM S A = true := by simp only [rightM, H.out 0 (by omega), H.out 1 (by omega), H.out 2 (by omega), H.out 3 (by omega), H.out 4 (by omega), Bool.and_self]
      go_wp2_with fail
      go_ret
      exact ⟨by rw [hall]; rfl, hB⟩
    · have hi5 : i < 5 := by omega
      have hii : ((i : Nat) : Int) < 5 := by omega
      have h0i : (0 : Int) ≤ (i : Nat) := by omega
      have hr := fright_any i hi5 (fun k => refG S A (i * 65 + k))
      cases hv : rightF i (fun k => refG S A (i * 65 + k)) <;> rw [hv] at hr <;> (
        go_wp2_with (first
          | (refine wpList_load46 rfl _ rfl W.heap.size _ i hi5 rfl hF ?_; simp only [Act.put, List.setIfInBounds_toArray, List.set])
          | (go_at_call 51; refine (hr _).mono ?_; rintro e Wy ⟨rfl, hb2⟩
             have hF := (hb2.block W.heap.size hlt).trans hF
             have hB := hB.trans (hb2.mono hB.size)
             have hlt := Nat.lt_of_lt_of_le hlt hb2.size))
        first
          | (go_ret
             exact ⟨by rw [HB.out i hi5 hv]; rfl, hB⟩)
          | (go_roundw
             case rel => exact ⟨i + 1, by omega, by simp, hB, hlt, hF, fun j hj => if e : j < i then H.out j e else by rw [show j = i by omega]; exact hv⟩
             case measure => simp [intOf]; omega))
end Go.Proofs.YtgiclhkoajbgpaaDoor
