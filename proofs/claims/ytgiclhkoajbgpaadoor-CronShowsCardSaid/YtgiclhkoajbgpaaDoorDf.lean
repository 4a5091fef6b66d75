/-
  cron: day.
-/
import Derived.Test.YtgiclhkoajbgpaaDoorDe
namespace Go.Proofs.YtgiclhkoajbgpaaDoor
open Go.RowKit

/-- does a date's day match? -/
def dayM (S : Nat → Nat) (A : Nat → Bool) (m d k : Nat) : Bool :=
  if (A 2 || A 4) = true then ((S 3).testBit m && (S 2).testBit d) && (S 4).testBit k else (S 3).testBit m && ((S 2).testBit d || (S 4).testBit k)
theorem quiet_load {P : Program} {a : Act} {C : World → Prop} {o : Oper} {K : Act → Prop} (ty : TypeId) (x : Operand) (ho : o.op = .load ty x) (p v : Value) (hx : a.eval x = p)
    (hr : ∀ w, C w → (Instr.loadAt ty p).run P w = .ok v w) (hk : K (a.put o.dst v)) : o.quiet P a C K := by
  refine ⟨v, fun w hw => ?_, hk⟩
  unfold Oper.quietAt
  have h := hr w hw
  simp only [execOp, ho, hx, Sem.run_bind, h, Result.andThen_ok]
  exact ⟨rfl, rfl⟩
theorem load_spec {S : Nat → Nat} {A : Nat → Bool} {w : World} {b : Nat} (h : w.heap[b]? = some (.cells (specA S A) 41 (0, 0))) : (Instr.loadAt 41 (.pointer (some ⟨b, 0, none⟩))).run Tryd.prog w = .ok (specV S A) w := by
  obtain ⟨q0, q1, q2, q3, q4, q5, q6, q7, q8, q9, -, -, -, -, -, -, -, -, -, -⟩ := cells10 h
  simp [Instr.loadAt, go_sem, q0, q1, q2, q3, q4, q5, q6, q7, q8, q9]

theorem has_int {S : Nat → Nat} {A : Nat → Bool} (hS : ∀ i, i < 5 → S i < 2 ^ 64) (f n : Int) (hf : 0 ≤ f ∧ f < 5) (hn : 0 ≤ n ∧ n < 64) (w : World) :
    Calls Tryd.prog 53 #[specV S A, .int .i64 f, .int .i64 n] w fun e w' => e = .returned (.bool ((S f.toNat).testBit n.toNat)) ∧ Below w.heap.size w w' := by
  obtain ⟨f, rfl⟩ := Int.eq_ofNat_of_zero_le hf.1
  obtain ⟨n, rfl⟩ := Int.eq_ofNat_of_zero_le hn.1
  exact has_any S A f n (hS f (by omega)) (by omega) (by omega) w

set_option maxRecDepth 100000 in
set_option maxHeartbeats 400000 in
theorem day_any (S : Nat → Nat) (A : Nat → Bool) (hS : ∀ i, i < 5 → S i < 2 ^ 64) (y : Int) (m d : Nat) (h i : Int) (k : Nat) (hm : m < 64) (hd : d < 64) (hk : k < 64) (w : World) :
    Calls Tryd.prog 52 #[specV S A, dateV y m d h i k] w fun e w' => e = .returned (.bool (dayM S A m d k)) ∧ Below w.heap.size w w' := by
  go_enter Tryd.func52, Tryd.ntmps52
  go_wp2_with fail
  have hSp : ((w.alloc (.cells (specA S A) 41)).alloc (.cells #[.int .i64 y, .int .i64 m, .int .i64 d, .int .i64 h, .int .i64 i, .int .i64 k] 23)).heap[w.heap.size]? = some (.cells (specA S A) 41 (0, 0)) := heap_keep (World.alloc_heap_new w _) _
  have hDt : ((w.alloc (.cells (specA S A) 41)).alloc (.cells #[.int .i64 y, .int .i64 m, .int .i64 d, .int .i64 h, .int .i64 i, .int .i64 k] 23)).heap[w.heap.size + 1]? = some (.cells #[.int .i64 y, .int .i64 m, .int .i64 d, .int .i64 h, .int .i64 i, .int .i64 k] 23 (0, 0)) := by
    have := World.alloc_heap_new (w.alloc (.cells (specA S A) 41)) (.cells #[.int .i64 y, .int .i64 m, .int .i64 d, .int .i64 h, .int .i64 i, .int .i64 k] 23)
    rwa [World.size_alloc] at this
  have hB0 : Below w.heap.size w ((w.alloc (.cells (specA S A) 41)).alloc (.cells #[.int .i64 y, .int .i64 m, .int .i64 d, .int .i64 h, .int .i64 i, .int .i64 k] 23)) := ((Below.refl _ _).alloc (Nat.le_refl _) _).alloc (by simp) _
  generalize (w.alloc (.cells (specA S A) 41)).alloc (.cells #[.int .i64 y, .int .i64 m, .int .i64 d, .int .i64 h, .int .i64 i, .int .i64 k] 23) = Wd at hSp hDt hB0 ⊢
  obtain ⟨q0, q1, q2, q3, q4, q5, q6, q7, q8, q9, -, -, -, -, -, -, -, -, -, -⟩ := cells10 hSp
  have e1 : Wd.cell? ⟨w.heap.size + 1, 1, none⟩ = some (.int .i64 m) := by simp [World.cell?, hDt]
  have e2 : Wd.cell? ⟨w.heap.size + 1, 2, none⟩ = some (.int .i64 d) := by simp [World.cell?, hDt]
  have e5 : Wd.cell? ⟨w.heap.size + 1, 5, none⟩ = some (.int .i64 k) := by simp [World.cell?, hDt]
  have s0 := since_cell q0
  have s1 := since_cell q1
  have s2 := since_cell q2
  have s3 := since_cell q3
  have s4 := since_cell q4
  have s5 := since_cell q5
  have s6 := since_cell q6
  have s7 := since_cell q7
  have s8 := since_cell q8
  have s9 := since_cell q9
  have t1 := since_cell e1
  have t2 := since_cell e2
  have t5 := since_cell e5
  have hld : ∀ w', (∃ x : Since Wd, w' = x.w) → (Instr.loadAt 41 (.pointer (some ⟨w.heap.size, 0, none⟩))).run Tryd.prog w' = .ok (specV S A) w' := by
    rintro _ ⟨x, rfl⟩
    exact load_spec ((x.h.block w.heap.size (Array.getElem?_eq_some_iff.1 hSp).1).trans hSp)
  have hs0 : 0 ≤ (m : Int) ∧ (m : Int) < 64 := by omega
  have hs1 : 0 ≤ (d : Int) ∧ (d : Int) < 64 := by omega
  have hs2 : 0 ≤ (k : Int) ∧ (k : Int) < 64 := by omega
  clear q0 q1 q2 q3 q4 q5 q6 q7 q8 q9 e1 e2 e5 hDt
  refine wp_region_since (by kernel_rfl) (by kernel_rfl) ?_
  (go_big_quiet_want; refine quiet_load 41 _ rfl _ _ rfl hld ?_; simp only [Act.put, List.setIfInBounds_toArray, List.set]; go_big_quiet_on)
  go_big_quiet_step ((go_at_call 53; exact since_call (has_int hS _ _ (by decide) (by omega) _)))
  go_big_quiet_step ((go_at_call 53; exact since_call (has_int hS _ _ (by decide) (by omega) _)))
  go_big_quiet_step ((go_at_call 53; exact since_call (has_int hS _ _ (by decide) (by omega) _)))
  (go_big_quiet_want; refine quiet_load 41 _ rfl _ _ rfl hld ?_; simp only [Act.put, List.setIfInBounds_toArray, List.set]; go_big_quiet_on)
  go_big_quiet_step ((go_at_call 53; exact since_call (has_int hS _ _ (by decide) (by omega) _)))
  go_big_quiet_step ((go_at_call 53; exact since_call (has_int hS _ _ (by decide) (by omega) _)))
  go_big_quiet_step ((go_at_call 53; exact since_call (has_int hS _ _ (by decide) (by omega) _)))
  go_big_quiet_step ((go_at_call 53; exact since_call (has_int hS _ _ (by decide) (by omega) _)))
  go_big_quiet_step ((go_at_call 53; exact since_call (has_int hS _ _ (by decide) (by omega) _)))
  refine wpQuiet_nil ?_
  rintro _ ⟨x, rfl⟩
  have hx := hB0.trans (x.h.mono hB0.size)
  have hW := (x.h.block w.heap.size (Array.getElem?_eq_some_iff.1 hSp).1).trans hSp
  have u1 := t1 x
  have hxs := x.h.size
  clear s0 s1 s2 s3 s4 s5 s6 s7 s8 s9 t1 t2 t5 hld
  generalize x.w = W at *
  clear hSp hB0 x
  obtain ⟨q0, q1, q2, q3, q4, q5, q6, q7, q8, q9, -, -, -, -, -, -, -, -, -, -⟩ := cells10 hW
  clear hW
  simp only [Int.toNat_natCast, Int.reduceToNat]
  have hdm : dayM S A m d k = if (A 2 || A 4) = true then ((S 3).testBit m && (S 2).testBit d) && (S 4).testBit k else (S 3).testBit m && ((S 2).testBit d || (S 4).testBit k) := rfl
  generalize hb2 : (S 2).testBit d = b2 at *
  generalize hb4 : (S 4).testBit k = b4 at *
  have hh := has_int (A := A) hS 3 m (by decide) hs0
  simp only [Int.toNat_natCast, Int.reduceToNat] at hh
  generalize hb3 : (S 3).testBit m = b3 at *
  cases hA2 : A 2 <;> cases hA4 : A 4 <;> cases b2 <;> cases b4 <;> cases b3 <;> (
    simp [hA2, hA4] at hdm
    rw [hA2] at q7; rw [hA4] at q9; simp only [specV, specA, hA2, hA4] at hh
    go_wp2_with (go_at_call 53; refine (hh _).mono ?_; rintro e Wy ⟨rfl, hb⟩)
    all_goals (go_ret; exact ⟨by rw [hdm]; rfl, hx.trans (hb.mono hx.size)⟩))
end Go.Proofs.YtgiclhkoajbgpaaDoor
