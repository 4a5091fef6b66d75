/-
  cron: within.
-/
import Derived.Test.YtgiclhkoajbgpaaDoorDg
namespace Go.Proofs.YtgiclhkoajbgpaaDoor
open Go.RowKit

/-- does a minute of a day match by its hour and its minute? -/
def hitM (S : Nat → Nat) (m : Int) : Bool := (S 1).testBit (m / 60).toNat && (S 0).testBit (m % 60).toNat

set_option maxRecDepth 100000 in
set_option maxHeartbeats 2000000 in
theorem within_any (S : Nat → Nat) (A : Nat → Bool) (hS : ∀ i, i < 5 → S i < 2 ^ 64) (n : Int) (h0 : 0 ≤ n) (h1 : n < 1440) (w : World) :
    Calls Tryd.prog 71 #[specV S A, .int .i64 n] w fun e w' => (∃ r : Int, e = .returned (.int .i64 r) ∧ ((r = -1 ∧ ∀ j, n ≤ j → j < 1440 → hitM S j = false) ∨ (n ≤ r ∧ r < 1440 ∧ hitM S r = true ∧ ∀ j, n ≤ j → j < r → hitM S j = false))) ∧ Below w.heap.size w w' := by
  go_enter Tryd.func71, Tryd.ntmps71
  go_wp2_with fail
  have hSp0 := World.alloc_heap_new w (.cells (specA S A) 41)
  go_loopw [5, 7, 8] (fun m x7 x8 wr => ∃ i : Int, n ≤ i ∧ i ≤ 1440 ∧ m = .int .i64 i ∧ Below (w.heap.size + 1) (w.alloc (.cells (specA S A) 41)) wr ∧ ∀ j, n ≤ j → j < i → hitM S j = false) (fun m x7 x8 wr => 1440 - (intOf m).toNat)
  case atStart => exact ⟨n, by omega, by omega, rfl, Below.refl _ _, fun j hj => by omega⟩
  case round =>
    obtain ⟨i, hi, hi2, rfl, hb, hno⟩ := hrel
    have hB : Below w.heap.size w wr := ((Below.refl _ _).alloc (Nat.le_refl _) _).trans (hb.mono (by omega))
    have hSp := (hb.block w.heap.size (by omega)).trans hSp0
    obtain ⟨q0, q1, q2, q3, q4, q5, q6, q7, q8, q9, -, -, -, -, -, -, -, -, -, -⟩ := cells10 hSp
    by_cases hlt : i < 1440
    · have hsz : w.heap.size < wr.heap.size := (Array.getElem?_eq_some_iff.1 hSp).1
      have hh : hitM S i = ((S 1).testBit (i / 60).toNat && (S 0).testBit (i % 60).toNat) := rfl
      have hblk : (S 1).testBit (i / 60).toNat = false → ∀ j, i ≤ j → j < i - i % 60 + 60 → hitM S j = false := fun h j h1 h2 => by
        have e : j / 60 = i / 60 := by omega
        simp only [hitM, e, h, Bool.false_and]
      cases ht1 : (S 1).testBit (i / 60).toNat <;> cases ht0 : (S 0).testBit (i % 60).toNat <;> (
        simp only [ht1, ht0, Bool.false_and, Bool.true_and, Bool.and_self] at hh
        go_wp2_with (go_at_call 53; refine (has_int (A := A) hS _ _ (by decide) (by omega) _).mono ?_; rintro e W4 ⟨rfl, hb4⟩
                     simp only [Int.reduceToNat, ht1, ht0]
                     have hSp := (hb4.block w.heap.size hsz).trans hSp
                     have hB := hB.trans (hb4.mono hB.size)
                     have hb := hb.trans (hb4.mono hsz)
                     have hsz := Nat.lt_of_lt_of_le hsz hb4.size
                     obtain ⟨q0, q1, q2, q3, q4, q5, q6, q7, q8, q9, -, -, -, -, -, -, -, -, -, -⟩ := cells10 hSp)
        all_goals first
          | (go_ret; exact ⟨⟨i, rfl, .inr ⟨hi, hlt, hh, hno⟩⟩, hB⟩)
          | (go_roundw
             case rel => first
               | exact ⟨i + 1, by omega, by omega, rfl, hb, fun j h1 h2 => if e : j < i then hno j h1 e else by rw [show j = i by omega]; exact hh⟩
               | exact ⟨i + (59 - i % 60) + 1, by omega, by omega, rfl, hb, fun j h1 h2 => if e : j < i then hno j h1 e else hblk ht1 j (by omega) (by omega)⟩
             case measure => simp [intOf]; omega))
    · go_wp2_with fail
      go_ret
      exact ⟨⟨-1, rfl, .inl ⟨rfl, fun j h1 h2 => hno j h1 (by omega)⟩⟩, hB⟩
end Go.Proofs.YtgiclhkoajbgpaaDoor
