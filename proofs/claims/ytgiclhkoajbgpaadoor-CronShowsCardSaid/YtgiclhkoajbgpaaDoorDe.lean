/-
  cron: has, Check.
-/
import Derived.Test.YtgiclhkoajbgpaaDoorDd
namespace Go.Proofs.YtgiclhkoajbgpaaDoor
open Go.RowKit

theorem bit_val (x n : Nat) (hx : x < 2 ^ 64) : (decide (bits BinOp.and IntKind.u64 ((x : Int) / 2 ^ n) 1 = 1)) = x.testBit n := by
  have h1 : ((x : Int) / 2 ^ n) = ((x / 2 ^ n : Nat) : Int) := by simp
  have h2 : x / 2 ^ n < 18446744073709551616 := Nat.lt_of_le_of_lt (Nat.div_le_self _ _) hx
  rw [h1, show (1 : Int) = ((1 : Nat) : Int) from rfl, u64_and_nat _ 1 h2 (by decide), Nat.and_one_is_mod]
  rw [Nat.testBit_eq_decide_div_mod_eq]
  apply decide_eq_decide.2
  omega

set_option maxHeartbeats 1000000 in
theorem has_any (S : Nat → Nat) (A : Nat → Bool) (f n : Nat) (hS : S f < 2 ^ 64) (hf : f < 5) (hn : n < 64) (w : World) :
    Calls Tryd.prog 53 #[specV S A, .int .i64 f, .int .i64 n] w fun e w' => e = .returned (.bool ((S f).testBit n)) ∧ Below w.heap.size w w' := by
  have q := (spec_cell (World.alloc_heap_new w (.cells (specA S A) 41)) f hf).1
  have hb := bit_val (S f) n hS
  have h5 : decide ((f : Int) < 5) = true := by simp; omega
  have h0 : (0 : Int) ≤ (n : Int) := by omega
  go_enter Tryd.func53, Tryd.ntmps53
  go_wp2_with fail
  rw [show (bits BinOp.and IntKind.u64 (((S f : Nat) : Int) / 2 ^ n) 1 == 1) = (S f).testBit n from (by rw [← hb]; rfl)]
  go_ret
  exact ⟨rfl, (Below.refl _ _).alloc (Nat.le_refl _) _⟩

theorem idx5 (S : Nat → Nat) (w : World) (i : Nat) (hi : i < 5) :
    (Instr.index 38 (.agg #[.int .u64 (S 0 : Nat), .int .u64 (S 1 : Nat), .int .u64 (S 2 : Nat), .int .u64 (S 3 : Nat), .int .u64 (S 4 : Nat)]) (.int .i64 (i : Nat))).run Tryd.prog w = .ok (.int .u64 (S i : Nat)) w := by
  obtain rfl | rfl | rfl | rfl | rfl : i = 0 ∨ i = 1 ∨ i = 2 ∨ i = 3 ∨ i = 4 := by omega
  all_goals simp [Instr.index, go_sem, part]
/-- is a field's set right? -/
def okF (S : Nat → Nat) (A : Nat → Bool) (i : Nat) : Bool := decide (S i ≠ 0) && decide (S i &&& (18446744073709551615 - fullM i) = 0) && (!A i || decide (S i = fullM i))
def okS (S : Nat → Nat) (A : Nat → Bool) : Bool := okF S A 0 && (okF S A 1 && (okF S A 2 && (okF S A 3 && okF S A 4)))
/-- Check's answer -/
def chk (S : Nat → Nat) (A : Nat → Bool) : Int := if okS S A then 0 else 30
theorem chk_ok {S : Nat → Nat} {A : Nat → Bool} (h : okS S A = true) : chk S A = 0 := by simp [chk, h]
theorem chk_bad {S : Nat → Nat} {A : Nat → Bool} (h : okS S A = false) : chk S A = 30 := by simp [chk, h]
set_option maxRecDepth 100000 in
set_option maxHeartbeats 4000000 in
theorem check_any (S : Nat → Nat) (A : Nat → Bool) (hS : ∀ i, i < 5 → S i < 2 ^ 64) (w : World) (hB : BoundsIs w) :
    Calls Tryd.prog 28 #[specV S A] w fun e w' => e = .returned (.int .i64 (chk S A)) ∧ Below w.heap.size w w' := by
  go_enter Tryd.func28, Tryd.ntmps28
  go_wp2_with fail
  go_loopw [3, 4, 5, 8, 9] (fun x3 x4 x5 k x9 wr => ∃ i : Nat, i ≤ 5 ∧ k = .int .i64 i ∧ Below (w.heap.size + 1) (w.alloc (.cells (specA S A) 41)) wr ∧ ∀ j, j < i → okF S A j = true) (fun x3 x4 x5 k x9 wr => 5 - (intOf k).toNat)
  case atStart => exact ⟨0, by omega, rfl, Below.refl _ _, fun j hj => by omega⟩
  case round =>
    obtain ⟨i, hi, rfl, hb, hok⟩ := hrel
    have hbw : Below w.heap.size w wr := ((Below.refl _ _).alloc (Nat.le_refl _) _).trans (hb.mono (by omega))
    by_cases h5 : i = 5
    · subst h5
      have hall : okS S A = true := by simp [okS, hok 0, hok 1, hok 2, hok 3, hok 4]
      go_wp2_with fail
      go_ret
      exact ⟨by rw [chk_ok hall]; rfl, hbw⟩
    · have hi5 : i < 5 := by omega
      have hBr := hB.below hbw
      have hsp := (hb.block w.heap.size (by omega)).trans (World.alloc_heap_new w (.cells (specA S A) 41))
      have hbad : okF S A i = false → okS S A = false := fun h => by
        obtain rfl | rfl | rfl | rfl | rfl : i = 0 ∨ i = 1 ∨ i = 2 ∨ i = 3 ∨ i = 4 := by omega
        all_goals simp [okS, h]
      have hSi := hS i hi5
      have hFi : fullM i < 2 ^ 64 := rowM_lt _ _ _ (by have := hiM_le i; omega)
      have han : bits BinOp.andNot IntKind.u64 ((S i : Nat) : Int) ((fullM i : Nat) : Int) = ((S i &&& (18446744073709551615 - fullM i) : Nat) : Int) := u64_andNot_nat _ _ hSi hFi
      obtain ⟨-, -, qa, -⟩ := spec_cell hsp i hi5
      have n1 : (((S i : Nat) : Int) == 0) = decide (S i = 0) := by rw [show (((S i : Nat) : Int) == 0) = decide (((S i : Nat) : Int) = 0) from rfl]; apply decide_eq_decide.2; omega
      have n2 : (((S i : Nat) : Int) != ((fullM i : Nat) : Int)) = !decide (S i = fullM i) := by rw [show (((S i : Nat) : Int) != ((fullM i : Nat) : Int)) = !decide (((S i : Nat) : Int) = ((fullM i : Nat) : Int)) from rfl]; congr 1; apply decide_eq_decide.2; omega
      have hx := idx5 S wr i hi5
      have hsz : w.heap.size < wr.heap.size := (Array.getElem?_eq_some_iff.1 hsp).1
      have hid : decide ((i : Int) < 5) = true := by simp; omega
      go_wp2_with (go_at_call 45; refine (full_any i hi5 _ hBr).mono ?_; rintro e Wy ⟨rfl, hc⟩; have qa2 := (hc.cell (p := ⟨w.heap.size, 5 + i, none⟩) hsz).trans qa)
      all_goals first
        | (go_ret
           refine ⟨?_, hbw.trans (hc.mono hbw.size)⟩
           rw [chk_bad (hbad (by clear hbad hok hsp hx hB hBr hb hbw hc hS n1 n2 han qa qa2 hid; simp_all [okF]))]
           rfl)
        | (go_roundw
           case rel =>
             refine ⟨i + 1, by omega, rfl, hb.trans (hc.mono hsz), fun j hj => ?_⟩
             by_cases e : j = i
             · subst e; clear hbad hok hsp hx hB hBr hb hbw hc hS n1 n2 han qa qa2 hid; simp_all [okF]
             · exact hok j (by omega)
           case measure => simp [intOf]; omega)
end Go.Proofs.YtgiclhkoajbgpaaDoor
