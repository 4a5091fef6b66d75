/-
  cron: the walks of row and of full.
-/
import Derived.Test.YtgiclhkoajbgpaaDoorCa2
import Derived.Test.YtgiclhkoajbgpaaDoorSince
import Derived.Laws.IdiomStrings
import Derived.RangeFuncBox
import Derived.Lib.Hide
namespace Go.Proofs.YtgiclhkoajbgpaaDoor
open Go.RowKit

/-- the loop of row, with as much fuel as it has rounds at most -/
def rowGo : Nat → Nat → Nat → Nat → Nat → Nat
  | 0, _, _, _, acc => acc
  | f + 1, n, b, s, acc => if n ≤ b then rowGo f (n + s) b s (acc ||| 2 ^ n) else acc
def rowM (a b s : Nat) : Nat := rowGo 64 a b s 0
theorem rowGo_lt : ∀ (f n b s acc : Nat), b ≤ 63 → acc < 2 ^ 64 → rowGo f n b s acc < 2 ^ 64
  | 0, _, _, _, _, _, h => h
  | f + 1, n, b, s, acc, hb, h => by
    unfold rowGo
    split
    · exact rowGo_lt f _ b s _ hb (Nat.or_lt_two_pow h (Nat.pow_lt_pow_right (by decide) (by omega)))
    · exact h
theorem rowM_lt (a b s : Nat) (hb : b ≤ 63) : rowM a b s < 2 ^ 64 := rowGo_lt _ _ _ _ _ hb (by decide)
theorem rowGo_bit : ∀ (f n b s acc j : Nat), 1 ≤ s → b + 1 ≤ n + f → (rowGo f n b s acc).testBit j = (acc.testBit j || decide (n ≤ j ∧ j ≤ b ∧ (j - n) % s = 0))
  | 0, n, b, s, acc, j, hs, hf => by
    have : decide (n ≤ j ∧ j ≤ b ∧ (j - n) % s = 0) = false := by simp; omega
    rw [this]; simp [rowGo]
  | f + 1, n, b, s, acc, j, hs, hf => by
    unfold rowGo
    split
    · rename_i h
      rw [rowGo_bit f (n + s) b s _ j hs (by omega), Nat.testBit_or, Nat.testBit_two_pow, Bool.or_assoc]
      congr 1
      rw [← Bool.decide_or]
      apply decide_eq_decide.2
      constructor
      · rintro (rfl | ⟨h1, h2, h3⟩)
        · exact ⟨Nat.le_refl _, h, by simp⟩
        · refine ⟨by omega, h2, ?_⟩
          have : j - n = (j - (n + s)) + s := by omega
          rw [this, Nat.add_mod_right]; exact h3
      · rintro ⟨h1, h2, h3⟩
        by_cases e : n = j
        · exact Or.inl e
        · right
          have hge : s ≤ j - n := by
            rcases Nat.lt_or_ge (j - n) s with hl | hl
            · rw [Nat.mod_eq_of_lt hl] at h3; omega
            · exact hl
          refine ⟨by omega, h2, ?_⟩
          have : j - n = (j - (n + s)) + s := by omega
          rw [this, Nat.add_mod_right] at h3; exact h3
    · have : decide (n ≤ j ∧ j ≤ b ∧ (j - n) % s = 0) = false := by simp; omega
      rw [this]; simp
theorem rowM_bit (a b s j : Nat) (hs : 1 ≤ s) (hb : b ≤ 63) : (rowM a b s).testBit j = decide (a ≤ j ∧ j ≤ b ∧ (j - a) % s = 0) := by
  unfold rowM; rw [rowGo_bit _ _ _ _ _ _ hs (by omega)]; simp

set_option maxHeartbeats 1000000 in
theorem row_any (a b s : Nat) (ha : a ≤ 1000) (hb : b ≤ 63) (hs : 1 ≤ s) (hs2 : s ≤ 64) (w : World) :
    Calls Tryd.prog 67 #[.int .i64 a, .int .i64 b, .int .i64 s] w fun e w' => e = .returned (.int .u64 (rowM a b s : Nat)) ∧ w = w' := by
  go_enter Tryd.func67, Tryd.ntmps67
  go_wp2_with fail
  go_loop [7, 8] (fun t u => ∃ f n acc : Nat, t = .int .u64 acc ∧ u = .int .i64 n ∧ acc < 18446744073709551616 ∧ n ≤ 1000 ∧ b + 1 ≤ n + f ∧ rowGo f n b s acc = rowM a b s) (fun _ u => 2000 - (intOf u).toNat)
  case atStart => exact ⟨64, a, 0, rfl, rfl, by decide, ha, by omega, rfl⟩
  case round =>
    obtain ⟨f, n, acc, rfl, rfl, hacc, hn, hf, he⟩ := hrel
    have HE := Lib.hid he
    clear he
    by_cases h : n ≤ b
    · have hd : decide ((n : Int) ≤ (b : Int)) = true := by simp [h]
      have h0 : (0 : Int) ≤ (n : Int) := by omega
      go_wp2_with fail
      refine ⟨⟨f - 1, n + s, acc ||| 2 ^ n, ?_, by simp, Nat.or_lt_two_pow (n := 64) hacc (show 2 ^ n < 2 ^ 64 from Nat.pow_lt_pow_right (by decide) (by omega)), by omega, by omega, ?_⟩, by simp only [intOf]; omega⟩
      · have hp : 2 ^ n < 18446744073709551616 := (show 2 ^ n < 2 ^ 64 from Nat.pow_lt_pow_right (by decide) (by omega))
        have hw : IntKind.u64.wrap (2 ^ n) = ((2 ^ n : Nat) : Int) := by
          have : ((2 : Int) ^ n) = ((2 ^ n : Nat) : Int) := by simp
          rw [this]; generalize 2 ^ n = K at hp ⊢; simp only [IntKind.wrap, IntKind.bits, IntKind.signed]; simp; omega
        rw [hw, u64_or_nat acc (2 ^ n) hacc hp]
      · obtain ⟨g, rfl⟩ : ∃ g, f = g + 1 := ⟨f - 1, by omega⟩
        rw [← HE.out]
        simp [rowGo, h]
    · have hd : decide ((n : Int) ≤ (b : Int)) = false := by simp [h]
      have hfin : acc = rowM a b s := by
        rw [← HE.out]
        cases f with
        | zero => rfl
        | succ g => simp [rowGo, h]
      go_wp2_with fail
      go_ret
      exact ⟨rfl, rfl⟩

/-- the table of bounds -/
def loM : Nat → Nat | 2 => 1 | 3 => 1 | _ => 0
def hiM : Nat → Nat | 0 => 59 | 1 => 23 | 2 => 31 | 3 => 12 | _ => 6
def BoundsIs (w : World) : Prop := ∀ i : Nat, i < 5 → w.cell? ⟨1, i * 2, none⟩ = some (.int .i64 (loM i : Nat)) ∧ w.cell? ⟨1, i * 2 + 1, none⟩ = some (.int .i64 (hiM i : Nat))
def fullM (i : Nat) : Nat := rowM (loM i) (hiM i) 1
theorem hiM_le (i : Nat) : hiM i ≤ 59 := by unfold hiM; split <;> omega
theorem loM_le (i : Nat) : loM i ≤ 1 := by unfold loM; split <;> omega

set_option maxHeartbeats 1000000 in
theorem full_any (i : Nat) (hi : i < 5) (w : World) (hB : BoundsIs w) :
    Calls Tryd.prog 45 #[.int .i64 i] w fun e w' => e = .returned (.int .u64 (fullM i : Nat)) ∧ Below w.heap.size w w' := by
  have C0 := since_cell (hB i hi).1
  have C1 := since_cell (hB i hi).2
  have h0 := hiM_le i
  have h1 := loM_le i
  go_enter Tryd.func45, Tryd.ntmps45
  go_wp2_with fail
  refine wp_region_since (by kernel_rfl) (by kernel_rfl) ?_
  repeat (first | go_big_quiet_step ((go_at_call 67; exact since_same (row_any _ _ 1 (by omega) (by omega) (by omega) (by omega) _))) | quiet_step ((go_at_call 67; exact since_same (row_any _ _ 1 (by omega) (by omega) (by omega) (by omega) _))))
  refine wpQuiet_nil ?_
  rintro _ ⟨x, rfl⟩
  go_wp2
  go_ret
  exact ⟨rfl, x.h⟩

def isDig (a : UInt8) : Bool := decide (48 ≤ a.toNat ∧ a.toNat ≤ 57)
/-- the number of a text of one or two digits; -1: it is none -/
def numM : List UInt8 → Int
  | [a] => if isDig a then (a.toNat : Int) - 48 else -1
  | [a, b] => if isDig a then (if isDig b then ((a.toNat : Int) - 48) * 10 + (b.toNat : Int) - 48 else -1) else -1
  | _ => -1
theorem isDig_true {a : UInt8} (c : isDig a = true) : decide ((a.toNat : Int) < 48) = false ∧ decide ((57 : Int) < (a.toNat : Int)) = false := by
  simp [isDig] at c ⊢; omega
theorem isDig_false {a : UInt8} (c : isDig a = false) : decide ((a.toNat : Int) < 48) = true ∨ (decide ((a.toNat : Int) < 48) = false ∧ decide ((57 : Int) < (a.toNat : Int)) = true) := by
  simp [isDig] at c ⊢; omega

set_option maxHeartbeats 1000000 in
theorem number_bad (l : List UInt8) (h : ¬ (l.length = 1 ∨ l.length = 2)) (w : World) :
    Calls Tryd.prog 69 #[.string ⟨l.toArray⟩] w fun e w' => e = .returned (.int .i64 (-1)) ∧ Below w.heap.size w w' := by
  by_cases c : l.length = 0
  · have h1 : decide ((l.length : Int) < 1) = true := by simp [c]
    go_enter Tryd.func69, Tryd.ntmps69
    go_wp2_with fail
    go_ret
    exact ⟨rfl, Below.refl _ _⟩
  · have h1 : decide ((l.length : Int) < 1) = false := by simp; omega
    have h2 : decide ((2 : Int) < (l.length : Int)) = true := by simp; omega
    go_enter Tryd.func69, Tryd.ntmps69
    go_wp2_with fail
    go_ret
    exact ⟨rfl, Below.refl _ _⟩

/-- a text as bytes -/
theorem conv_bytes (l : List UInt8) (w : World) : ∃ (W : World) (cap : Nat), (Go.convert 9 106 (.string ⟨l.toArray⟩)).run Tryd.prog w = .ok (.slice (some ⟨w.heap.size, 0, none⟩) l.length cap) W ∧
    (∀ (i : Nat) (h : i < l.length), W.cell? ⟨w.heap.size, i, none⟩ = some (.int .u8 (l[i].toNat : Nat))) ∧ Below w.heap.size w W := by
  refine ⟨_, _, run_bytes_of_string w 9 106 5 ⟨l.toArray⟩ Tryd.underlying9 Tryd.underlying106 Tryd.underlying5, ?_, (Below.refl _ _).drew.alloc (by simp) _⟩
  intro i h
  have : (w.drew.alloc (.cells (bytesRow ⟨l.toArray⟩ (grownCap w l.length 0 5)) 5 ((bytesRow ⟨l.toArray⟩ (grownCap w l.length 0 5)).size, (bytesRow ⟨l.toArray⟩ (grownCap w l.length 0 5)).size + 1))).heap[w.heap.size]? = some (.cells (bytesRow ⟨l.toArray⟩ (grownCap w l.length 0 5)) 5 ((bytesRow ⟨l.toArray⟩ (grownCap w l.length 0 5)).size, (bytesRow ⟨l.toArray⟩ (grownCap w l.length 0 5)).size + 1)) := World.alloc_heap_new w.drew _
  simp only [World.cell?]
  rw [show (({ data := l.toArray } : ByteArray).size) = l.length by simp [ByteArray.size], this]
  simp [bytesRow, Array.getElem?_append, h]

set_option maxRecDepth 100000 in
set_option maxHeartbeats 1000000 in
theorem number_1 (a : UInt8) (w : World) :
    Calls Tryd.prog 69 #[.string ⟨#[a]⟩] w fun e w' => e = .returned (.int .i64 (numM [a])) ∧ Below w.heap.size w w' := by
  obtain ⟨W, cap, hconv, hc, hb⟩ := conv_bytes [a] w
  have hc0 := hc 0 (by simp)
  have ha : (a.toNat : Int) < 256 := by have := a.toNat_lt; omega
  simp only [List.getElem_cons_zero] at hc0
  simp only [List.length_cons, List.length_nil] at hconv
  clear hc
  go_enter Tryd.func69, Tryd.ntmps69
  go_wp2_with fail
  refine wp_loop_rounds 2 ?_
  rw [rounds_succ]
  by_cases c : isDig a = true
  · obtain ⟨d1, d2⟩ := isDig_true c
    go_wp2_with fail
    rw [rounds_succ]
    go_wp2_with fail
    go_ret
    exact ⟨by simp [numM, c], hb⟩
  · rcases isDig_false (by simpa using c) with d1 | ⟨d1, d2⟩ <;> · go_wp2_with fail
                                                                   go_ret
                                                                   exact ⟨by simp [numM, c], hb⟩
set_option maxRecDepth 100000 in
set_option maxHeartbeats 1000000 in
theorem number_2 (a b : UInt8) (w : World) :
    Calls Tryd.prog 69 #[.string ⟨#[a, b]⟩] w fun e w' => e = .returned (.int .i64 (numM [a, b])) ∧ Below w.heap.size w w' := by
  obtain ⟨W, cap, hconv, hc, hb⟩ := conv_bytes [a, b] w
  have hc0 := hc 0 (by simp)
  have hc1 := hc 1 (by simp)
  simp only [List.getElem_cons_zero, List.getElem_cons_succ] at hc0 hc1
  simp only [List.length_cons, List.length_nil] at hconv
  clear hc
  have ha : (a.toNat : Int) < 256 := by have := a.toNat_lt; omega
  have hb2 : (b.toNat : Int) < 256 := by have := b.toNat_lt; omega
  go_enter Tryd.func69, Tryd.ntmps69
  go_wp2_with fail
  refine wp_loop_rounds 3 ?_
  rw [rounds_succ]
  by_cases c : isDig a = true
  · obtain ⟨d1, d2⟩ := isDig_true c
    go_wp2_with fail
    rw [rounds_succ]
    by_cases c2 : isDig b = true
    · obtain ⟨d3, d4⟩ := isDig_true c2
      go_wp2_with fail
      rw [rounds_succ]
      go_wp2_with fail
      go_ret
      exact ⟨by simp [numM, c, c2], hb⟩
    · rcases isDig_false (by simpa using c2) with d3 | ⟨d3, d4⟩ <;> · go_wp2_with fail
                                                                      go_ret
                                                                      exact ⟨by simp [numM, c, c2], hb⟩
  · rcases isDig_false (by simpa using c) with d1 | ⟨d1, d2⟩ <;> · go_wp2_with fail
                                                                   go_ret
                                                                   exact ⟨by simp [numM, c], hb⟩
theorem number_any (l : List UInt8) (w : World) :
    Calls Tryd.prog 69 #[.string ⟨l.toArray⟩] w fun e w' => e = .returned (.int .i64 (numM l)) ∧ Below w.heap.size w w' := by
  match l with
  | [] => exact number_bad [] (by simp) w
  | [a] => exact number_1 a w
  | [a, b] => exact number_2 a b w
  | a :: b :: c :: l => exact number_bad _ (by simp) w
end Go.Proofs.YtgiclhkoajbgpaaDoor
