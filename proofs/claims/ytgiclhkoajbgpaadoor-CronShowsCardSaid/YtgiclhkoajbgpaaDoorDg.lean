/-
  cron: Match.
-/
import Derived.Test.YtgiclhkoajbgpaaDoorDf
import Derived.Test.YtgiclhkoajbgpaaDoorCa6
namespace Go.Proofs.YtgiclhkoajbgpaaDoor
open Go.RowKit

/-- a plain region whose operations only read and whose callees keep to a class -/
theorem wpList_of_quiet {P : Program} {ops : Array Oper} {C : World → Prop} {Q : Exit → Act → World → Prop} : ∀ (l : List Oper) (a : Act) (w : World), C w →
    wpQuiet P ops C (fun a' => ∀ w', C w' → Q .normal a' w') l a → wpList P ops Q l a w
  | [], _, _, hw, h => h _ hw
  | o :: rest, a, w, hw, h => by
    unfold wpQuiet at h
    unfold wpList
    split
    · rename_i hg; rw [if_pos hg] at h
      exact .inl (Oper.wp_of_quiet hw (fun a' w' hw' h' => wpList_of_quiet rest a' w' hw' h') h)
    · rename_i hg; rw [if_neg hg] at h
      exact wpList_of_quiet rest _ w hw h
theorem wp_plain_since {P : Program} {id : Nat} {Q : Exit → Act → World → Prop} {a : Act} {w : World} {l : List Oper}
    (h : wpQuiet P l.toArray (fun w' => ∃ x : Since w, w' = x.w) (fun a' => ∀ w', (∃ x : Since w, w' = x.w) → Q .normal a' w') l a) : (Code.region id l.toArray false).wp P Q a w :=
  wp_region_lit (wpList_of_quiet l a w ⟨⟨w, Below.refl _ _⟩, rfl⟩ h)
theorem cells6 {W : World} {R : Nat} {t : TypeId} {c0 c1 c2 c3 c4 c5 : Value} (h : W.heap[R]? = some (.cells #[c0, c1, c2, c3, c4, c5] t (0, 0))) :
    W.cell? ⟨R, 0, none⟩ = some c0 ∧ W.cell? ⟨R, 1, none⟩ = some c1 ∧ W.cell? ⟨R, 2, none⟩ = some c2 ∧ W.cell? ⟨R, 3, none⟩ = some c3 ∧ W.cell? ⟨R, 4, none⟩ = some c4 ∧ W.cell? ⟨R, 5, none⟩ = some c5 := by
  refine ⟨?_, ?_, ?_, ?_, ?_, ?_⟩ <;> simp [World.cell?, h]
theorem day_int (S : Nat → Nat) (A : Nat → Bool) (hS : ∀ i, i < 5 → S i < 2 ^ 64) (y m d h i k : Int) (hm : 0 ≤ m ∧ m < 64) (hd : 0 ≤ d ∧ d < 64) (hk : 0 ≤ k ∧ k < 64) (w : World) :
    Calls Tryd.prog 52 #[specV S A, dateV y m d h i k] w fun e w' => e = .returned (.bool (dayM S A m.toNat d.toNat k.toNat)) ∧ Below w.heap.size w w' := by
  obtain ⟨m, rfl⟩ := Int.eq_ofNat_of_zero_le hm.1
  obtain ⟨d, rfl⟩ := Int.eq_ofNat_of_zero_le hd.1
  obtain ⟨k, rfl⟩ := Int.eq_ofNat_of_zero_le hk.1
  exact day_any S A hS y m d h i k (by omega) (by omega) (by omega) w
theorem check_yes (S : Nat → Nat) (A : Nat → Bool) (hS : ∀ i, i < 5 → S i < 2 ^ 64) (h : okS S A = true) (w : World) (hB : BoundsIs w) :
    Calls Tryd.prog 28 #[specV S A] w fun e w' => e = .returned (.int .i64 0) ∧ Below w.heap.size w w' := by
  have := check_any S A hS w hB; rwa [chk_ok h] at this
theorem check_no (S : Nat → Nat) (A : Nat → Bool) (hS : ∀ i, i < 5 → S i < 2 ^ 64) (h : okS S A = false) (w : World) (hB : BoundsIs w) :
    Calls Tryd.prog 28 #[specV S A] w fun e w' => e = .returned (.int .i64 30) ∧ Below w.heap.size w w' := by
  have := check_any S A hS w hB; rwa [chk_bad h] at this

/-- does a minute match? -/
noncomputable def matchM (S : Nat → Nat) (A : Nat → Bool) (n : Int) : Bool :=
  decide (0 ≤ n ∧ n < 2147483648) && (okS S A && (dayM S A (mM n).toNat (dM n).toNat (kM n).toNat && ((S 1).testBit (hM n).toNat && (S 0).testBit (iM n).toNat)))

theorem match_out (S : Nat → Nat) (A : Nat → Bool) (n : Int) (h : ¬ (0 ≤ n ∧ n < 2147483648)) (w : World) :
    Calls Tryd.prog 29 #[specV S A, .int .i64 n] w fun e w' => e = .returned (.bool (matchM S A n)) ∧ Below w.heap.size w w' := by
  have hm : matchM S A n = false := by simp only [matchM, decide_eq_false h, Bool.false_and]
  go_enter Tryd.func29, Tryd.ntmps29
  go_wp2_with (go_at_call 13; refine (of_no n _ h).mono ?_; rintro e Wy ⟨rfl, hb⟩)
  go_ret
  exact ⟨by rw [hm]; rfl, (((Below.refl _ _).alloc (Nat.le_refl _) _).trans (hb.mono (by simp))).alloc (by have := hb.size; simp at this; omega) _⟩

set_option maxRecDepth 100000 in
set_option maxHeartbeats 2000000 in
theorem match_in (S : Nat → Nat) (A : Nat → Bool) (hS : ∀ i, i < 5 → S i < 2 ^ 64) (n : Int) (h0 : 0 ≤ n) (h1 : n < 2147483648) (w : World) (hL : LensIs w) (hB : BoundsIs w) :
    Calls Tryd.prog 29 #[specV S A, .int .i64 n] w fun e w' => e = .returned (.bool (matchM S A n)) ∧ Below w.heap.size w w' := by
  have hm : matchM S A n = (okS S A && (dayM S A (mM n).toNat (dM n).toNat (kM n).toNat && ((S 1).testBit (hM n).toNat && (S 0).testBit (iM n).toNat))) := by simp [matchM, h0, h1]
  obtain ⟨-, -, b1, b2, b3, b4, b5, b6, b7, b8, b9, b10⟩ := dateBd n h0 h1
  have hL1 : LensIs (w.alloc (.cells (specA S A) 41)) := hL.alloc _
  have hof := of_ok n _ hL1 h0 h1
  have hday := day_int S A hS (yM n) (mM n) (dM n) (hM n) (iM n) (kM n) (by omega) (by omega) (by omega)
  have hHas : ∀ b : Bool, okS S A = b → ∀ W : World, BoundsIs W → Calls Tryd.prog 28 #[specV S A] W fun e w' => e = .returned (.int .i64 (if b then 0 else 30)) ∧ Below W.heap.size W w' := by
    intro b hb W hW
    cases b
    · exact check_no S A hS hb W hW
    · exact check_yes S A hS hb W hW
  generalize dayM S A (mM n).toNat (dM n).toNat (kM n).toNat = D at hm hday
  generalize yM n = y at *
  generalize mM n = m at *
  generalize dM n = d at *
  generalize hM n = h at *
  generalize iM n = i at *
  generalize kM n = k at *
  go_enter Tryd.func29, Tryd.ntmps29
  go_wp2_with fail
  refine hof.mono ?_
  rintro e w1 ⟨rfl, hb1⟩
  have hsz1 : w.heap.size < w1.heap.size := by have := hb1.size; simp at this; omega
  have hSp1 := (hb1.block w.heap.size (by simp)).trans (World.alloc_heap_new w (.cells (specA S A) 41))
  have hB1 : Below w.heap.size w w1 := ((Below.refl _ _).alloc (Nat.le_refl _) _).trans (hb1.mono (by simp))
  have hSp : (w1.alloc (.cells #[.int .i64 y, .int .i64 m, .int .i64 d, .int .i64 h, .int .i64 i, .int .i64 k] 23)).heap[w.heap.size]? = some (.cells (specA S A) 41 (0, 0)) := heap_keep hSp1 _
  have hDt := World.alloc_heap_new w1 (.cells #[.int .i64 y, .int .i64 m, .int .i64 d, .int .i64 h, .int .i64 i, .int .i64 k] 23)
  have hB2 := hB1.alloc hB1.size (.cells #[.int .i64 y, .int .i64 m, .int .i64 d, .int .i64 h, .int .i64 i, .int .i64 k] 23)
  have hBd := hB.below hB2
  have hlt : w.heap.size < (w1.alloc (.cells #[.int .i64 y, .int .i64 m, .int .i64 d, .int .i64 h, .int .i64 i, .int .i64 k] 23)).heap.size := by simp; omega
  have hlt2 : w1.heap.size < (w1.alloc (.cells #[.int .i64 y, .int .i64 m, .int .i64 d, .int .i64 h, .int .i64 i, .int .i64 k] 23)).heap.size := by simp
  obtain ⟨q0, q1, q2, q3, q4, q5, q6, q7, q8, q9, -, -, -, -, -, -, -, -, -, -⟩ := cells10 hSp
  obtain ⟨e0, e1, e2, e3, e4, e5⟩ := cells6 hDt
  clear hof hb1 hL1 hSp1 hB1
  cases hk : okS S A <;> cases D <;> cases ht1 : (S 1).testBit h.toNat <;> cases ht0 : (S 0).testBit i.toNat <;> (
    have hck := hHas _ hk
    simp only [hk, ht1, ht0, Bool.false_and, Bool.true_and, Bool.and_true, Bool.and_false, Bool.and_self] at hm
    simp only [if_true, Bool.false_eq_true, if_false] at hck
    go_wp2_with (first
      | (go_at_call 28; refine (hck _ hBd).mono ?_; rintro e W2 ⟨rfl, hb2⟩
         have hSp2 := (hb2.block w.heap.size hlt).trans hSp
         have hDt2 := (hb2.block w1.heap.size hlt2).trans hDt
         have hl2 := Nat.lt_of_lt_of_le hlt hb2.size
         have hl22 := Nat.lt_of_lt_of_le hlt2 hb2.size
         have hB3 := hB2.trans (hb2.mono (Nat.le_of_lt hlt))
         obtain ⟨q0, q1, q2, q3, q4, q5, q6, q7, q8, q9, -, -, -, -, -, -, -, -, -, -⟩ := cells10 hSp2
         obtain ⟨e0, e1, e2, e3, e4, e5⟩ := cells6 hDt2)
      | (go_at_call 52; refine (hday _).mono ?_; rintro e W3 ⟨rfl, hb3⟩
         have hSp3 := (hb3.block w.heap.size hl2).trans hSp2
         have hDt3 := (hb3.block w1.heap.size hl22).trans hDt2
         have hl3 := Nat.lt_of_lt_of_le hl2 hb3.size
         have hl33 := Nat.lt_of_lt_of_le hl22 hb3.size
         have hB4 := hB3.trans (hb3.mono (Nat.le_of_lt hl2))
         obtain ⟨q0, q1, q2, q3, q4, q5, q6, q7, q8, q9, -, -, -, -, -, -, -, -, -, -⟩ := cells10 hSp3
         obtain ⟨e0, e1, e2, e3, e4, e5⟩ := cells6 hDt3)
      | (go_at_call 53; refine (has_int (A := A) hS _ _ (by decide) (by omega) _).mono ?_; rintro e W4 ⟨rfl, hb4⟩
         simp only [Int.reduceToNat, ht1, ht0]
         have hSp3 := (hb4.block w.heap.size hl3).trans hSp3
         have hDt3 := (hb4.block w1.heap.size hl33).trans hDt3
         have hB4 := hB4.trans (hb4.mono (Nat.le_of_lt hl3))
         have hl33 := Nat.lt_of_lt_of_le hl33 hb4.size
         have hl3 := Nat.lt_of_lt_of_le hl3 hb4.size
         obtain ⟨q0, q1, q2, q3, q4, q5, q6, q7, q8, q9, -, -, -, -, -, -, -, -, -, -⟩ := cells10 hSp3
         obtain ⟨e0, e1, e2, e3, e4, e5⟩ := cells6 hDt3))
    all_goals (go_ret; first | exact ⟨by rw [hm]; rfl, hB4⟩ | exact ⟨by rw [hm]; rfl, hB3⟩))
/-- Match's contract -/
theorem match_any (S : Nat → Nat) (A : Nat → Bool) (hS : ∀ i, i < 5 → S i < 2 ^ 64) (n : Int) (w : World) (hL : LensIs w) (hB : BoundsIs w) :
    Calls Tryd.prog 29 #[specV S A, .int .i64 n] w fun e w' => e = .returned (.bool (matchM S A n)) ∧ Below w.heap.size w w' := by
  by_cases h : 0 ≤ n ∧ n < 2147483648
  · exact match_in S A hS n h.1 h.2 w hL hB
  · exact match_out S A n h w
end Go.Proofs.YtgiclhkoajbgpaaDoor
