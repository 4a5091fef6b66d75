/-
  What cron.Parse reads is right: the plain law.
-/
import Derived.Test.YtgiclhkoajbgpaaDoorEd
import Derived.Test.YtgiclhkoajbgpaaDoorFb
namespace Go.Proofs.YtgiclhkoajbgpaaDoor
open Go.RowKit

theorem errOf_zero (f : Nat → Int) : ∀ (n i : Nat), errOf f i n = 0 → ∀ j, i ≤ j → j < i + n → f j = 0
  | 0, i, _, j, h1, h2 => by omega
  | n + 1, i, h, j, h1, h2 => by
    unfold errOf at h
    by_cases c : f i = 0
    · rw [if_neg (by simp [c])] at h
      by_cases e : j = i
      · rw [e]; exact c
      · exact errOf_zero f n (i + 1) h j (by omega) (by omega)
    · rw [if_pos c] at h; exact absurd h c
theorem sub_full {x f : Nat} (h : ∀ n, x.testBit n = true → inF f n = true) : x &&& (18446744073709551615 - fullM f) = 0 := by
  have hF : fullM f < 2 ^ 64 := rowM_lt _ _ _ (by have := hiM_le f; omega)
  apply Nat.eq_of_testBit_eq
  intro n
  rw [Nat.testBit_and, show 18446744073709551615 - fullM f = 2 ^ 64 - (fullM f + 1) by omega, Nat.testBit_two_pow_sub_succ hF, full_bit, Nat.zero_testBit]
  have := h n
  revert this; cases x.testBit n <;> cases inF f n <;> simp
theorem ne_of_bit {x n : Nat} (h : x.testBit n = true) : x ≠ 0 := fun e => by rw [e, Nat.zero_testBit] at h; cases h
theorem itemM_good {f : Nat} {l : List UInt8} (h : (itemM f l).2 = 0) : (∃ n, (itemM f l).1.testBit n = true) ∧ ∀ n, (itemM f l).1.testBit n = true → inF f n = true := by
  rw [itemM_ref] at h ⊢
  cases hr : ritemT (loM f) (hiM f) l with
  | none => rw [hr] at h; simp [itemOut] at h
  | some p =>
    obtain ⟨a, b, s⟩ := p
    rw [hr] at h
    have hhi := hiM_le f
    by_cases c : a < loM f ∨ hiM f < b ∨ b < a ∨ s < 1 ∨ 59 < s
    · simp only [itemOut] at h; rw [if_pos c] at h; simp at h
    · simp only [itemOut]
      rw [if_neg c]
      have hb : ∀ n, (rowM a.toNat b.toNat s.toNat).testBit n = decide (a.toNat ≤ n ∧ n ≤ b.toNat ∧ (n - a.toNat) % s.toNat = 0) := fun n => rowM_bit _ _ _ n (by omega) (by omega)
      refine ⟨⟨a.toNat, ?_⟩, fun n hn => ?_⟩
      · rw [hb, decide_eq_true_eq]
        exact ⟨Nat.le_refl _, by omega, by simp⟩
      · rw [hb, decide_eq_true_eq] at hn
        obtain ⟨h1, h2, -⟩ := hn
        simp only [inF, Bool.and_eq_true, decide_eq_true_eq]
        omega
theorem acc_good {f : Nat} : ∀ (L : List (List UInt8)) (acc : Nat), (∀ o ∈ L, (itemM f o).2 = 0) → (∀ n, acc.testBit n = true → inF f n = true) →
    (∀ n, (L.foldl (fun a o => a ||| (itemM f o).1) acc).testBit n = true → inF f n = true) ∧ ∀ n, acc.testBit n = true → (L.foldl (fun a o => a ||| (itemM f o).1) acc).testBit n = true
  | [], acc, _, h2 => ⟨h2, fun _ h => h⟩
  | o :: L, acc, h1, h2 => by
    have ho := itemM_good (h1 o (by simp))
    have ih := acc_good L (acc ||| (itemM f o).1) (fun q hq => h1 q (by simp [hq])) (fun n hn => by
      rw [Nat.testBit_or, Bool.or_eq_true] at hn
      rcases hn with h | h
      · exact h2 n h
      · exact ho.2 n h)
    exact ⟨ih.1, fun n hn => ih.2 n (by rw [Nat.testBit_or, hn, Bool.true_or])⟩
theorem items_zero {i : Nat} : ∀ (L : List (List UInt8)) (acc : Nat), (itemsM i L acc).2 = 0 → ∀ o ∈ L, (itemM i o).2 = 0
  | [], _, _, _, ho => by cases ho
  | q :: L, acc, h, o, ho => by
    unfold itemsM at h
    by_cases c : (itemM i q).2 = 0
    · rw [if_neg (by simp [c])] at h
      rcases List.mem_cons.1 ho with e | ho
      · rw [e]; exact c
      · exact items_zero L _ h o ho
    · rw [if_pos c] at h; exact absurd h c
theorem field_good {f : Nat} {p : List UInt8} (h : (fieldM f p).2.2 = 0) : (fieldM f p).1 ≠ 0 ∧ (∀ n, (fieldM f p).1.testBit n = true → inF f n = true) ∧ ((fieldM f p).2.1 = true → (fieldM f p).1 = fullM f) := by
  by_cases c : p = [42]
  · have e : fieldM f p = (fullM f, true, 0) := by simp [fieldM, c]
    rw [e]
    refine ⟨ne_of_bit (n := loM f) ?_, fun n hn => by rw [full_bit] at hn; exact hn, fun _ => rfl⟩
    rw [full_bit]
    have := lo_hi f
    simp only [inF, Bool.and_eq_true, decide_eq_true_eq]; omega
  · have e : fieldM f p = ((itemsM f (splitL 44 p) 0).1, false, (itemsM f (splitL 44 p) 0).2) := by simp [fieldM, c]
    rw [e] at h ⊢
    have hz := items_zero _ _ h
    rw [itemsM_ok f _ 0 hz]
    obtain ⟨q, qs, hs⟩ := splitL_ne 44 p
    rw [hs] at hz ⊢
    have hq := itemM_good (hz q (by simp))
    obtain ⟨⟨n, hn⟩, hsub⟩ := hq
    have hg := acc_good qs (0 ||| (itemM f q).1) (fun o ho => hz o (by simp [ho])) (fun m hm => hsub m (by simpa using hm))
    exact ⟨ne_of_bit (n := n) (hg.2 n (by simpa using hn)), hg.1, fun h => by cases h⟩
theorem parse_right {l : List UInt8} (h : parseE l = 0) : okS (parseS l) (parseA l) = true := by
  have hw : wordsOk l = true := by
    cases c : wordsOk l
    · simp [parseE, c] at h
    · rfl
  have he : ∀ j, j < 5 → partErr l j = 0 := fun j hj => errOf_zero (partErr l) 5 0 (by simpa [parseE, hw] using h) j (by omega) (by omega)
  have hok : ∀ i, i < 5 → okF (parseS l) (parseA l) i = true := fun i hi => by
    obtain ⟨h1, h2, h3⟩ := field_good (he i hi)
    have e1 : parseS l i = (fieldM i ((words l).getD i [])).1 := by simp [parseS, h]
    have e2 : parseA l i = (fieldM i ((words l).getD i [])).2.1 := by simp [parseA, h]
    simp only [okF, e1, e2]
    rw [decide_eq_true h1, decide_eq_true (sub_full h2), Bool.true_and, Bool.true_and]
    cases c : (fieldM i ((words l).getD i [])).2.1
    · rfl
    · rw [decide_eq_true (h3 c)]; rfl
  simp only [okS, hok 0 (by omega), hok 1 (by omega), hok 2 (by omega), hok 3 (by omega), hok 4 (by omega), Bool.and_self]
theorem parse_lt (l : List UInt8) : ∀ i, i < 5 → parseS l i < 2 ^ 64 := fun i _ => by
  unfold parseS
  split
  · unfold fieldM
    split
    · exact rowM_lt _ _ _ (by have := hiM_le i; omega)
    · by_cases c : ∀ o ∈ splitL 44 ((words l).getD i []), (itemM i o).2 = 0
      · rw [itemsM_ok i _ 0 c]; exact accM_lt i _
      · have hz : (itemsM i (splitL 44 ((words l).getD i [])) 0).2 ≠ 0 := fun e => c (items_zero _ _ e)
        rename_i h1 h2
        exact absurd (by
          have hw : wordsOk l = true := by
            cases c : wordsOk l
            · simp [parseE, c] at h1
            · rfl
          have := errOf_zero (partErr l) 5 0 (by simpa [parseE, hw] using h1) i (by omega) (by omega)
          unfold partErr fieldM at this
          rw [if_neg h2] at this
          exact this) hz
  · decide
end Go.Proofs.YtgiclhkoajbgpaaDoor
