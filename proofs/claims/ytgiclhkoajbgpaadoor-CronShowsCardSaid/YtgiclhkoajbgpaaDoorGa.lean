/-
  The text of a spec is read as that spec: the plain law.
-/
import Derived.Test.YtgiclhkoajbgpaaDoorFe
import Derived.Test.YtgiclhkoajbgpaaDoorFh
namespace Go.Proofs.YtgiclhkoajbgpaaDoor
open Go.RowKit

/-- a number's text -/
def numT (n : Nat) : List UInt8 := if n < 10 then [UInt8.ofNat (48 + n)] else [UInt8.ofNat (48 + n / 10), UInt8.ofNat (48 + n % 10)]
theorem numT_good : ∀ n, n < 100 → (numM (numT n) = n ∧ ((numT n).length = 1 ∨ (numT n).length = 2)) ∧ (numT n).all isDig = true := by decide
/-- a run's text -/
def runT (p : Nat × Nat) : List UInt8 := numT p.1 ++ (if p.1 < p.2 then 45 :: numT p.2 else [])
theorem runT_bytes (p : Nat × Nat) (h1 : p.1 < 100) (h2 : p.2 < 100) : ∀ x ∈ runT p, isDig x = true ∨ x = 45 := fun x hx => by
  obtain ⟨-, d1⟩ := numT_good p.1 h1
  obtain ⟨-, d2⟩ := numT_good p.2 h2
  rw [List.all_eq_true] at d1 d2
  unfold runT at hx
  rcases List.mem_append.1 hx with h | h
  · exact .inl (d1 x h)
  · split at h
    · rcases List.mem_cons.1 h with e | h
      · exact .inr e
      · exact .inl (d2 x h)
    · cases h
theorem runT_ne (p : Nat × Nat) (h1 : p.1 < 100) : ∃ x t, runT p = x :: t ∧ isDig x = true := by
  obtain ⟨⟨-, d0⟩, d1⟩ := numT_good p.1 h1
  rw [List.all_eq_true] at d1
  cases hn : numT p.1 with
  | nil => rw [hn] at d0; simp at d0
  | cons x t => exact ⟨x, _, by rw [runT, hn]; rfl, d1 x (by rw [hn]; simp)⟩
theorem item_run (f a b : Nat) (h0 : loM f ≤ a) (h1 : a ≤ b) (h2 : b ≤ hiM f) : itemM f (runT (a, b)) = (rowM a b 1, 0) := by
  have hhi := hiM_le f
  obtain ⟨⟨na, la⟩, da⟩ := numT_good a (by omega)
  obtain ⟨⟨nb, lb⟩, db⟩ := numT_good b (by omega)
  rw [List.all_eq_true] at da db
  have hno : ∀ t, runT (a, b) ≠ 42 :: t := fun t e => by
    obtain ⟨x, u, hx, hd⟩ := runT_ne (a, b) (show a < 100 by omega)
    rw [e] at hx; injection hx with h1 h2; rw [← h1, d42] at hd; cases hd
  have hT : ritemT (loM f) (hiM f) (runT (a, b)) = some ((a : Int), (b : Int), 1) := by
    rw [ritemT_no _ _ _ hno, ritemG]
    by_cases c : a < b
    · have e : runT (a, b) = numT a ++ 45 :: numT b := by simp [runT, c]
      have D1 : Dig (runT (a, b)) (numT a) (45 :: numT b) := ⟨e, da, fun x t h => by injection h with h1 h2; rw [← h1]; exact d45⟩
      have D2 : Dig (numT b) (numT b) [] := ⟨by simp, db, fun x t h => by cases h⟩
      rw [rn_dig D1, if_pos la, Option.bind_some]
      simp only []
      rw [rn_dig D2, if_pos lb, Option.bind_some, na, nb]
    · have e : runT (a, b) = numT a := by simp [runT, c]
      have D1 : Dig (runT (a, b)) (numT a) [] := ⟨by rw [e, List.append_nil], da, fun x t h => by cases h⟩
      rw [rn_dig D1, if_pos la, Option.bind_some, na, show b = a by omega]
  rw [itemM_ref, hT, itemOut, if_neg (by omega)]
  simp
/-- parts with a byte between -/
def joinL (c : UInt8) : List (List UInt8) → List UInt8
  | [] => []
  | [x] => x
  | x :: y :: t => x ++ c :: joinL c (y :: t)
theorem split_own (c : UInt8) : ∀ x : List UInt8, c ∉ x → splitL c x = [x]
  | [], _ => rfl
  | b :: r, h => by
    have hb : ¬ b = c := fun e => h (by rw [e]; simp)
    have ih := split_own c r (fun m => h (List.mem_cons_of_mem _ m))
    simp [splitL, hb, ih]
theorem split_at (c : UInt8) (t : List UInt8) : ∀ x : List UInt8, c ∉ x → splitL c (x ++ c :: t) = x :: splitL c t
  | [], _ => by simp [splitL]
  | b :: r, h => by
    have hb : ¬ b = c := fun e => h (by rw [e]; simp)
    have ih := split_at c t r (fun m => h (List.mem_cons_of_mem _ m))
    simp [splitL, hb, ih]
theorem split_join (c : UInt8) : ∀ L : List (List UInt8), L ≠ [] → (∀ x ∈ L, c ∉ x) → splitL c (joinL c L) = L
  | [], h, _ => absurd rfl h
  | [x], _, h => split_own c x (h x (by simp))
  | x :: y :: t, _, h => by
    rw [joinL, split_at c _ x (h x (by simp)), split_join c (y :: t) (by simp) (fun z hz => h z (List.mem_cons_of_mem _ hz))]
theorem join_mem (c d : UInt8) (hd : d ≠ c) : ∀ L : List (List UInt8), (∀ x ∈ L, d ∉ x) → d ∉ joinL c L
  | [], _ => by simp [joinL]
  | [x], h => h x (by simp)
  | x :: y :: t, h => by
    have ih := join_mem c d hd (y :: t) (fun z hz => h z (List.mem_cons_of_mem _ hz))
    rw [joinL]
    intro m
    rcases List.mem_append.1 m with m | m
    · exact h x (by simp) m
    · rcases List.mem_cons.1 m with m | m
      · exact hd m
      · exact ih m
/-- runs that lie in a field, and stand for a set -/
structure Runs (f S : Nat) (R : List (Nat × Nat)) : Prop where
  ne : R ≠ []
  inn : ∀ p ∈ R, loM f ≤ p.1 ∧ p.1 ≤ p.2 ∧ p.2 ≤ hiM f
  bit : ∀ n, S.testBit n = true ↔ ∃ p ∈ R, p.1 ≤ n ∧ n ≤ p.2
theorem fold_bit (f : Nat) : ∀ (L : List (List UInt8)) (acc n : Nat), (L.foldl (fun a o => a ||| (itemM f o).1) acc).testBit n = true ↔ (acc.testBit n = true ∨ ∃ o ∈ L, (itemM f o).1.testBit n = true)
  | [], acc, n => by simp
  | o :: L, acc, n => by
    rw [List.foldl_cons, fold_bit f L, Nat.testBit_or, Bool.or_eq_true]
    simp only [List.mem_cons, exists_eq_or_imp]
    rw [or_assoc]
theorem runs_split {f S : Nat} {R : List (Nat × Nat)} (h : Runs f S R) : splitL 44 (joinL 44 (R.map runT)) = R.map runT := by
  have hhi := hiM_le f
  refine split_join 44 _ (by simp [h.ne]) (fun x hx hm => ?_)
  obtain ⟨p, hp, rfl⟩ := List.mem_map.1 hx
  have := h.inn p hp
  rcases runT_bytes p (by omega) (by omega) 44 hm with h | h
  · revert h; decide
  · revert h; decide
theorem field_runs {f S : Nat} {R : List (Nat × Nat)} (h : Runs f S R) : fieldM f (joinL 44 (R.map runT)) = (S, false, 0) := by
  have hsp := runs_split h
  have hne : joinL 44 (R.map runT) ≠ [42] := fun e => by
    rw [e, show splitL 44 [42] = [[42]] by decide] at hsp
    cases hR : R with
    | nil => exact h.ne hR
    | cons p t =>
      rw [hR] at hsp
      simp only [List.map_cons, List.cons.injEq] at hsp
      have hhi := hiM_le f
      have := h.inn p (by rw [hR]; simp)
      obtain ⟨x, u, hx, hd⟩ := runT_ne p (by omega)
      rw [← hsp.1] at hx
      injection hx with h1 h2
      rw [← h1, d42] at hd; cases hd
  have hz : ∀ o ∈ R.map runT, (itemM f o).2 = 0 := fun o ho => by
    obtain ⟨p, hp, rfl⟩ := List.mem_map.1 ho
    have := h.inn p hp
    rw [item_run f p.1 p.2 this.1 this.2.1 this.2.2]
  have hS : (R.map runT).foldl (fun a o => a ||| (itemM f o).1) 0 = S := by
    apply Nat.eq_of_testBit_eq
    intro n
    rw [Bool.eq_iff_iff, fold_bit, h.bit]
    simp only [Nat.zero_testBit, Bool.false_eq_true, false_or]
    constructor
    · rintro ⟨o, ho, hb⟩
      obtain ⟨p, hp, rfl⟩ := List.mem_map.1 ho
      have hi := h.inn p hp
      rw [item_run f p.1 p.2 hi.1 hi.2.1 hi.2.2, rowM_bit _ _ _ _ (by omega) (by have := hiM_le f; omega), decide_eq_true_eq] at hb
      exact ⟨p, hp, hb.1, hb.2.1⟩
    · rintro ⟨p, hp, h1, h2⟩
      have hi := h.inn p hp
      refine ⟨runT p, List.mem_map_of_mem hp, ?_⟩
      rw [item_run f p.1 p.2 hi.1 hi.2.1 hi.2.2, rowM_bit _ _ _ _ (by omega) (by have := hiM_le f; omega), decide_eq_true_eq]
      exact ⟨h1, h2, by simp [Nat.mod_one]⟩
  simp only [fieldM, if_neg hne, hsp, itemsM_ok f _ 0 hz, hS]
/-- a field's text -/
def fieldT (R : List (Nat × Nat)) (a : Bool) : List UInt8 := if a then [42] else joinL 44 (R.map runT)
/-- a spec's text -/
def specT (T : Nat → List UInt8) : List UInt8 := joinL 32 [T 0, T 1, T 2, T 3, T 4]
theorem fieldT_good {f S : Nat} {R : List (Nat × Nat)} {a : Bool} (h : Runs f S R) (ha : a = true → S = fullM f) : fieldM f (fieldT R a) = (S, a, 0) ∧ fieldT R a ≠ [] ∧ (32 : UInt8) ∉ fieldT R a := by
  have hhi := hiM_le f
  cases a with
  | true => exact ⟨by simp [fieldM, fieldT, ha rfl], by simp [fieldT], by simp [fieldT]⟩
  | false =>
    refine ⟨field_runs h, fun e => ?_, ?_⟩
    · have hs := runs_split h
      simp only [fieldT] at e
      rw [show joinL 44 (R.map runT) = [] from e] at hs
      cases hR : R with
      | nil => exact h.ne hR
      | cons p t =>
        rw [hR] at hs
        simp only [splitL, List.map_cons, List.cons.injEq] at hs
        have := h.inn p (by rw [hR]; simp)
        obtain ⟨x, u, hx, -⟩ := runT_ne p (by omega)
        rw [← hs.1] at hx; cases hx
    · refine join_mem 44 32 (by decide) _ (fun x hx hm => ?_)
      obtain ⟨p, hp, rfl⟩ := List.mem_map.1 hx
      have := h.inn p hp
      rcases runT_bytes p (by omega) (by omega) 32 hm with h | h
      · revert h; decide
      · revert h; decide
theorem spec_read {S : Nat → Nat} {A : Nat → Bool} {R : Nat → List (Nat × Nat)} (h : ∀ i, i < 5 → Runs i (S i) (R i)) (ha : ∀ i, i < 5 → A i = true → S i = fullM i) :
    parseE (specT fun i => fieldT (R i) (A i)) = 0 ∧ ∀ i, i < 5 → parseS (specT fun i => fieldT (R i) (A i)) i = S i ∧ parseA (specT fun i => fieldT (R i) (A i)) i = A i := by
  have hT := fun i hi => fieldT_good (h i hi) (ha i hi)
  generalize hTd : (fun i => fieldT (R i) (A i)) = T at *
  have hTi : ∀ i, fieldT (R i) (A i) = T i := fun i => by rw [← hTd]
  simp only [hTi] at hT
  have hsp : splitL 32 (specT T) = [T 0, T 1, T 2, T 3, T 4] := split_join 32 _ (by simp) (fun x hx => by
    simp only [List.mem_cons, List.not_mem_nil, or_false] at hx
    rcases hx with rfl | rfl | rfl | rfl | rfl
    · exact (hT 0 (by omega)).2.2
    · exact (hT 1 (by omega)).2.2
    · exact (hT 2 (by omega)).2.2
    · exact (hT 3 (by omega)).2.2
    · exact (hT 4 (by omega)).2.2)
  have hw : words (specT T) = [T 0, T 1, T 2, T 3, T 4] := by
    rw [words, hsp]
    simp [(hT 0 (by omega)).2.1, (hT 1 (by omega)).2.1, (hT 2 (by omega)).2.1, (hT 3 (by omega)).2.1, (hT 4 (by omega)).2.1]
  have hok : wordsOk (specT T) = true := (wordsOk_ref _).2 ⟨by rw [hw]; rfl, by rw [hsp]; simp [(hT 0 (by omega)).2.1], by rw [hsp]; simp [(hT 4 (by omega)).2.1]⟩
  have hg : ∀ i, i < 5 → (words (specT T)).getD i [] = T i := fun i hi => by
    rw [hw]
    obtain rfl | rfl | rfl | rfl | rfl : i = 0 ∨ i = 1 ∨ i = 2 ∨ i = 3 ∨ i = 4 := by omega
    all_goals rfl
  have he : parseE (specT T) = 0 := by
    rw [parseE, hok, if_pos rfl]
    exact errOf_none _ 5 0 (fun j _ hj => by rw [partErr, hg j (by omega), (hT j (by omega)).1])
  refine ⟨he, fun i hi => ?_⟩
  rw [parseS, parseA, he, if_pos rfl, if_pos rfl, hg i hi, (hT i hi).1]
  exact ⟨rfl, rfl⟩
end Go.Proofs.YtgiclhkoajbgpaaDoor
