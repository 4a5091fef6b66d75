/-
  math/bits.TrailingZeros64 at this program; the runs of a set: the plain law.
-/
import Derived.Test.YtgiclhkoajbgpaaDoorGa
import Derived.Shelf.Spec.TrailingZeros
namespace Go.Proofs.YtgiclhkoajbgpaaDoor
open Go.RowKit

/-- the de Bruijn table in its variable -/
def TabT (w : World) : Prop := ∀ j, j < 64 → w.cell? ⟨2, j, none⟩ = some (.int .u8 (Lib.deBruijn64tab.getD j 0 : Nat))
theorem TabT.below {B : Nat} {w w' : World} (h : TabT w) (hb : Below B w w') (hB : 2 < B) : TabT w' := fun j hj => (hb.cell (p := ⟨2, j, none⟩) hB).trans (h j hj)
theorem TabT.pos {w : World} (h : TabT w) : 2 < w.heap.size := World.block_lt_of_cell? w _ (h 0 (by omega))
set_option maxHeartbeats 1000000 in
theorem tz_core (x k idx : Nat) (w : World) (hx0 : ((x : Int) == 0) = false)
    (key : IntKind.u64.wrap (bits BinOp.and IntKind.u64 (x : Int) (IntKind.u64.wrap (-(x : Int))) * 285870213051353865) / 288230376151711744 = (idx : Int))
    (hi : idx < 64) (hk : k < 64) (hcell : w.cell? ⟨2, idx, none⟩ = some (.int .u8 k)) : Calls Tryd.prog 74 #[.int .u64 x] w fun e w' => e = .returned (.int .i64 k) ∧ w = w' := by
  go_enter Tryd.func74, Tryd.ntmps74
  go_wp2
  go_ret
  exact ⟨rfl, rfl⟩
set_option maxHeartbeats 1000000 in
theorem tz_zero (w : World) : Calls Tryd.prog 74 #[.int .u64 0] w fun e w' => e = .returned (.int .i64 64) ∧ w = w' := by
  go_enter Tryd.func74, Tryd.ntmps74
  go_wp2
  go_ret
  exact ⟨rfl, rfl⟩
theorem tz_any (x : Nat) (hx : x < 18446744073709551616) (w : World) (hT : TabT w) : Calls Tryd.prog 74 #[.int .u64 x] w fun e w' => e = .returned (.int .i64 (Lib.ctz 64 x : Nat)) ∧ w = w' := by
  by_cases hx0 : x = 0
  · subst hx0; exact tz_zero w
  · obtain ⟨hlow, hk⟩ := Lib.lowest_bit 64 x hx0 hx
    obtain ⟨hi, htab⟩ := Lib.deBruijn64_at _ hk
    have hcell := hT _ hi
    rw [htab] at hcell
    exact tz_core x _ _ w (by simp; omega) (tz64_key x _ hx hx0 hlow) hi hk hcell
theorem ctz_bit {x : Nat} (h0 : x ≠ 0) (h : x < 2 ^ 64) : x.testBit (Lib.ctz 64 x) = true ∧ (∀ j, j < Lib.ctz 64 x → x.testBit j = false) ∧ Lib.ctz 64 x < 64 := by
  obtain ⟨m, hm, hk⟩ := Lib.ctzFrom_spec 64 x (by omega) h
  have e : Lib.ctz 64 x = Lib.ctzFrom 64 x := by simp [Lib.ctz, h0]
  rw [e]
  generalize Lib.ctzFrom 64 x = k at *
  refine ⟨?_, fun j hj => ?_, hk⟩
  · rw [hm, Nat.testBit_two_pow_mul]; simp
  · rw [hm, Nat.testBit_two_pow_mul]; simp; omega

/-- the last of the run that begins at n -/
def ext (p : Nat → Bool) : Nat → Nat → Nat
  | 0, n => n
  | k + 1, n => if p (n + 1) then ext p k (n + 1) else n
theorem ext_spec (p : Nat → Bool) (hp : ∀ j, 64 ≤ j → p j = false) : ∀ (k n : Nat), p n = true → 64 ≤ n + k → n ≤ ext p k n ∧ (∀ j, n ≤ j → j ≤ ext p k n → p j = true) ∧ p (ext p k n + 1) = false ∧ ext p k n < 64
  | 0, n, h, hk => by rw [hp n (by omega)] at h; cases h
  | k + 1, n, h, hk => by
    have hn : n < 64 := Nat.lt_of_not_le (fun c => by rw [hp n c] at h; cases h)
    unfold ext
    cases c : p (n + 1)
    · exact ⟨Nat.le_refl _, fun j h1 h2 => by rw [show j = n by simpa using Nat.le_antisymm h2 h1]; exact h, c, hn⟩
    · obtain ⟨h1, h2, h3, h4⟩ := ext_spec p hp k (n + 1) c (by omega)
      refine ⟨by simp only [if_true]; omega, fun j j1 j2 => ?_, h3, h4⟩
      by_cases e : j = n
      · rw [e]; exact h
      · exact h2 j (by omega) j2
/-- the runs from n on -/
def runsF (p : Nat → Bool) : Nat → Nat → List (Nat × Nat)
  | 0, _ => []
  | k + 1, n => if n < 64 then (if p n then (n, ext p 64 n) :: runsF p k (ext p 64 n + 1) else runsF p k (n + 1)) else []
theorem runsF_fuel (p : Nat → Bool) (hp : ∀ j, 64 ≤ j → p j = false) : ∀ (k l n : Nat), 64 ≤ n + k → 64 ≤ n + l → runsF p k n = runsF p l n
  | 0, 0, _, _, _ => rfl
  | 0, l + 1, n, h1, h2 => by simp only [runsF]; rw [if_neg (by omega)]
  | k + 1, 0, n, h1, h2 => by simp only [runsF]; rw [if_neg (by omega)]
  | k + 1, l + 1, n, h1, h2 => by
    simp only [runsF]
    by_cases c : n < 64
    · rw [if_pos c, if_pos c]
      cases hn : p n
      · simp only [Bool.false_eq_true, if_false]; exact runsF_fuel p hp k l (n + 1) (by omega) (by omega)
      · have := ext_spec p hp 64 n hn (by omega)
        simp only [if_true]; rw [runsF_fuel p hp k l (ext p 64 n + 1) (by omega) (by omega)]
    · rw [if_neg c, if_neg c]
def runsA (p : Nat → Bool) (n : Nat) : List (Nat × Nat) := runsF p 64 n
theorem runsA_no {p : Nat → Bool} (hp : ∀ j, 64 ≤ j → p j = false) {n : Nat} (hn : n < 64) (h : p n = false) : runsA p n = runsA p (n + 1) := by
  unfold runsA
  rw [runsF, if_pos hn, h]
  exact runsF_fuel p hp 63 64 (n + 1) (by omega) (by omega)
theorem runsA_yes {p : Nat → Bool} (hp : ∀ j, 64 ≤ j → p j = false) {n : Nat} (hn : n < 64) (h : p n = true) : runsA p n = (n, ext p 64 n) :: runsA p (ext p 64 n + 1) := by
  unfold runsA
  have := ext_spec p hp 64 n h (by omega)
  rw [runsF, if_pos hn, h]
  simp only [if_true]
  rw [runsF_fuel p hp 63 64 (ext p 64 n + 1) (by omega) (by omega)]
theorem runsA_end {p : Nat → Bool} {n : Nat} (hn : 64 ≤ n) : runsA p n = [] := by
  unfold runsA; rw [runsF, if_neg (by omega)]
theorem runsA_skip {p : Nat → Bool} (hp : ∀ j, 64 ≤ j → p j = false) : ∀ (d n m : Nat), m = n + d → m ≤ 64 → (∀ j, n ≤ j → j < m → p j = false) → runsA p n = runsA p m
  | 0, n, m, e, _, _ => by rw [e, Nat.add_zero]
  | d + 1, n, m, e, hm, h => by
    rw [runsA_no hp (by omega) (h n (Nat.le_refl _) (by omega))]
    exact runsA_skip hp d (n + 1) m (by omega) hm (fun j h1 h2 => h j (by omega) h2)
theorem runsA_spec {p : Nat → Bool} (hp : ∀ j, 64 ≤ j → p j = false) : ∀ (k n : Nat), 64 ≤ n + k →
    (∀ r ∈ runsA p n, n ≤ r.1 ∧ r.1 ≤ r.2 ∧ r.2 < 64 ∧ ∀ j, r.1 ≤ j → j ≤ r.2 → p j = true) ∧ ∀ m, n ≤ m → (p m = true ↔ ∃ r ∈ runsA p n, r.1 ≤ m ∧ m ≤ r.2)
  | 0, n, h => by
    rw [runsA_end (by omega)]
    exact ⟨fun r hr => (by cases hr), fun m hm => (by rw [hp m (by omega)]; simp)⟩
  | k + 1, n, h => by
    by_cases c : n < 64
    · cases hn : p n
      · rw [runsA_no hp c hn]
        obtain ⟨h1, h2⟩ := runsA_spec hp k (n + 1) (by omega)
        refine ⟨fun r hr => ⟨by have := (h1 r hr).1; omega, (h1 r hr).2⟩, fun m hm => ?_⟩
        by_cases e : m = n
        · rw [e, hn]
          simp only [Bool.false_eq_true, false_iff, not_exists, not_and]
          intro r hr h3
          have := (h1 r hr).1; omega
        · exact h2 m (by omega)
      · rw [runsA_yes hp c hn]
        obtain ⟨e1, e2, e3, e4⟩ := ext_spec p hp 64 n hn (by omega)
        obtain ⟨h1, h2⟩ := runsA_spec hp k (ext p 64 n + 1) (by omega)
        refine ⟨fun r hr => ?_, fun m hm => ?_⟩
        · rcases List.mem_cons.1 hr with e | hr
          · rw [e]; exact ⟨Nat.le_refl _, e1, e4, e2⟩
          · have := h1 r hr; exact ⟨by omega, this.2⟩
        · simp only [List.mem_cons, exists_eq_or_imp]
          by_cases cm : m ≤ ext p 64 n
          · rw [e2 m hm cm]; simp [hm, cm]
          · by_cases ce : m = ext p 64 n + 1
            · rw [ce, e3]
              simp only [Bool.false_eq_true, false_iff, not_or, not_and, not_exists]
              refine ⟨fun _ => by omega, fun r hr h3 => ?_⟩
              have h4 := h1 r hr
              by_cases e5 : r.1 = ext p 64 n + 1
              · have := h4.2.2.2 (ext p 64 n + 1) (by omega) (by omega)
                rw [e3] at this; cases this
              · omega
            · rw [h2 m (by omega)]
              constructor
              · exact .inr
              · rintro (h | h)
                · omega
                · exact h
    · rw [runsA_end (by omega)]
      exact ⟨fun r hr => (by cases hr), fun m hm => (by rw [hp m (by omega)]; simp)⟩
theorem runs_of {f S : Nat} (h0 : S ≠ 0) (hs : ∀ n, S.testBit n = true → inF f n = true) : Runs f S (runsA S.testBit 0) := by
  have hp : ∀ j, 64 ≤ j → S.testBit j = false := fun j hj => by
    cases c : S.testBit j
    · rfl
    · have := hs j c
      have hhi := hiM_le f
      simp only [inF, Bool.and_eq_true, decide_eq_true_eq] at this; omega
  obtain ⟨h1, h2⟩ := runsA_spec hp 64 0 (by omega)
  refine ⟨fun e => ?_, fun r hr => ?_, fun n => h2 n (by omega)⟩
  · obtain ⟨n, hn⟩ := Nat.exists_testBit_of_ne_zero h0
    have := (h2 n (by omega)).1 hn
    rw [e] at this; obtain ⟨r, hr, _⟩ := this; cases hr
  · obtain ⟨-, a2, a3, a4⟩ := h1 r hr
    have b1 := hs _ (a4 r.1 (Nat.le_refl _) a2)
    have b2 := hs _ (a4 r.2 a2 (Nat.le_refl _))
    simp only [inF, Bool.and_eq_true, decide_eq_true_eq] at b1 b2
    exact ⟨b1.1, a2, b2.2⟩
end Go.Proofs.YtgiclhkoajbgpaaDoor
