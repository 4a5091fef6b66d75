/-
  The document's Low, High, Right.
-/
import Derived.Test.YtgiclhkoajbgpaaDoorEb
namespace Go.Proofs.YtgiclhkoajbgpaaDoor
open Go.RowKit

theorem low_any (f : Nat) (hf : f < 5) (w : World) : Calls Tryd.prog 48 #[.int .i64 f] w fun e w' => e = .returned (.int .i64 (loM f : Nat)) ∧ w = w' := by
  obtain rfl | rfl | rfl | rfl | rfl : f = 0 ∨ f = 1 ∨ f = 2 ∨ f = 3 ∨ f = 4 := by omega
  all_goals (
    go_enter Tryd.func48, Tryd.ntmps48
    go_wp2_with fail
    go_ret
    exact ⟨rfl, rfl⟩)
theorem high_any (f : Nat) (hf : f < 5) (w : World) : Calls Tryd.prog 49 #[.int .i64 f] w fun e w' => e = .returned (.int .i64 (hiM f : Nat)) ∧ Below w.heap.size w w' := by
  obtain rfl | rfl | rfl | rfl | rfl : f = 0 ∨ f = 1 ∨ f = 2 ∨ f = 3 ∨ f = 4 := by omega
  all_goals (
    go_enter Tryd.func49, Tryd.ntmps49
    go_wp2_with fail
    go_ret
    exact ⟨rfl, (Below.refl _ _).alloc (Nat.le_refl _) _⟩)

/-- 65 truth values in a row -/
def cells65 (h : Nat → Bool) : Array Value := ((List.range 65).map fun k => Value.bool (h k)).toArray
theorem cells65_size (g : Nat → Bool) : (cells65 g).size = 65 := by simp [cells65]
theorem cells65_get (g : Nat → Bool) (k : Nat) (hk : k < 65) : (cells65 g)[k]? = some (.bool (g k)) := by simp [cells65, hk]
theorem fld65 {W : World} {C : Nat} {g : Nat → Bool} {t : TypeId} (h : W.heap[C]? = some (.cells (cells65 g) t (0, 0))) (k : Nat) (hk : k < 65) : W.cell? ⟨C, k, none⟩ = some (.bool (g k)) := by
  simp [World.cell?, h, cells65_get g k hk]
theorem lo_hi (f : Nat) : loM f ≤ hiM f := by unfold loM hiM; split <;> split <;> omega
def inF (f n : Nat) : Bool := decide (loM f ≤ n) && decide (n ≤ hiM f)
def okB (f : Nat) (h : Nat → Bool) (n : Nat) : Bool := !((h n && !inF f n) || (h 64 && inF f n && !h n))
/-- the document's Right -/
def rightF (f : Nat) (h : Nat → Bool) : Bool := (List.range 64).all (okB f h) && (List.range 64).any h
theorem rightF_bad {f : Nat} {h : Nat → Bool} {n : Nat} (hn : n < 64) (hb : okB f h n = false) : rightF f h = false := by
  have : (List.range 64).all (okB f h) = false := by
    rw [List.all_eq_false]; exact ⟨n, by simpa using hn, by simp [hb]⟩
  simp [rightF, this]
theorem rightF_end {f : Nat} {h : Nat → Bool} (ho : ∀ j, j < 64 → okB f h j = true) (c : Nat) (hc : 0 < c ↔ ∃ j, j < 64 ∧ h j = true) : rightF f h = decide (0 < c) := by
  have h1 : (List.range 64).all (okB f h) = true := by rw [List.all_eq_true]; intro j hj; exact ho j (by simpa using hj)
  have h2 : (List.range 64).any h = decide (0 < c) := by
    by_cases e : 0 < c
    · obtain ⟨j, hj, hx⟩ := hc.1 e
      rw [decide_eq_true (by omega), List.any_eq_true]; exact ⟨j, by simpa using hj, hx⟩
    · rw [decide_eq_false (by omega), List.any_eq_false]; intro j hj hx; exact e (hc.2 ⟨j, by simpa using hj, hx⟩)
  rw [rightF, h1, h2, Bool.true_and]

set_option maxRecDepth 100000 in
set_option maxHeartbeats 2000000 in
theorem fright_any (f : Nat) (hf : f < 5) (h : Nat → Bool) (w : World) :
    Calls Tryd.prog 51 #[.int .i64 f, .agg (cells65 h)] w fun e w' => e = .returned (.bool (rightF f h)) ∧ Below w.heap.size w w' := by
  go_enter Tryd.func51, Tryd.ntmps51
  go_wp2_with fail
  have hF0 := World.alloc_heap_new w (.cells (cells65 h) 46)
  go_loopw [5, 6, 7, 8, 9] (fun x5 x6 x7 x8 x9 wr => ∃ n c : Nat, n ≤ 64 ∧ c ≤ n ∧ x5 = .int .i64 c ∧ x6 = .int .i64 n ∧ Below (w.heap.size + 1) (w.alloc (.cells (cells65 h) 46)) wr ∧ (∀ j, j < n → okB f h j = true) ∧ (0 < c ↔ ∃ j, j < n ∧ h j = true))
    (fun x5 x6 x7 x8 x9 wr => 64 - (intOf x6).toNat)
  case atStart => exact ⟨0, 0, by omega, by omega, rfl, rfl, Below.refl _ _, fun j hj => by omega, by simp⟩
  case round =>
    obtain ⟨n, c, hn, hcn, rfl, rfl, hb, hok, hc⟩ := hrel
    have hB : Below w.heap.size w wr := ((Below.refl _ _).alloc (Nat.le_refl _) _).trans (hb.mono (by omega))
    have hF := (hb.block w.heap.size (by omega)).trans hF0
    have hsz : w.heap.size < wr.heap.size := (Array.getElem?_eq_some_iff.1 hF).1
    by_cases h64 : n = 64
    · subst h64
      have hR := rightF_end hok c hc
      clear hok hc
      go_wp2_with fail
      go_ret
      exact ⟨by rw [hR]; rfl, hB⟩
    · have hn64 : n < 64 := by omega
      have cn := fld65 hF n (by omega)
      have c64 := fld65 hF 64 (by omega)
      have hnd : ((n : Nat) : Int) < 64 := by omega
      have h0n : (0 : Int) ≤ (n : Nat) := by omega
      have hokn : okB f h n = !((h n && !inF f n) || (h 64 && inF f n && !h n)) := rfl
      have hin : inF f n = (decide (loM f ≤ n) && decide (n ≤ hiM f)) := rfl
      have hlb := loM_le f
      have hlh := lo_hi f
      have hC := Lib.hid hc
      have hO := Lib.hid hok
      clear hc hok
      by_cases hlo : loM f ≤ n <;> by_cases hhi : n ≤ hiM f <;> cases hx : h n <;> cases ha : h 64 <;> first | (exfalso; omega) | (
        simp only [hin, hx, ha, hlo, hhi, decide_true, decide_false, Bool.true_and, Bool.and_true, Bool.false_and, Bool.and_false, Bool.not_true, Bool.not_false, Bool.or_true, Bool.or_false, Bool.false_or, Bool.true_or] at hokn
        rw [hx] at cn
        rw [ha] at c64
        go_wp2_with (first
          | (go_at_call 48; refine (low_any f hf _).mono ?_; rintro e Wy ⟨rfl, hww⟩; obtain rfl := hww.symm)
          | (go_at_call 49; refine (high_any f hf _).mono ?_; rintro e Wy ⟨rfl, hb2⟩
             have hF := (hb2.block w.heap.size hsz).trans hF
             have hB := hB.trans (hb2.mono hB.size)
             have hb := hb.trans (hb2.mono hsz)
             have hsz := Nat.lt_of_lt_of_le hsz hb2.size
             have cn := fld65 hF n (by omega)
             have c64 := fld65 hF 64 (by omega)
             rw [hx] at cn
             rw [ha] at c64))
        first
          | (go_ret
             exact ⟨by rw [rightF_bad hn64 hokn]; rfl, hB⟩)
          | (go_roundw
             case rel => first
               | exact ⟨n + 1, c, by omega, by omega, rfl, by simp, hb, fun j hj => if e : j < n then hO.out j e else by rw [show j = n by omega]; exact hokn, hC.out.trans ⟨fun ⟨j, h1, h2⟩ => ⟨j, by omega, h2⟩, fun ⟨j, h1, h2⟩ => ⟨j, Nat.lt_of_le_of_ne (by omega) (fun e => by rw [e, hx] at h2; cases h2), h2⟩⟩⟩
               | exact ⟨n + 1, c + 1, by omega, by omega, by simp, by simp, hb, fun j hj => if e : j < n then hO.out j e else by rw [show j = n by omega]; exact hokn, ⟨fun _ => ⟨n, by omega, hx⟩, fun _ => by omega⟩⟩
             case measure => simp [intOf]; omega))
end Go.Proofs.YtgiclhkoajbgpaaDoor
