/-
  The document's At and Match.
-/
import Derived.Test.YtgiclhkoajbgpaaDoorEa
import Derived.Deep.Cut
namespace Go.Proofs.YtgiclhkoajbgpaaDoor
open Go.RowKit

/-- the document's At -/
def atM (g : Nat → Bool) (m d h i k : Nat) : Bool :=
  g i && (g (65 + h) && (g (195 + m) && (if (g 194 || g 324) = true then g (130 + d) && g (260 + k) else g (130 + d) || g (260 + k))))

set_option maxRecDepth 100000 in
set_option maxHeartbeats 2000000 in
theorem at_any (g : Nat → Bool) (y : Int) (m d h i k : Nat) (hm : m < 64) (hd : d < 64) (hh : h < 64) (hi : i < 64) (hk : k < 64) (w : World) :
    Calls Tryd.prog 54 #[refV g, dateV y m d h i k] w fun e w' => e = .returned (.bool (atM g m d h i k)) ∧ Below w.heap.size w w' := by
  go_enter Tryd.func54, Tryd.ntmps54
  have hF : ((w.alloc (.cells (cellsF g) 47)).alloc (.cells #[.int .i64 y, .int .i64 m, .int .i64 d, .int .i64 h, .int .i64 i, .int .i64 k] 30)).heap[w.heap.size]? = some (.cells (cellsF g) 47 (0, 0)) := heap_keep (World.alloc_heap_new w _) _
  have hD : ((w.alloc (.cells (cellsF g) 47)).alloc (.cells #[.int .i64 y, .int .i64 m, .int .i64 d, .int .i64 h, .int .i64 i, .int .i64 k] 30)).heap[w.heap.size + 1]? = some (.cells #[.int .i64 y, .int .i64 m, .int .i64 d, .int .i64 h, .int .i64 i, .int .i64 k] 30 (0, 0)) := by
    have := World.alloc_heap_new (w.alloc (.cells (cellsF g) 47)) (.cells #[.int .i64 y, .int .i64 m, .int .i64 d, .int .i64 h, .int .i64 i, .int .i64 k] 30)
    rwa [World.size_alloc] at this
  have hB : Below w.heap.size w ((w.alloc (.cells (cellsF g) 47)).alloc (.cells #[.int .i64 y, .int .i64 m, .int .i64 d, .int .i64 h, .int .i64 i, .int .i64 k] 30)) := ((Below.refl _ _).alloc (Nat.le_refl _) _).alloc (by simp) _
  go_upto_region 1 with (fail)
  generalize (w.alloc (.cells (cellsF g) 47)).alloc (.cells #[.int .i64 y, .int .i64 m, .int .i64 d, .int .i64 h, .int .i64 i, .int .i64 k] 30) = W at *
  obtain ⟨-, e1, e2, e3, e4, e5⟩ := cells6 hD
  obtain ⟨c0, -⟩ := fld_cell hF i (by omega)
  obtain ⟨c1, -⟩ := fld_cell hF (65 + h) (by omega)
  obtain ⟨c3, -⟩ := fld_cell hF (195 + m) (by omega)
  obtain ⟨c2, -⟩ := fld_cell hF (130 + d) (by omega)
  obtain ⟨c4, -⟩ := fld_cell hF (260 + k) (by omega)
  obtain ⟨a2, -⟩ := fld_cell hF 194 (by omega)
  obtain ⟨a4, -⟩ := fld_cell hF 324 (by omega)
  have p0 : (0 : Int) ≤ (i : Nat) := by omega
  have p1 : (0 : Int) ≤ (h : Nat) := by omega
  have p2 : (0 : Int) ≤ (d : Nat) := by omega
  have p3 : (0 : Int) ≤ (m : Nat) := by omega
  have p4 : (0 : Int) ≤ (k : Nat) := by omega
  have u0 : ((i : Nat) : Int) < 64 := by omega
  have u1 : ((h : Nat) : Int) < 64 := by omega
  have u2 : ((d : Nat) : Int) < 64 := by omega
  have u3 : ((m : Nat) : Int) < 64 := by omega
  have u4 : ((k : Nat) : Int) < 64 := by omega
  have hat : atM g m d h i k = (g i && (g (65 + h) && (g (195 + m) && (if (g 194 || g 324) = true then g (130 + d) && g (260 + k) else g (130 + d) || g (260 + k))))) := rfl
  clear hF hD
  generalize g i = b0 at *
  generalize g (65 + h) = b1 at *
  generalize g (195 + m) = b3 at *
  generalize g (130 + d) = b2 at *
  generalize g (260 + k) = b4 at *
  generalize g 194 = A2 at *
  generalize g 324 = A4 at *
  by_cases hx : (b0 && (b1 && b3)) = true
  · simp only [Bool.and_eq_true] at hx
    obtain ⟨rfl, rfl, rfl⟩ := hx
    simp only [Bool.true_and] at hat
    go_wp2_with fail
    have s2 := since_cell e2
    have s5 := since_cell e5
    have r2 := since_cell c2
    have r4 := since_cell c4
    have z2 := since_cell a2
    have z4 := since_cell a4
    refine wp_region_since (by kernel_rfl) (by kernel_rfl) ?_
    repeat go_big_quiet_step (fail)
    refine wpQuiet_nil ?_
    rintro _ ⟨x, rfl⟩
    have v2 := z2 x
    have v4 := z4 x
    have hBx := hB.trans (x.h.mono hB.size)
    clear s2 s5 r2 r4 z2 z4 c0 c1 c2 c3 c4 a2 a4 e1 e2 e3 e4 e5
    cases A2 <;> cases A4 <;> cases b2 <;> cases b4 <;> (
      simp at hat
      go_wp2_with fail
      go_ret
      exact ⟨by rw [hat]; rfl, hBx⟩)
  · have hf : atM g m d h i k = false := by rw [hat]; revert hx; cases b0 <;> cases b1 <;> cases b3 <;> simp
    cases b0 <;> cases b1 <;> cases b3 <;> first | (exact absurd rfl hx) | (
      go_wp2_with fail
      go_ret
      exact ⟨by rw [hf]; rfl, hB⟩)
/-- the document's Match of a spec's fields is the program's -/
theorem atM_ref (S : Nat → Nat) (A : Nat → Bool) (m d h i k : Nat) (hm : m < 64) (hd : d < 64) (hh : h < 64) (hi : i < 64) (hk : k < 64) :
    atM (refG S A) m d h i k = (dayM S A m d k && ((S 1).testBit h && (S 0).testBit i)) := by
  have r : ∀ f n, n < 64 → refG S A (f * 65 + n) = (S f).testBit n := fun f n hn => by
    have e1 : (f * 65 + n) % 65 = n := by omega
    have e2 : (f * 65 + n) / 65 = f := by omega
    simp only [refG, e1, e2]
    rw [if_neg (by omega)]
  have r0 := r 0 i hi
  have r1 := r 1 h hh
  have r2 := r 2 d hd
  have r3 := r 3 m hm
  have r4 := r 4 k hk
  simp only [Nat.zero_mul, Nat.one_mul, Nat.reduceMul, Nat.zero_add] at r0 r1 r2 r3 r4
  have a2 : refG S A 194 = A 2 := by simp [refG]
  have a4 : refG S A 324 = A 4 := by simp [refG]
  simp only [atM, dayM, r0, r1, r2, r3, r4, a2, a4]
  cases (S 0).testBit i <;> cases (S 1).testBit h <;> cases (S 3).testBit m <;> cases A 2 <;> cases A 4 <;> simp
theorem at_int (g : Nat → Bool) (y m d h i k : Int) (hm : 0 ≤ m ∧ m < 64) (hd : 0 ≤ d ∧ d < 64) (hh : 0 ≤ h ∧ h < 64) (hi : 0 ≤ i ∧ i < 64) (hk : 0 ≤ k ∧ k < 64) (w : World) :
    Calls Tryd.prog 54 #[refV g, dateV y m d h i k] w fun e w' => e = .returned (.bool (atM g m.toNat d.toNat h.toNat i.toNat k.toNat)) ∧ Below w.heap.size w w' := by
  obtain ⟨m, rfl⟩ := Int.eq_ofNat_of_zero_le hm.1
  obtain ⟨d, rfl⟩ := Int.eq_ofNat_of_zero_le hd.1
  obtain ⟨h, rfl⟩ := Int.eq_ofNat_of_zero_le hh.1
  obtain ⟨i, rfl⟩ := Int.eq_ofNat_of_zero_le hi.1
  obtain ⟨k, rfl⟩ := Int.eq_ofNat_of_zero_le hk.1
  exact at_any g y m d h i k (by omega) (by omega) (by omega) (by omega) (by omega) w

set_option maxRecDepth 100000 in
set_option maxHeartbeats 2000000 in
theorem refMatch_any (g : Nat → Bool) (n : Int) (h0 : 0 ≤ n) (h1 : n < 2147483648) (w : World) :
    Calls Tryd.prog 30 #[refV g, .int .i64 n] w fun e w' => e = .returned (.bool (atM g (mM n).toNat (dM n).toNat (hM n).toNat (iM n).toNat (kM n).toNat)) ∧ Below w.heap.size w w' := by
  obtain ⟨-, -, b1, b2, b3, b4, b5, b6, b7, b8, b9, b10⟩ := dateBd n h0 h1
  have hof := rof_ok n
  have hat := at_int g (yM n) (mM n) (dM n) (hM n) (iM n) (kM n) (by omega) (by omega) (by omega) (by omega) (by omega)
  go_enter Tryd.func30, Tryd.ntmps30
  go_upto_region 1 with (fail)
  have hF := World.alloc_heap_new w (.cells (cellsF g) 47)
  have hB : Below w.heap.size w (w.alloc (.cells (cellsF g) 47)) := (Below.refl _ _).alloc (Nat.le_refl _) _
  generalize w.alloc (.cells (cellsF g) 47) = W at *
  have hld : ∀ w', (∃ x : Since W, w' = x.w) → (Instr.loadAt 47 (.pointer (some ⟨w.heap.size, 0, none⟩))).run Tryd.prog w' = .ok (refV g) w' := by
    rintro _ ⟨x, rfl⟩
    have h := (x.h.block w.heap.size (Array.getElem?_eq_some_iff.1 hF).1).trans hF
    simp only [Instr.loadAt, Instr.sureAddr, Sem.run_bind, Sem.run_pure, Result.andThen_ok, run_loadVar_row x.w w.heap.size 47 47 (cellsF g) (0, 0) _ h under47 rfl (by rw [cellsF_size]; exact size47)]
  refine wp_region_since (by kernel_rfl) (by kernel_rfl) ?_
  (go_big_quiet_want; refine quiet_load 47 _ rfl _ _ rfl hld ?_; simp only [Act.put, List.setIfInBounds_toArray, List.set]; go_big_quiet_on)
  go_big_quiet_step (fail)
  go_big_quiet_step ((go_at_call 17; exact since_call (hof _ h0 h1)))
  go_big_quiet_step ((go_at_call 54; exact since_call (hat _)))
  go_big_quiet_step (fail)
  refine wpQuiet_nil ?_
  rintro _ ⟨x, rfl⟩
  have hBx := hB.trans (x.h.mono hB.size)
  go_wp2_with fail
  go_ret
  exact ⟨rfl, hBx⟩
/-- on a right spec the document's Match is the program's -/
theorem match_ref (S : Nat → Nat) (A : Nat → Bool) (hk : okS S A = true) (n : Int) (h0 : 0 ≤ n) (h1 : n < 2147483648) :
    atM (refG S A) (mM n).toNat (dM n).toNat (hM n).toNat (iM n).toNat (kM n).toNat = matchM S A n := by
  obtain ⟨-, -, b1, b2, b3, b4, b5, b6, b7, b8, b9, b10⟩ := dateBd n h0 h1
  rw [atM_ref S A _ _ _ _ _ (by omega) (by omega) (by omega) (by omega) (by omega)]
  simp [matchM, hk, h0, h1]
end Go.Proofs.YtgiclhkoajbgpaaDoor
