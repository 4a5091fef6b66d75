/-
  cron: until, Next.
-/
import Derived.Test.YtgiclhkoajbgpaaDoorDh
namespace Go.Proofs.YtgiclhkoajbgpaaDoor
open Go.RowKit

/-- a spec in the first block behind w, a date in another one -/
structure Two (w W : World) (b : Nat) (S : Nat → Nat) (A : Nat → Bool) (y m d h i k : Int) : Prop where
  bel : Below (w.heap.size + 1) (w.alloc (.cells (specA S A) 41)) W
  dt : W.heap[b]? = some (.cells #[.int .i64 y, .int .i64 m, .int .i64 d, .int .i64 h, .int .i64 i, .int .i64 k] 23 (0, 0))
theorem below_old {w W : World} {S : Nat → Nat} {A : Nat → Bool} (h : Below (w.heap.size + 1) (w.alloc (.cells (specA S A) 41)) W) : Below w.heap.size w W :=
  ((Below.refl _ _).alloc (Nat.le_refl _) _).trans (h.mono (by omega))
theorem below_spec {w W : World} {S : Nat → Nat} {A : Nat → Bool} (h : Below (w.heap.size + 1) (w.alloc (.cells (specA S A) 41)) W) : W.heap[w.heap.size]? = some (.cells (specA S A) 41 (0, 0)) :=
  (h.block w.heap.size (by omega)).trans (World.alloc_heap_new w (.cells (specA S A) 41))
theorem below_lt {w W : World} {S : Nat → Nat} {A : Nat → Bool} (h : Below (w.heap.size + 1) (w.alloc (.cells (specA S A) 41)) W) : w.heap.size < W.heap.size := by
  have := h.size; simp at this; omega
theorem Two.step {w W W' : World} {b : Nat} {S : Nat → Nat} {A : Nat → Bool} {y m d h i k : Int} (x : Two w W b S A y m d h i k) (hb : Below W.heap.size W W') : Two w W' b S A y m d h i k :=
  ⟨x.bel.trans (hb.mono (below_lt x.bel)), (hb.block b (Array.getElem?_eq_some_iff.1 x.dt).1).trans x.dt⟩
theorem Two.new {w W : World} {S : Nat → Nat} {A : Nat → Bool} (hb : Below (w.heap.size + 1) (w.alloc (.cells (specA S A) 41)) W) (y m d h i k : Int) :
    Two w (W.alloc (.cells #[.int .i64 y, .int .i64 m, .int .i64 d, .int .i64 h, .int .i64 i, .int .i64 k] 23)) W.heap.size S A y m d h i k :=
  ⟨hb.alloc (below_lt hb) _, World.alloc_heap_new _ _⟩

/-- what until tells -/
def UntilIs (S : Nat → Nat) (A : Nat → Bool) (after last r : Int) (ok : Bool) : Prop :=
  (ok = true ∧ max after (-1) < r ∧ r ≤ last ∧ matchM S A r = true ∧ ∀ j, max after (-1) < j → j < r → matchM S A j = false) ∨
  (ok = false ∧ r = 0 ∧ ∀ j, max after (-1) < j → j ≤ last → matchM S A j = false)

def UntilRet (S : Nat → Nat) (A : Nat → Bool) (after last : Int) (e : Ending) : Prop := ∃ r ok, e = .returned (.tuple #[.int .i64 r, .bool ok]) ∧ UntilIs S A after last r ok

theorem match_day (S : Nat → Nat) (A : Nat → Bool) (hk : okS S A = true) (d j : Int) (hd : 0 ≤ d) (h0 : 0 ≤ j) (h1 : j < 1440) (h2 : d * 1440 + j < 2147483648) :
    matchM S A (d * 1440 + j) = (dayM S A (mM (d * 1440)).toNat (dM (d * 1440)).toNat (kM (d * 1440)).toNat && hitM S j) := by
  have e1 : (d * 1440 + j) / 1440 = d := by omega
  have e2 : d * 1440 / 1440 = d := by omega
  have e3 : (d * 1440 + j) % 1440 = j := by omega
  have e4 : (0 ≤ d * 1440 + j ∧ d * 1440 + j < 2147483648) := by omega
  simp only [matchM, hitM, mM, dM, kM, hM, iM, e1, e2, e3, hk, decide_eq_true e4, Bool.true_and]
theorem month_same (d e : Int) (hd : 0 ≤ d) (h0 : d ≤ e) (h1 : e ≤ d + (Cal.dim (Cal.yOf d) (Cal.mOf d) - Cal.dOf d)) : Cal.mOf e = Cal.mOf d := by
  obtain ⟨a1, a2, a3, a4, a5, a6⟩ := Cal.isDay d hd
  exact (Cal.of_isDay (day := e) (y := Cal.yOf d) (m := Cal.mOf d) (d := Cal.dOf d + (e - d)) ⟨a1, a2, a3, by omega, by omega, by omega⟩).2.1
theorem day_month {S : Nat → Nat} {A : Nat → Bool} {m d k : Nat} (h : (S 3).testBit m = false) : dayM S A m d k = false := by simp [dayM, h]
theorem match_no {S : Nat → Nat} {A : Nat → Bool} {n : Int} (h : okS S A = false) : matchM S A n = false := by simp [matchM, h]

set_option maxRecDepth 100000 in
set_option maxHeartbeats 2000000 in
theorem until_no (S : Nat → Nat) (A : Nat → Bool) (hS : ∀ i, i < 5 → S i < 2 ^ 64) (after last : Int) (w : World) (hB : BoundsIs w) (h : okS S A = false ∨ last ≤ after) :
    Calls Tryd.prog 55 #[specV S A, .int .i64 after, .int .i64 last] w fun e w' => UntilRet S A after last e ∧ Below w.heap.size w w' := by
  have hu : UntilIs S A after last 0 false := by
    refine .inr ⟨rfl, rfl, fun j h1 h2 => ?_⟩
    rcases h with h | h
    · exact match_no h
    · omega
  go_enter Tryd.func55, Tryd.ntmps55
  have hb0 : Below (w.heap.size + 1) (w.alloc (.cells (specA S A) 41)) (w.alloc (.cells (specA S A) 41)) := Below.refl _ _
  obtain ⟨q0, q1, q2, q3, q4, q5, q6, q7, q8, q9, -, -, -, -, -, -, -, -, -, -⟩ := cells10 (below_spec hb0)
  have hBd := hB.below (below_old hb0)
  cases hk : okS S A
  · go_wp2_with (go_at_call 28; refine (check_no S A hS hk _ hBd).mono ?_; rintro e W ⟨rfl, hb⟩)
    go_ret2
    exact ⟨⟨0, false, rfl, hu⟩, below_old (hb0.trans (hb.mono (below_lt hb0)))⟩
  · have ha : last ≤ after := by rcases h with h | h; · rw [hk] at h; cases h
                                 · exact h
    go_wp2_with (go_at_call 28; refine (check_yes S A hS hk _ hBd).mono ?_; rintro e W ⟨rfl, hb⟩)
    go_ret2
    exact ⟨⟨0, false, rfl, hu⟩, below_old (hb0.trans (hb.mono (below_lt hb0)))⟩

set_option maxRecDepth 100000 in
set_option maxHeartbeats 2000000 in
theorem until_go (S : Nat → Nat) (A : Nat → Bool) (hS : ∀ i, i < 5 → S i < 2 ^ 64) (after last : Int) (hl : last < 2147483648) (w : World) (hL : LensIs w) (hB : BoundsIs w) (hk : okS S A = true) (ha : after < last) :
    Calls Tryd.prog 55 #[specV S A, .int .i64 after, .int .i64 last] w fun e w' => UntilRet S A after last e ∧ Below w.heap.size w w' := by
  go_enter Tryd.func55, Tryd.ntmps55
  have hb0 : Below (w.heap.size + 1) (w.alloc (.cells (specA S A) 41)) (w.alloc (.cells (specA S A) 41)) := Below.refl _ _
  obtain ⟨q0, q1, q2, q3, q4, q5, q6, q7, q8, q9, -, -, -, -, -, -, -, -, -, -⟩ := cells10 (below_spec hb0)
  have hBd := hB.below (below_old hb0)
  go_wp2_with (go_at_call 28; refine (check_yes S A hS hk _ hBd).mono ?_; rintro e W ⟨rfl, hb⟩)
  have hb1 := hb0.trans (hb.mono (below_lt hb0))
  clear q0 q1 q2 q3 q4 q5 q6 q7 q8 q9 hBd hb hb0
  have hMm : -1 ≤ max after (-1) := Int.le_max_right _ _
  have hMm2 : max after (-1) < 2147483648 := by omega
  have hu0 : (∀ j, max after (-1) < j → j ≤ last → matchM S A j = false) → UntilIs S A after last 0 false := fun h => .inr ⟨rfl, rfl, h⟩
  have hu1 : ∀ r, max after (-1) < r → r ≤ last → matchM S A r = true → (∀ j, max after (-1) < j → j < r → matchM S A j = false) → UntilIs S A after last r true := fun r h1 h2 h3 h4 => .inl ⟨rfl, h1, h2, h3, h4⟩
  generalize max after (-1) = M at *
  go_loopw [9, 10, 29, 30, 31, 32] (fun x9 x10 x29 x30 x31 x32 wr => ∃ f d : Int, 0 ≤ f ∧ f < 1440 ∧ 0 ≤ d ∧ x9 = .int .i64 f ∧ x10 = .int .i64 d ∧ d ≤ 1500000 ∧ M < d * 1440 + f ∧ Below (w.heap.size + 1) (w.alloc (.cells (specA S A) 41)) wr ∧ ∀ j, M < j → j < d * 1440 + f → j ≤ last → matchM S A j = false)
    (fun x9 x10 x29 x30 x31 x32 wr => 2000000 - (intOf x10).toNat)
  case atStart => exact ⟨(M + 1) % 1440, (M + 1) / 1440, by omega, by omega, by omega, rfl, rfl, by omega, by omega, hb1, fun j h1 h2 => by omega⟩
  case round =>
    clear hb1
    obtain ⟨f, d, hf0, hf1, hd0, rfl, rfl, hd1, hMd, hb, hno⟩ := hrel
    by_cases hle : d * 1440 ≤ last
    · obtain ⟨b1, b1', b3, b4, b5, b6, b7, b8, b9, b10, b11, b12⟩ := dateBd (d * 1440) (by omega) (by omega)
      have hmd := fun j h0 h1 h2 => match_day S A hk d j hd0 h0 h1 h2
      obtain ⟨-, -, -, -, i5, -⟩ := Cal.isDay d hd0
      have ed : d * 1440 / 1440 = d := by omega
      have hdim : dM (d * 1440) ≤ Cal.dim (yM (d * 1440)) (mM (d * 1440)) ∧ Cal.dim (yM (d * 1440)) (mM (d * 1440)) ≤ 31 := ⟨by simpa only [yM, mM, dM, ed] using i5, (Cal.dim_le _ _).2⟩
      have hmon : (S 3).testBit (mM (d * 1440)).toNat = false → ∀ j, d * 1440 ≤ j → j < (d + (Cal.dim (yM (d * 1440)) (mM (d * 1440)) - dM (d * 1440)) + 1) * 1440 → j ≤ last → matchM S A j = false := fun h j h0 h1 h2 => by
        have e1 : j = j / 1440 * 1440 + j % 1440 := by omega
        rw [e1, match_day S A hk (j / 1440) (j % 1440) (by omega) (by omega) (by omega) (by omega)]
        have e2 : mM (j / 1440 * 1440) = mM (d * 1440) := by
          have e3 : j / 1440 * 1440 / 1440 = j / 1440 := by omega
          simp only [mM, ed, e3]
          refine month_same d (j / 1440) hd0 (by omega) ?_
          simp only [yM, mM, dM, ed] at h1
          omega
        rw [e2, day_month h, Bool.false_and]
      have hday := day_int S A hS (yM (d * 1440)) (mM (d * 1440)) (dM (d * 1440)) (hM (d * 1440)) (iM (d * 1440)) (kM (d * 1440)) (by omega) (by omega) (by omega)
      have hLr := hL.below (below_old hb) (by have := lens_pos hL; omega)
      have hof := of_ok (d * 1440) _ hLr (by omega) (by omega)
      clear i5 ed
      generalize dayM S A (mM (d * 1440)).toNat (dM (d * 1440)).toNat (kM (d * 1440)).toNat = D at *
      generalize yM (d * 1440) = y at *
      generalize mM (d * 1440) = m at *
      generalize dM (d * 1440) = dd at *
      generalize YtgiclhkoajbgpaaDoor.hM (d * 1440) = h at *
      generalize iM (d * 1440) = i at *
      generalize kM (d * 1440) = k at *
      cases ht3 : (S 3).testBit m.toNat
      · go_wp2_with (first
          | (go_at_call 13; refine hof.mono ?_; rintro e W1 ⟨rfl, hb1⟩
             have two := Two.new (hb.trans (hb1.mono (below_lt hb))) y m dd h i k
             obtain ⟨q0, q1, q2, q3, q4, q5, q6, q7, q8, q9, -, -, -, -, -, -, -, -, -, -⟩ := cells10 (below_spec two.bel)
             obtain ⟨e0, e1, e2, e3, e4, e5⟩ := cells6 two.dt)
          | (go_at_call 53; refine (has_int (A := A) hS _ _ (by decide) (by omega) _).mono ?_; rintro e W2 ⟨rfl, hb2⟩
             simp only [Int.reduceToNat, ht3]
             have two := two.step hb2
             obtain ⟨e0, e1, e2, e3, e4, e5⟩ := cells6 two.dt))
        have s0 := since_cell e0
        have s1 := since_cell e1
        have s2 := since_cell e2
        have hLw := hL.below (below_old two.bel) (by have := lens_pos hL; omega)
        have hdays : ∀ x : Since W2, Calls Tryd.prog 40 #[.int .i64 y, .int .i64 m] x.w fun e w' => e = .returned (.int .i64 (Cal.dim y m)) ∧ x.w = w' := fun x =>
          days_any y m _ (hLw.below x.h (by have := lens_pos hLw; omega)) (by omega)
        clear q0 q1 q2 q3 q4 q5 q6 q7 q8 q9 e0 e1 e2 e3 e4 e5
        refine wp_region_since (by kernel_rfl) (by kernel_rfl) ?_
        repeat go_big_quiet_step ((go_at_call 40; exact since_same (hdays _)))
        refine wpQuiet_nil ?_
        rintro _ ⟨x, rfl⟩
        go_wp2_with fail
        go_roundw
        case rel => exact ⟨0, d + (Cal.dim y m - dd) + 1, by omega, by omega, by omega, rfl, rfl, by omega, by omega, (two.step x.h).bel, fun j h1 h2 h3 => if e : j < d * 1440 + f then hno j h1 e h3 else hmon ht3 j (by omega) (by omega) h3⟩
        case measure => simp [intOf]; omega
      · have hnd : ∀ j, j < (d + 1) * 1440 → M < j → j ≤ last → (∀ t, f ≤ t → t < 1440 → (D && hitM S t) = false) → matchM S A j = false := fun j h1 h2 h3 h4 => by
          by_cases e : j < d * 1440 + f
          · exact hno j h2 e h3
          · have e1 : j = d * 1440 + (j - d * 1440) := by omega
            rw [e1, hmd (j - d * 1440) (by omega) (by omega) (by omega)]
            exact h4 _ (by omega) (by omega)
        cases D
        · go_wp2_with (first
            | (go_at_call 13; refine hof.mono ?_; rintro e W1 ⟨rfl, hb1⟩
               have two := Two.new (hb.trans (hb1.mono (below_lt hb))) y m dd h i k
               obtain ⟨q0, q1, q2, q3, q4, q5, q6, q7, q8, q9, -, -, -, -, -, -, -, -, -, -⟩ := cells10 (below_spec two.bel)
               obtain ⟨e0, e1, e2, e3, e4, e5⟩ := cells6 two.dt)
            | (go_at_call 53; refine (has_int (A := A) hS _ _ (by decide) (by omega) _).mono ?_; rintro e W2 ⟨rfl, hb2⟩
               simp only [Int.reduceToNat, ht3]
               have two := two.step hb2
               obtain ⟨q0, q1, q2, q3, q4, q5, q6, q7, q8, q9, -, -, -, -, -, -, -, -, -, -⟩ := cells10 (below_spec two.bel)
               obtain ⟨e0, e1, e2, e3, e4, e5⟩ := cells6 two.dt)
            | (go_at_call 52; refine (hday _).mono ?_; rintro e W3 ⟨rfl, hb3⟩
               have two := two.step hb3))
          go_roundw
          case rel => exact ⟨0, d + 1, by omega, by omega, by omega, rfl, rfl, by omega, by omega, two.bel, fun j h1 h2 h3 => hnd j (by omega) h1 h3 fun t _ _ => rfl⟩
          case measure => simp [intOf]; omega
        · go_wp2_with (first
            | (go_at_call 13; refine hof.mono ?_; rintro e W1 ⟨rfl, hb1⟩
               have two := Two.new (hb.trans (hb1.mono (below_lt hb))) y m dd h i k
               obtain ⟨q0, q1, q2, q3, q4, q5, q6, q7, q8, q9, -, -, -, -, -, -, -, -, -, -⟩ := cells10 (below_spec two.bel)
               obtain ⟨e0, e1, e2, e3, e4, e5⟩ := cells6 two.dt)
            | (go_at_call 53; refine (has_int (A := A) hS _ _ (by decide) (by omega) _).mono ?_; rintro e W2 ⟨rfl, hb2⟩
               simp only [Int.reduceToNat, ht3]
               have two := two.step hb2
               obtain ⟨q0, q1, q2, q3, q4, q5, q6, q7, q8, q9, -, -, -, -, -, -, -, -, -, -⟩ := cells10 (below_spec two.bel)
               obtain ⟨e0, e1, e2, e3, e4, e5⟩ := cells6 two.dt)
            | (go_at_call 52; refine (hday _).mono ?_; rintro e W3 ⟨rfl, hb3⟩
               have two := two.step hb3
               obtain ⟨q0, q1, q2, q3, q4, q5, q6, q7, q8, q9, -, -, -, -, -, -, -, -, -, -⟩ := cells10 (below_spec two.bel)))
          refine (within_any S A hS f hf0 hf1 _).mono ?_
          rintro e W4 ⟨⟨r, rfl, hr⟩, hb4⟩
          have two := two.step hb4
          rcases hr with ⟨rfl, hr⟩ | ⟨r0, r1, r2, r3⟩
          · go_wp2_with fail
            go_roundw
            case rel => exact ⟨0, d + 1, by omega, by omega, by omega, rfl, rfl, by omega, by omega, two.bel, fun j h1 h2 h3 => hnd j (by omega) h1 h3 fun t h4 h5 => by rw [hr t h4 h5]; rfl⟩
            case measure => simp [intOf]; omega
          · have g0 : (0 ≤ r) = True := eq_true (by omega)
            by_cases hrl : d * 1440 + r ≤ last
            · go_wp2_with fail
              go_ret2
              refine ⟨⟨d * 1440 + r, true, rfl, hu1 _ (by omega) hrl (by rw [hmd r (by omega) r1 (by omega), r2]; rfl) fun j h1 h2 => ?_⟩, below_old two.bel⟩
              by_cases e : j < d * 1440 + f
              · exact hno j h1 e (by omega)
              · have e1 : j = d * 1440 + (j - d * 1440) := by omega
                rw [e1, hmd (j - d * 1440) (by omega) (by omega) (by omega), r3 _ (by omega) (by omega)]; rfl
            · go_wp2_with fail
              go_roundw
              case rel =>
                refine ⟨0, d + 1, by omega, by omega, by omega, rfl, rfl, by omega, by omega, two.bel, fun j h1 h2 h3 => ?_⟩
                by_cases e : j < d * 1440 + f
                · exact hno j h1 e (by omega)
                · have e1 : j = d * 1440 + (j - d * 1440) := by omega
                  rw [e1, hmd (j - d * 1440) (by omega) (by omega) (by omega), r3 _ (by omega) (by omega)]; rfl
              case measure => simp [intOf]; omega
    · go_wp2_with fail
      go_ret2
      exact ⟨⟨0, false, rfl, hu0 fun j h1 h2 => hno j h1 (by omega) h2⟩, below_old hb⟩

theorem until_any (S : Nat → Nat) (A : Nat → Bool) (hS : ∀ i, i < 5 → S i < 2 ^ 64) (after last : Int) (hl : last < 2147483648) (w : World) (hL : LensIs w) (hB : BoundsIs w) :
    Calls Tryd.prog 55 #[specV S A, .int .i64 after, .int .i64 last] w fun e w' => UntilRet S A after last e ∧ Below w.heap.size w w' := by
  by_cases h : okS S A = true ∧ after < last
  · exact until_go S A hS after last hl w hL hB h.1 h.2
  · refine until_no S A hS after last w hB ?_
    cases hk : okS S A
    · exact .inl rfl
    · exact .inr (Int.not_lt.1 fun x => h ⟨hk, x⟩)
theorem next_any (S : Nat → Nat) (A : Nat → Bool) (hS : ∀ i, i < 5 → S i < 2 ^ 64) (after : Int) (w : World) (hL : LensIs w) (hB : BoundsIs w) :
    Calls Tryd.prog 31 #[specV S A, .int .i64 after] w fun e w' => UntilRet S A after 2147483647 e ∧ Below w.heap.size w w' := by
  go_enter Tryd.func31, Tryd.ntmps31
  have hb0 : Below (w.heap.size + 1) (w.alloc (.cells (specA S A) 41)) (w.alloc (.cells (specA S A) 41)) := Below.refl _ _
  obtain ⟨q0, q1, q2, q3, q4, q5, q6, q7, q8, q9, -, -, -, -, -, -, -, -, -, -⟩ := cells10 (below_spec hb0)
  have hLw := hL.alloc (.cells (specA S A) 41)
  have hBw := hB.below (below_old hb0)
  go_wp2_with fail
  refine (until_any S A hS after 2147483647 (by decide) _ hLw hBw).mono ?_
  rintro e W ⟨⟨r, ok, rfl, hu⟩, hb⟩
  go_wp2_with fail
  go_ret2
  exact ⟨⟨r, ok, rfl, hu⟩, below_old (hb0.trans (hb.mono (below_lt hb0)))⟩
end Go.Proofs.YtgiclhkoajbgpaaDoor
