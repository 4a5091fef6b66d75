/-
  cron: Between.
-/
import Derived.Test.YtgiclhkoajbgpaaDoorEe
import Derived.OwnWalk
import Derived.Deep.Onto
namespace Go.Proofs.YtgiclhkoajbgpaaDoor
open Go.RowKit

/-- the minutes that match, behind one up to another one, rising -/
noncomputable def hitsL (S : Nat → Nat) (A : Nat → Bool) (lo hi : Int) : List Int := ((List.range (hi - lo).toNat).map fun i : Nat => lo + 1 + (i : Int)).filter (matchM S A)
theorem hits_append (S : Nat → Nat) (A : Nat → Bool) (lo mid hi : Int) (h1 : lo ≤ mid) (h2 : mid ≤ hi) : hitsL S A lo hi = hitsL S A lo mid ++ hitsL S A mid hi := by
  unfold hitsL
  rw [← List.filter_append]
  congr 1
  have e : (hi - lo).toNat = (mid - lo).toNat + (hi - mid).toNat := by omega
  rw [e, List.range_add, List.map_append, List.map_map]
  congr 1
  apply List.map_congr_left
  intro i _
  simp only [Function.comp_apply]
  omega
theorem hits_none (S : Nat → Nat) (A : Nat → Bool) (lo hi : Int) (h : ∀ j, lo < j → j ≤ hi → matchM S A j = false) : hitsL S A lo hi = [] := by
  unfold hitsL
  rw [List.filter_eq_nil_iff]
  intro x hx
  obtain ⟨i, hi, rfl⟩ := List.mem_map.1 hx
  rw [List.mem_range] at hi
  rw [h _ (by omega) (by omega)]
  simp
theorem hits_one (S : Nat → Nat) (A : Nat → Bool) (m : Int) : hitsL S A (m - 1) m = if matchM S A m = true then [m] else [] := by
  unfold hitsL
  have e : (m - (m - 1)).toNat = 1 := by omega
  have e2 : m - 1 + 1 + ((0 : Nat) : Int) = m := by omega
  rw [e, show List.range 1 = [0] from rfl, List.map_cons, List.map_nil, e2]
  cases h : matchM S A m <;> simp [h]
theorem hits_next (S : Nat → Nat) (A : Nat → Bool) (lo at_ m : Int) (h0 : lo ≤ at_) (h1 : at_ < m) (hm : matchM S A m = true) (hno : ∀ j, at_ < j → j < m → matchM S A j = false) : hitsL S A lo m = hitsL S A lo at_ ++ [m] := by
  rw [hits_append S A lo at_ m h0 (by omega), hits_append S A at_ (m - 1) m (by omega) (by omega), hits_one, hits_none S A at_ (m - 1) (fun j a b => hno j a (by omega)), if_pos hm]
  rfl
theorem hits_last (S : Nat → Nat) (A : Nat → Bool) (lo at_ hi : Int) (h0 : lo ≤ at_) (h1 : at_ ≤ hi) (hno : ∀ j, at_ < j → j ≤ hi → matchM S A j = false) : hitsL S A lo hi = hitsL S A lo at_ := by
  rw [hits_append S A lo at_ hi h0 h1, hits_none S A at_ hi hno, List.append_nil]
theorem hits_le (S : Nat → Nat) (A : Nat → Bool) (lo hi : Int) : (hitsL S A lo hi).length ≤ (hi - lo).toNat := by
  unfold hitsL
  exact Nat.le_trans (List.length_filter_le _ _) (by simp)

/-- does Between tell minutes? -/
noncomputable def betOk (S : Nat → Nat) (A : Nat → Bool) (lo hi : Int) : Bool :=
  okS S A && (decide (lo ≤ hi) && (decide (-1 ≤ lo) && (decide (0 ≤ hi) && (decide (hi < 2147483648) && decide ((hitsL S A lo hi).length ≤ 10000)))))
/-- Between's error -/
noncomputable def betE (S : Nat → Nat) (A : Nat → Bool) (lo hi : Int) : Int := if betOk S A lo hi = true then 0 else 30
/-- the minutes that Between tells -/
noncomputable def betL (S : Nat → Nat) (A : Nat → Bool) (lo hi : Int) : List Int := if betOk S A lo hi = true then hitsL S A lo hi else []
/-- a row of ints of one's own -/
def OwnInts (W : World) (base : Nat) (v : Value) (xs : List Int) : Prop := W.ownsRow base 3 1 v xs.length (xs.map (Value.int .i64))
theorem OwnInts.below {W W' : World} {base : Nat} {v : Value} {xs : List Int} (h : OwnInts W base v xs) (hb : Below W.heap.size W W') : OwnInts W' base v xs :=
  World.ownsRow.kept h (row := none) ⟨hb.os, hb.tape, hb.output, hb.size, fun k hk _ => hb.block k hk⟩ (by cases v.ownBlock <;> simp)
theorem own_form {W : World} {base : Nat} {v : Value} {xs : List Int} (h : OwnInts W base v xs) : ∃ a c, v = .slice a xs.length c := by
  rcases h.2 with ⟨rfl, h0⟩ | ⟨g, cap, _, rfl, _⟩
  · exact ⟨none, 0, by rw [h0]⟩
  · exact ⟨_, _, rfl⟩
theorem info3 : (Tryd.prog.info? 3).map (fun i => (i.zero, i.size, i.bytes)) = some (some (.int .i64 0), 1, 8) := by kernel_rfl
theorem info3e : ∃ i, Tryd.prog.info? 3 = some i ∧ i.zero = some (.int .i64 0) ∧ i.size = 1 ∧ i.bytes = 8 := by
  have h := info3
  cases e : Tryd.prog.info? 3 with
  | none => rw [e] at h; cases h
  | some i => rw [e] at h; simp at h; exact ⟨i, rfl, h.1, h.2.1, h.2.2⟩
def BetRet (S : Nat → Nat) (A : Nat → Bool) (lo hi : Int) (base : Nat) (e : Ending) (W : World) : Prop := ∃ v, e = .returned (.tuple #[v, .int .i64 (betE S A lo hi)]) ∧ OwnInts W base v (betL S A lo hi)

set_option maxRecDepth 100000 in
set_option maxHeartbeats 2000000 in
theorem between_no (S : Nat → Nat) (A : Nat → Bool) (hS : ∀ i, i < 5 → S i < 2 ^ 64) (lo hi : Int) (w : World) (hB : BoundsIs w) (h : ¬ (okS S A = true ∧ lo ≤ hi ∧ -1 ≤ lo ∧ 0 ≤ hi ∧ hi < 2147483648)) :
    Calls Tryd.prog 32 #[specV S A, .int .i64 lo, .int .i64 hi] w fun e w' => BetRet S A lo hi w.heap.size e w' ∧ Below w.heap.size w w' := by
  have hno : betOk S A lo hi = false := by
    cases hb : betOk S A lo hi
    · rfl
    · simp only [betOk, Bool.and_eq_true, decide_eq_true_eq] at hb
      exact absurd ⟨hb.1, hb.2.1, hb.2.2.1, hb.2.2.2.1, hb.2.2.2.2.1⟩ h
  have hE : betE S A lo hi = 30 := by simp [betE, hno]
  have hLn : betL S A lo hi = [] := by simp [betL, hno]
  have hend : ∀ W, Below (w.heap.size + 1) (w.alloc (.cells (specA S A) 41)) W → BetRet S A lo hi w.heap.size (.returned (.tuple #[.slice none 0 0, .int .i64 30])) W ∧ Below w.heap.size w W := fun W hb =>
    ⟨⟨.slice none 0 0, by rw [hE], by rw [hLn]; exact World.ownsRow_nil _ _ _ _⟩, below_old hb⟩
  have hb0 : Below (w.heap.size + 1) (w.alloc (.cells (specA S A) 41)) (w.alloc (.cells (specA S A) 41)) := Below.refl _ _
  obtain ⟨q0, q1, q2, q3, q4, q5, q6, q7, q8, q9, -, -, -, -, -, -, -, -, -, -⟩ := cells10 (below_spec hb0)
  have hBw := hB.below (below_old hb0)
  clear hno hE hLn
  go_enter Tryd.func32, Tryd.ntmps32
  cases hk : okS S A
  · go_wp2_with (go_at_call 28; refine (check_no S A hS hk _ hBw).mono ?_; rintro e W ⟨rfl, hb⟩)
    go_ret2
    exact hend _ (hb0.trans (hb.mono (below_lt hb0)))
  · by_cases c1 : lo ≤ hi
    · by_cases c2 : -1 ≤ lo
      · by_cases c3 : 0 ≤ hi
        · have c4 : ¬ hi < 2147483648 := fun c4 => h ⟨hk, c1, c2, c3, c4⟩
          clear h
          go_wp2_with (go_at_call 28; refine (check_yes S A hS hk _ hBw).mono ?_; rintro e W ⟨rfl, hb⟩)
          go_ret2
          exact hend _ (hb0.trans (hb.mono (below_lt hb0)))
        · clear h
          go_wp2_with (go_at_call 28; refine (check_yes S A hS hk _ hBw).mono ?_; rintro e W ⟨rfl, hb⟩)
          go_ret2
          exact hend _ (hb0.trans (hb.mono (below_lt hb0)))
      · clear h
        go_wp2_with (go_at_call 28; refine (check_yes S A hS hk _ hBw).mono ?_; rintro e W ⟨rfl, hb⟩)
        go_ret2
        exact hend _ (hb0.trans (hb.mono (below_lt hb0)))
    · clear h
      go_wp2_with (go_at_call 28; refine (check_yes S A hS hk _ hBw).mono ?_; rintro e W ⟨rfl, hb⟩)
      go_ret2
      exact hend _ (hb0.trans (hb.mono (below_lt hb0)))

set_option maxRecDepth 100000 in
set_option maxHeartbeats 2000000 in
theorem between_go (S : Nat → Nat) (A : Nat → Bool) (hS : ∀ i, i < 5 → S i < 2 ^ 64) (lo hi : Int) (w : World) (hL : LensIs w) (hB : BoundsIs w) (hk : okS S A = true) (c1 : lo ≤ hi) (c2 : -1 ≤ lo) (c3 : 0 ≤ hi) (c4 : hi < 2147483648) :
    Calls Tryd.prog 32 #[specV S A, .int .i64 lo, .int .i64 hi] w fun e w' => BetRet S A lo hi w.heap.size e w' ∧ Below w.heap.size w w' := by
  have hbo : betOk S A lo hi = decide ((hitsL S A lo hi).length ≤ 10000) := by
    simp only [betOk, hk, decide_eq_true c1, decide_eq_true c2, decide_eq_true c3, decide_eq_true c4, Bool.true_and]
  have hfull : 10000 < (hitsL S A lo hi).length → ∀ W, Below (w.heap.size + 1) (w.alloc (.cells (specA S A) 41)) W → BetRet S A lo hi w.heap.size (.returned (.tuple #[.slice none 0 0, .int .i64 30])) W ∧ Below w.heap.size w W := fun hn W hb => by
    have hno : betOk S A lo hi = false := by rw [hbo]; exact decide_eq_false (by omega)
    exact ⟨⟨.slice none 0 0, by simp [betE, hno], by simp only [betL, hno]; exact World.ownsRow_nil _ _ _ _⟩, below_old hb⟩
  have hend : (hitsL S A lo hi).length ≤ 10000 → ∀ W v, Below (w.heap.size + 1) (w.alloc (.cells (specA S A) 41)) W → OwnInts W (w.heap.size + 1) v (hitsL S A lo hi) → BetRet S A lo hi w.heap.size (.returned (.tuple #[v, .int .i64 0])) W ∧ Below w.heap.size w W := fun hn W v hb ho => by
    have hno : betOk S A lo hi = true := by rw [hbo]; exact decide_eq_true hn
    exact ⟨⟨v, by simp [betE, hno], by simp only [betL, hno, if_true]; exact World.ownsRow.mono ho (by omega)⟩, below_old hb⟩
  have hb0 : Below (w.heap.size + 1) (w.alloc (.cells (specA S A) 41)) (w.alloc (.cells (specA S A) 41)) := Below.refl _ _
  obtain ⟨q0, q1, q2, q3, q4, q5, q6, q7, q8, q9, -, -, -, -, -, -, -, -, -, -⟩ := cells10 (below_spec hb0)
  have hBw := hB.below (below_old hb0)
  obtain ⟨i0, hi0, hz0, hz1, hz2⟩ := info3e
  have HI := Lib.hid hi0
  have HZ := Lib.hid hz0
  clear hi0 hz0
  have HF := Lib.hid hfull
  have HE := Lib.hid hend
  clear hfull hend hbo
  go_enter Tryd.func32, Tryd.ntmps32
  go_wp2_with (go_at_call 28; refine (check_yes S A hS hk _ hBw).mono ?_; rintro e W ⟨rfl, hb⟩)
  have hb1 := hb0.trans (hb.mono (below_lt hb0))
  clear q0 q1 q2 q3 q4 q5 q6 q7 q8 q9 hb hb0 hBw
  go_loopw [8, 9] (fun x8 x9 wr => ∃ (t : Int) (xs : List Int), x9 = .int .i64 t ∧ OwnInts wr (w.heap.size + 1) x8 xs ∧ Below (w.heap.size + 1) (w.alloc (.cells (specA S A) 41)) wr ∧ lo ≤ t ∧ t ≤ hi ∧ xs = hitsL S A lo t ∧ xs.length ≤ 10000)
    (fun x8 x9 wr => (hi - intOf x9).toNat)
  case atStart => exact ⟨lo, [], rfl, World.ownsRow_nil _ _ _ _, hb1, by omega, by omega, (hits_none S A lo lo (fun j a b => by omega)).symm, by simp⟩
  case round =>
    clear hb1
    obtain ⟨t, xs, rfl, hown, hb, h1, h2, hxs, hlen⟩ := hrel
    obtain ⟨q0, q1, q2, q3, q4, q5, q6, q7, q8, q9, -, -, -, -, -, -, -, -, -, -⟩ := cells10 (below_spec hb)
    obtain ⟨hLr, hBr⟩ := (⟨hL.below (below_old hb) (lens_pos hL), hB.below (below_old hb)⟩ : LensIs wr ∧ BoundsIs wr)
    obtain ⟨ao, cap, rfl⟩ := own_form hown
    go_wp2_with fail
    refine (until_any S A hS t hi c4 _ hLr hBr).mono ?_
    rintro e W ⟨⟨r, ok, rfl, hu⟩, hb2⟩
    have hbW := hb.trans (hb2.mono (below_lt hb))
    have hown2 := hown.below hb2
    have hmax : max t (-1) = t := by omega
    clear q0 q1 q2 q3 q4 q5 q6 q7 q8 q9 hLr hBr hb2 hown
    rcases hu with ⟨rfl, u1, u2, u3, u4⟩ | ⟨rfl, rfl, u4⟩ <;> rw [hmax] at *
    · have hnext := hits_next S A lo t r h1 u1 u3 u4
      rw [← hxs] at hnext
      by_cases hfl : xs.length = 10000
      · have hlong : 10000 < (hitsL S A lo hi).length := by
          rw [hits_append S A lo r hi (by omega) u2, hnext]; simp; omega
        clear hnext hxs u3 u4
        go_wp2_with fail
        go_ret2
        exact HF.out hlong _ hbW
      · have hl2 : xs.length < 10000 := by omega
        have HN := Lib.hid hnext
        clear hnext hxs u3 u4
        go_wp2_with (at_builtin; refine wpList_append_own _ rfl _ _ 58 rfl (w.heap.size + 1) 3 i0 (.int .i64 0) 1 8 Tryd.underlying58 HI.out HZ.out hz1 hz2 rfl (by decide) _ _ _ rfl (World.ownsRow.alloc hown2 _) ⟨W.heap.size, 0, none⟩ 1 1 [.int .i64 r] rfl rfl (cell_one_new _ _ _) (by simp [Value.oneCell']) (by unfold maxLen; omega) (by omega) (by have := below_lt hbW; simp; omega) ?_; intro v' w1 hown' hgrow _)
        have hbw1 : Below (w.heap.size + 1) (w.alloc (.cells (specA S A) 41)) w1 := Below.grown (hbW.alloc (below_lt hbW) _) hgrow (by have := below_lt hbW; simp; omega) (fun j hj => (World.ownsRow.lt hown2 _ hj).1)
        have hown3 : OwnInts w1 (w.heap.size + 1) v' (xs ++ [r]) := by simpa [OwnInts] using hown'
        have X : Aside (OwnInts w1 (w.heap.size + 1) v' (xs ++ [r]) ∧ Below (w.heap.size + 1) (w.alloc (.cells (specA S A) 41)) w1) := ⟨hown3, hbw1⟩
        clear hown' hgrow hown3 hbw1 hown2
        go_wp2_with fail
        go_roundw
        case rel => exact ⟨r, xs ++ [r], rfl, X.out.1, X.out.2, by omega, u2, HN.out.symm, by simp; omega⟩
        case measure => simp [intOf]; omega
    · have hlast := hits_last S A lo t hi h1 h2 u4
      rw [← hxs] at hlast
      have HN := Lib.hid hlast
      clear hlast hxs u4
      go_wp2_with fail
      go_ret2
      exact HE.out (by rw [HN.out]; exact hlen) _ _ hbW (by rw [HN.out]; exact hown2)
end Go.Proofs.YtgiclhkoajbgpaaDoor
