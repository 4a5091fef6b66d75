/-
  The walk of the law CronBetween.
-/
import Derived.Test.YtgiclhkoajbgpaaDoorEg
import Derived.Test.YtgiclhkoajbgpaaDoorEh
namespace Go.Proofs.YtgiclhkoajbgpaaDoor
open Go.RowKit

theorem between_any (S : Nat → Nat) (A : Nat → Bool) (hS : ∀ i, i < 5 → S i < 2 ^ 64) (lo hi : Int) (w : World) (hL : LensIs w) (hB : BoundsIs w) :
    Calls Tryd.prog 32 #[specV S A, .int .i64 lo, .int .i64 hi] w fun e w' => BetRet S A lo hi w.heap.size e w' ∧ Below w.heap.size w w' := by
  by_cases h : okS S A = true ∧ lo ≤ hi ∧ -1 ≤ lo ∧ 0 ≤ hi ∧ hi < 2147483648
  · exact between_go S A hS lo hi w hL hB h.1 h.2.1 h.2.2.1 h.2.2.2.1 h.2.2.2.2
  · exact between_no S A hS lo hi w hB h
theorem bet_bad {S : Nat → Nat} {A : Nat → Bool} {lo hi : Int} (h : ¬ (okS S A = true ∧ lo ≤ hi ∧ -1 ≤ lo ∧ 0 ≤ hi ∧ hi < 2147483648)) : betE S A lo hi = 30 ∧ betL S A lo hi = [] := by
  have hno : betOk S A lo hi = false := by
    cases hb : betOk S A lo hi
    · rfl
    · simp only [betOk, Bool.and_eq_true, decide_eq_true_eq] at hb
      exact absurd ⟨hb.1, hb.2.1, hb.2.2.1, hb.2.2.2.1, hb.2.2.2.2.1⟩ h
  exact ⟨by simp [betE, hno], by simp [betL, hno]⟩
theorem bet_or (S : Nat → Nat) (A : Nat → Bool) (lo hi : Int) : (betE S A lo hi = 0 ∧ betL S A lo hi = hitsL S A lo hi) ∨ (betE S A lo hi = 30 ∧ betL S A lo hi = []) := by
  cases hb : betOk S A lo hi
  · exact .inr ⟨by simp [betE, hb], by simp [betL, hb]⟩
  · exact .inl ⟨by simp [betE, hb], by simp [betL, hb]⟩
theorem bet_good {S : Nat → Nat} {A : Nat → Bool} {lo hi : Int} (h : okS S A = true ∧ lo ≤ hi ∧ -1 ≤ lo ∧ 0 ≤ hi ∧ hi < 2147483648) (hn : hi - lo ≤ 9000) : betE S A lo hi = 0 ∧ betL S A lo hi = hitsL S A lo hi := by
  have hle := hits_le S A lo hi
  have hb : betOk S A lo hi = true := by
    simp only [betOk, Bool.and_eq_true, decide_eq_true_eq]
    exact ⟨h.1, h.2.1, h.2.2.1, h.2.2.2.1, h.2.2.2.2, by omega⟩
  exact ⟨by simp [betE, hb], by simp [betL, hb]⟩
theorem own_cell {W : World} {base : Nat} {a : Option Addr} {cap : Nat} {xs : List Int} (h : OwnInts W base (.slice a xs.length cap) xs) (hx : 0 < xs.length) :
    ∃ g, a = some ⟨g, 0, none⟩ ∧ ∀ i x, xs[i]? = some x → W.cell? ⟨g, i, none⟩ = some (.int .i64 x) := by
  rcases h.2 with ⟨h1, h0⟩ | ⟨g, cap', cur, h1, hrest⟩
  · omega
  · cases h1
    refine ⟨g, rfl, fun i x hx => ?_⟩
    have := World.ownsRow.cells h (g := g) rfl i (.int .i64 x) (by simp [hx])
    have hadd : (⟨g, 0, none⟩ : Addr).add i = ⟨g, i, none⟩ := by unfold Addr.add; split <;> simp_all
    rwa [hadd] at this

set_option maxRecDepth 100000 in
set_option maxHeartbeats 4000000 in
theorem lcbetween_any (S : Nat → Nat) (A : Nat → Bool) (hS : ∀ i, i < 5 → S i < 2 ^ 64) (lo hi : Int) (w : World) (hL : LensIs w) (hB : BoundsIs w) :
    Calls Tryd.prog 9 #[specV S A, .int .i64 lo, .int .i64 hi] w fun e w' => e = .returned (.bool true) ∧ Below w.heap.size w w' := by
  have hb0 : Below (w.heap.size + 1) (w.alloc (.cells (specA S A) 41)) (w.alloc (.cells (specA S A) 41)) := Below.refl _ _
  obtain ⟨hLw, hBw⟩ := below_tabs hL hB hb0
  have hz := zero47
  have hrm := refm_any S A
  have hB' := hB
  obtain ⟨q0, q1, q2, q3, q4, q5, q6, q7, q8, q9, -, -, -, -, -, -, -, -, -, -⟩ := cells10 (below_spec hb0)
  go_enter Tryd.func9, Tryd.ntmps9
  go_wp2_with fail
  refine (between_any S A hS lo hi _ hLw hBw).mono ?_
  rintro e W1 ⟨⟨v, rfl, hown⟩, hb1⟩
  have hB1 := hb0.trans (hb1.mono (below_lt hb0))
  obtain ⟨q0, q1, q2, q3, q4, q5, q6, q7, q8, q9, -, -, -, -, -, -, -, -, -, -⟩ := cells10 (below_spec hB1)
  obtain ⟨ao, cap, rfl⟩ := own_form hown
  go_wp2_with fail
  refine (rightS_any S A hS _).mono ?_
  rintro e W2 ⟨rfl, hb2⟩
  have hB2 := hB1.trans (hb2.mono (below_lt hB1))
  have hown2 := hown.below hb2
  clear q0 q1 q2 q3 q4 q5 q6 q7 q8 q9 hb1 hb2 hB1 hLw hBw hb0 hown
  obtain ⟨hL2, hBd2⟩ := below_tabs hL hB hB2
  have haw := cawake_any W2 hL2 hBd2
  have hend : ∀ W3, Below W2.heap.size W2 W3 → Below w.heap.size w W3 := fun W3 hb3 => below_old (hB2.trans (hb3.mono (below_lt hB2)))
  by_cases hgd : okS S A = true ∧ lo ≤ hi ∧ -1 ≤ lo ∧ 0 ≤ hi ∧ hi < 2147483648
  · have hgood := bet_good hgd
    obtain ⟨hk, c1, c2, c3, c4⟩ := hgd
    by_cases c5 : 9000 < hi - lo
    · clear hgood
      rcases bet_or S A lo hi with ⟨hE, -⟩ | ⟨hE, hLn⟩
      · rw [hE, hk]
        clear hown2
        go_wp2_with (go_at_call 23; refine haw.mono ?_; rintro e W3 ⟨rfl, hb3⟩)
        go_ret
        exact ⟨rfl, hend _ hb3⟩
      · rw [hE, hk, hLn]
        clear hown2
        go_wp2_with (go_at_call 23; refine haw.mono ?_; rintro e W3 ⟨rfl, hb3⟩)
        go_ret
        exact ⟨rfl, hend _ hb3⟩
    · obtain ⟨hE, hLn⟩ := hgood (by omega)
      have hrm := hrm hk
      rw [hE, hk]
      generalize betL S A lo hi = L at *
      obtain ⟨q0, q1, q2, q3, q4, q5, q6, q7, q8, q9, -, -, -, -, -, -, -, -, -, -⟩ := cells10 (below_spec hB2)
      have HL := Lib.hid hLn
      have hLb : L.length ≤ 9000 := by rw [hLn]; have := hits_le S A lo hi; omega
      clear hLn haw hE hgood
      go_wp2_with fail
      refine (refL_any S A hS _).mono ?_
      rintro e W5 ⟨rfl, hb5⟩
      have hB5 := hB2.trans (hb5.mono (below_lt hB2))
      have hown5 := hown2.below hb5
      have hst := run_cells47 (World.alloc_heap_new W5 (.cells (cellsF fun _ => false) 47)) (refG S A)
      rw [World.setRow_alloc_new] at hst
      clear q0 q1 q2 q3 q4 q5 q6 q7 q8 q9 hb5 hL2 hBd2 hend hown2
      go_wp2_with fail
      have hF0 := World.alloc_heap_new W5 (.cells (cellsF (refG S A)) 47)
      have hB6 := hB5.alloc (below_lt hB5) (.cells (cellsF (refG S A)) 47)
      have hlt0 : W5.heap.size < (W5.alloc (.cells (cellsF (refG S A)) 47)).heap.size := by simp
      have hown6 : OwnInts (W5.alloc (.cells (cellsF (refG S A)) 47)) _ _ L := World.ownsRow.alloc hown5 _
      clear hst hown5 hB2
      generalize W5.alloc (.cells (cellsF (refG S A)) 47) = W6 at *
      generalize W5.heap.size = X at *
      clear hB5
      go_loopw [10, 11, 71, 72, 73] (fun x10 x11 x71 x72 x73 wr => ∃ (m : Int) (i : Nat), lo < m ∧ m ≤ hi + 1 ∧ x10 = .int .i64 i ∧ x11 = .int .i64 m ∧ i = (hitsL S A lo (m - 1)).length ∧ Below (w.heap.size + 1) (w.alloc (.cells (specA S A) 41)) wr ∧ X < wr.heap.size ∧ wr.heap[X]? = some (.cells (cellsF (refG S A)) 47 (0, 0)) ∧
          OwnInts wr (w.alloc (.cells (specA S A) 41)).heap.size (.slice ao L.length cap) L)
        (fun x10 x11 x71 x72 x73 wr => (hi + 1 - (intOf x11)).toNat)
      case atStart => exact ⟨lo + 1, 0, by omega, by omega, rfl, rfl, by rw [show lo + 1 - 1 = lo by omega, hits_none S A lo lo (fun j a b => by omega)]; rfl, hB6, hlt0, hF0, hown6⟩
      case round =>
        clear hB6 hlt0 hF0 hown6
        obtain ⟨m, i, hm0, hm1, rfl, rfl, hi0, hB, hlt, hF, hown⟩ := hrel
        have HI := Lib.hid hi0
        clear hi0
        by_cases d1 : m ≤ hi
        · have hone := hits_append S A lo (m - 1) m (by omega) (by omega)
          rw [hits_one] at hone
          cases hb : matchM S A m
          · rw [hb] at hone
            have H1 : (hitsL S A lo m).length = i := by rw [hone, HI.out]; simp
            have H2 := Lib.hid H1
            clear H1 hone
            go_wp2_with fail
            refine wp_load47 _ rfl X _ rfl hF ?_
            go_wp2_with fail
            refine (hrm m (by omega) (by omega) false hb _).mono ?_
            rintro e W7 ⟨rfl, hb7⟩
            go_wp2_with fail
            go_roundw
            case rel => exact ⟨m + 1, i, by omega, by omega, rfl, rfl, by rw [show m + 1 - 1 = m by omega, H2.out], hB.trans (hb7.mono (below_lt hB)), Nat.lt_of_lt_of_le hlt hb7.size, (hb7.block X hlt).trans hF, hown.below hb7⟩
            case measure => simp [intOf]; omega
          · rw [hb, if_pos rfl] at hone
            have H1 : (hitsL S A lo m).length = i + 1 := by rw [hone, HI.out]; simp
            have hat : L[i]? = some m := by
              rw [HL.out, hits_append S A lo m hi (by omega) d1, hone, List.append_assoc, List.getElem?_append_right (by rw [HI.out]; exact Nat.le_refl _), ← HI.out]
              simp
            have hiL : i < L.length := (List.getElem?_eq_some_iff.1 hat).1
            obtain ⟨g, rfl, hcell⟩ := own_cell hown (by omega)
            have hc := hcell i m hat
            have hci : ((i : Nat) : Int) < (L.length : Nat) := by omega
            have hi9 : i < 9000 := by omega
            have hci0 : (0 : Int) ≤ (i : Nat) := by omega
            have H2 := Lib.hid H1
            clear H1 hone hat hcell
            go_wp2_with fail
            refine wp_load47 _ rfl X _ rfl hF ?_
            go_wp2_with fail
            refine (hrm m (by omega) (by omega) true hb _).mono ?_
            rintro e W7 ⟨rfl, hb7⟩
            have hc7 : W7.cell? ⟨g, i, none⟩ = some (.int .i64 m) := since_cell hc ⟨W7, hb7⟩
            go_wp2_with fail
            go_roundw
            case rel => exact ⟨m + 1, i + 1, by omega, by omega, by simp, rfl, by rw [show m + 1 - 1 = m by omega, H2.out], hB.trans (hb7.mono (below_lt hB)), Nat.lt_of_lt_of_le hlt hb7.size, (hb7.block X hlt).trans hF, hown.below hb7⟩
            case measure => simp [intOf]; omega
        · have e : m = hi + 1 := by omega
          have hiL : i = L.length := by rw [HI.out, HL.out, e, show hi + 1 - 1 = hi by omega]
          subst hiL
          obtain ⟨hLx, hBx⟩ := below_tabs hL hB' hB
          go_wp2_with fail
          refine (cawake_any _ hLx hBx).mono ?_
          rintro e W8 ⟨rfl, hb8⟩
          go_wp2_with fail
          go_ret
          exact ⟨rfl, below_old (hB.trans (hb8.mono (below_lt hB)))⟩
  · obtain ⟨hE, hLn⟩ := bet_bad hgd
    rw [hE, hLn]
    clear hown2 hL2 hBd2 hE hLn
    cases hk : okS S A
    · clear hgd
      go_wp2_with (go_at_call 23; refine haw.mono ?_; rintro e W3 ⟨rfl, hb3⟩)
      go_ret
      exact ⟨rfl, hend _ hb3⟩
    · by_cases c1 : lo ≤ hi
      · by_cases c2 : -1 ≤ lo
        · by_cases c3 : 0 ≤ hi
          · have c4 : ¬ hi < 2147483648 := fun c4 => hgd ⟨hk, c1, c2, c3, c4⟩
            clear hgd
            go_wp2_with (go_at_call 23; refine haw.mono ?_; rintro e W3 ⟨rfl, hb3⟩)
            go_ret
            exact ⟨rfl, hend _ hb3⟩
          · clear hgd
            go_wp2_with (go_at_call 23; refine haw.mono ?_; rintro e W3 ⟨rfl, hb3⟩)
            go_ret
            exact ⟨rfl, hend _ hb3⟩
        · clear hgd
          go_wp2_with (go_at_call 23; refine haw.mono ?_; rintro e W3 ⟨rfl, hb3⟩)
          go_ret
          exact ⟨rfl, hend _ hb3⟩
      · clear hgd
        go_wp2_with (go_at_call 23; refine haw.mono ?_; rintro e W3 ⟨rfl, hb3⟩)
        go_ret
        exact ⟨rfl, hend _ hb3⟩
end Go.Proofs.YtgiclhkoajbgpaaDoor
