/-
  The walk of the law CronParts.
-/
import Derived.Test.YtgiclhkoajbgpaaDoorEi
import Derived.Laws.AppendOwnNone
namespace Go.Proofs.YtgiclhkoajbgpaaDoor
open Go.RowKit

theorem bet_zero {S : Nat → Nat} {A : Nat → Bool} {lo hi : Int} (h : betE S A lo hi = 0) : lo ≤ hi ∧ betL S A lo hi = hitsL S A lo hi ∧ (hitsL S A lo hi).length ≤ 10000 := by
  cases hb : betOk S A lo hi
  · simp [betE, hb] at h
  · have hb' := hb
    simp only [betOk, Bool.and_eq_true, decide_eq_true_eq] at hb'
    exact ⟨hb'.2.1, by simp [betL, hb], hb'.2.2.2.2.2⟩
theorem bet_e (S : Nat → Nat) (A : Nat → Bool) (lo hi : Int) : betE S A lo hi = 0 ∨ betE S A lo hi = 30 := by
  rcases bet_or S A lo hi with h | h
  · exact .inl h.1
  · exact .inr h.1

/-- ints appended to a row of one's own -/
theorem wpList_append_ints {ops : Array Oper} {rest : List Oper} {o : Oper} {a : Act} {w : World} {Q : Exit → Act → World → Prop} (hgd : o.guard = none) (s x : Operand)
    (ho : o.op = .call { callee := .builtin .append, args := #[s, x], argTypes := #[58, 58] }) (base base3 : Nat) (L2 L3 : List Int) (v2 v3 : Value) (hs : a.eval s = v2) (hx : a.eval x = v3)
    (h2 : OwnInts w base v2 L2) (h3 : OwnInts w base3 v3 L3) (hb : base ≤ w.heap.size) (hl : L2.length + L3.length ≤ 30000)
    (h : ∀ v' w', OwnInts w' base v' (L2 ++ L3) → w.grownBy w' v2.ownBlock → wpList Tryd.prog ops Q rest (a.put o.dst v') w') : wpList Tryd.prog ops Q (o :: rest) a w := by
  obtain ⟨i0, hi0, hz0, hz1, hz2⟩ := info3e
  rcases h3.2 with ⟨rfl, h0⟩ | ⟨g, cap, cur, rfl, hrest⟩
  · have hn : L3 = [] := List.length_eq_zero_iff.1 h0
    subst hn
    refine wpList_append_own_none hgd s x 58 ho base 3 i0 1 Tryd.underlying58 hi0 v2 _ _ hs h2 hx ?_
    exact h v2 w (by simpa using h2) ⟨rfl, rfl, rfl, Nat.le_refl _, fun _ _ _ => rfl⟩
  · refine wpList_append_own w hgd s x 58 ho base 3 i0 (.int .i64 0) 1 8 Tryd.underlying58 hi0 hz0 hz1 hz2 rfl (by decide) v2 _ _ hs h2 ⟨g, 0, none⟩ L3.length cap (L3.map (Value.int .i64)) hx (by simp) (World.ownsRow.cells h3 (g := g) rfl)
      (fun u hu => by obtain ⟨z, _, rfl⟩ := List.mem_map.1 hu; rfl) (by unfold maxLen; omega) (by omega) hb ?_
    intro v' w' h4 h5 _
    exact h v' w' (by unfold OwnInts; rw [List.length_append, List.map_append]; exact h4) h5
theorem cells3t {W : World} {R : Nat} {t : TypeId} {c0 c1 c2 : Value} (h : W.heap[R]? = some (.cells #[c0, c1, c2] t (0, 0))) :
    W.cell? ⟨R, 0, none⟩ = some c0 ∧ W.cell? ⟨R, 1, none⟩ = some c1 ∧ W.cell? ⟨R, 2, none⟩ = some c2 := by
  refine ⟨?_, ?_, ?_⟩ <;> simp [World.cell?, h]

set_option maxRecDepth 100000 in
set_option maxHeartbeats 4000000 in
theorem lcparts_any (S : Nat → Nat) (A : Nat → Bool) (hS : ∀ i, i < 5 → S i < 2 ^ 64) (F M T : Int) (w : World) (hL : LensIs w) (hB : BoundsIs w) :
    Calls Tryd.prog 10 #[specV S A, .agg #[.int .i64 F, .int .i64 M, .int .i64 T]] w fun e w' => e = .returned (.bool true) ∧ Below w.heap.size w w' := by
  have hB' := hB
  go_enter Tryd.func10, Tryd.ntmps10
  go_upto_region 1 with (fail)
  have hb0 : Below (w.heap.size + 1) (w.alloc (.cells (specA S A) 41)) ((w.alloc (.cells (specA S A) 41)).alloc (.cells #[.int .i64 F, .int .i64 M, .int .i64 T] 63)) := (Below.refl _ _).alloc (by simp) _
  have hD0 : ((w.alloc (.cells (specA S A) 41)).alloc (.cells #[.int .i64 F, .int .i64 M, .int .i64 T] 63)).heap[w.heap.size + 1]? = some (.cells #[.int .i64 F, .int .i64 M, .int .i64 T] 63 (0, 0)) := by
    have := World.alloc_heap_new (w.alloc (.cells (specA S A) 41)) (.cells #[.int .i64 F, .int .i64 M, .int .i64 T] 63)
    rwa [World.size_alloc] at this
  generalize (w.alloc (.cells (specA S A) 41)).alloc (.cells #[.int .i64 F, .int .i64 M, .int .i64 T] 63) = W0 at *
  have hl0 : w.heap.size + 1 < W0.heap.size := (Array.getElem?_eq_some_iff.1 hD0).1
  obtain ⟨q0, q1, q2, q3, q4, q5, q6, q7, q8, q9, -, -, -, -, -, -, -, -, -, -⟩ := cells10 (below_spec hb0)
  obtain ⟨e0, e1, e2⟩ := cells3t hD0
  obtain ⟨hLx, hBx⟩ := below_tabs hL hB' hb0
  go_wp2_with fail
  refine (between_any S A hS F T _ hLx hBx).mono ?_
  rintro e W1 ⟨⟨v1, rfl, own1⟩, hb1⟩
  have hB1 := hb0.trans (hb1.mono (below_lt hb0))
  have hD1 := (hb1.block _ hl0).trans hD0
  have hl1 := Nat.lt_of_lt_of_le hl0 hb1.size
  clear q0 q1 q2 q3 q4 q5 q6 q7 q8 q9 e0 e1 e2 hLx hBx hb1 hb0 hD0
  obtain ⟨q0, q1, q2, q3, q4, q5, q6, q7, q8, q9, -, -, -, -, -, -, -, -, -, -⟩ := cells10 (below_spec hB1)
  obtain ⟨e0, e1, e2⟩ := cells3t hD1
  obtain ⟨hLx, hBx⟩ := below_tabs hL hB' hB1
  go_wp2_with fail
  refine (between_any S A hS F M _ hLx hBx).mono ?_
  rintro e W2 ⟨⟨v2, rfl, own2⟩, hb2⟩
  have hB2 := hB1.trans (hb2.mono (below_lt hB1))
  have hD2 := (hb2.block _ hl1).trans hD1
  have hl2 := Nat.lt_of_lt_of_le hl1 hb2.size
  have own1b := own1.below hb2
  have hs12 := hb2.size
  have hlt1 := fun k hk => (World.ownsRow.lt own1 k hk).2
  clear q0 q1 q2 q3 q4 q5 q6 q7 q8 q9 e0 e1 e2 hLx hBx hb2 hB1 hD1 own1
  obtain ⟨q0, q1, q2, q3, q4, q5, q6, q7, q8, q9, -, -, -, -, -, -, -, -, -, -⟩ := cells10 (below_spec hB2)
  obtain ⟨e0, e1, e2⟩ := cells3t hD2
  obtain ⟨hLx, hBx⟩ := below_tabs hL hB' hB2
  go_wp2_with fail
  refine (between_any S A hS M T _ hLx hBx).mono ?_
  rintro e W3 ⟨⟨v3, rfl, own3⟩, hb3⟩
  have hB3 := hB2.trans (hb3.mono (below_lt hB2))
  have own1c := own1b.below hb3
  have own2b := own2.below hb3
  have hs23 := hb3.size
  clear q0 q1 q2 q3 q4 q5 q6 q7 q8 q9 e0 e1 e2 hLx hBx hb3 hB2 hD2 own1b own2
  obtain ⟨hLx, hBx⟩ := below_tabs hL hB' hB3
  have haw := cawake_any W3 hLx hBx
  have hend : ∀ W4, Below W3.heap.size W3 W4 → Below w.heap.size w W4 := fun W4 hb => below_old (hB3.trans (hb.mono (below_lt hB3)))
  clear hLx hBx
  have hz1 := fun h : betE S A F T = 0 => bet_zero h
  have hz2 := fun h : betE S A F M = 0 => bet_zero h
  have hz3 := fun h : betE S A M T = 0 => bet_zero h
  have HZ1 := Lib.hid hz1
  have HZ2 := Lib.hid hz2
  have HZ3 := Lib.hid hz3
  have HO1 := Lib.hid own1c
  have HO2 := Lib.hid own2b
  have HO3 := Lib.hid own3
  have HLT := Lib.hid hlt1
  clear hz1 hz2 hz3 own1c own2b own3 hlt1
  rcases bet_e S A F T with c1 | c1
  · rcases bet_e S A F M with c2 | c2
    · rcases bet_e S A M T with c3 | c3
      · -- the three told minutes
        obtain ⟨-, hL1, -⟩ := HZ1.out c1
        obtain ⟨hFM, hL2, hn2⟩ := HZ2.out c2
        obtain ⟨hMT, hL3, hn3⟩ := HZ3.out c3
        have o1 := HO1.out
        have o2 := HO2.out
        have o3 := HO3.out
        rw [hL1] at o1
        rw [hL2] at o2
        rw [hL3] at o3
        rw [c1, c2, c3]
        have hsum := hits_append S A F M T hFM hMT
        generalize hitsL S A F T = L1 at *
        generalize hitsL S A F M = L2 at *
        generalize hitsL S A M T = L3 at *
        subst hsum
        clear HZ1 HZ2 HZ3 HO1 HO2 HO3 c1 c2 c3 hL1 hL2 hL3 haw hend
        obtain ⟨a1, k1, rfl⟩ := own_form o1
        obtain ⟨a2, k2, rfl⟩ := own_form o2
        obtain ⟨a3, k3, rfl⟩ := own_form o3
        have hlen : (L2 ++ L3).length = L2.length + L3.length := List.length_append
        have ho1 := o1.lt
        have X : Aside (OwnInts W3 W0.heap.size (.slice a1 (L2 ++ L3).length k1) (L2 ++ L3) ∧ OwnInts W3 W1.heap.size (.slice a2 L2.length k2) L2 ∧ OwnInts W3 W2.heap.size (.slice a3 L3.length k3) L3) := ⟨o1, o2, o3⟩
        clear o1 o2 o3 ho1
        go_wp2_with (at_builtin; refine wpList_append_ints rfl _ _ rfl W1.heap.size W2.heap.size L2 L3 _ _ rfl rfl X.out.2.1 X.out.2.2 (by omega) (by omega) ?_; intro v4 w4 o4 hg4
                     obtain ⟨a4, k4, rfl⟩ := own_form o4
                     have hB4 : Below (w.heap.size + 1) (w.alloc (.cells (specA S A) 41)) w4 := Below.grown hB3 hg4 (by omega) (fun k hk => by have := (World.ownsRow.lt X.out.2.1 k hk).1; omega)
                     have o1' : OwnInts w4 W0.heap.size (.slice a1 (L2 ++ L3).length k1) (L2 ++ L3) := World.ownsRow.kept X.out.1 hg4 (by
                       cases hq : Value.ownBlock (.slice a1 (L2 ++ L3).length k1) with
                       | none => exact .inl rfl
                       | some k => exact .inr (fun h => by
                           have h1 := HLT.out k hq
                           have h2 := (World.ownsRow.lt X.out.2.1 k h.symm).1
                           omega))
                     have Y : Aside (OwnInts w4 W0.heap.size (.slice a1 (L2 ++ L3).length k1) (L2 ++ L3) ∧ OwnInts w4 W1.heap.size (.slice a4 (L2 ++ L3).length k4) (L2 ++ L3)) := ⟨o1', o4⟩
                     clear o4 hg4 o1')
        go_loopw [11, 12, 63, 64] (fun x11 x12 x63 x64 wr => ∃ i : Nat, i ≤ L2.length + L3.length ∧ x63 = .int .i64 i ∧ wr = w4) (fun x11 x12 x63 x64 wr => L2.length + L3.length - (intOf x63).toNat)
        case atStart => exact ⟨0, by omega, rfl, rfl⟩
        case round =>
          obtain ⟨i, hi, rfl, rfl⟩ := hrel
          by_cases d : i < L2.length + L3.length
          · obtain ⟨x, hx⟩ : ∃ x, (L2 ++ L3)[i]? = some x := ⟨_, List.getElem?_eq_getElem (by rw [hlen]; exact d)⟩
            obtain ⟨g1, rfl, hc1⟩ := own_cell Y.out.1 (by rw [hlen]; omega)
            obtain ⟨g4, rfl, hc4⟩ := own_cell Y.out.2 (by rw [hlen]; omega)
            have z1 := hc1 i x hx
            have z4 := hc4 i x hx
            have hiN : ((i : Nat) : Int) < ((L2.length + L3.length : Nat) : Int) := by omega
            have hi0 : (0 : Int) ≤ (i : Nat) := by omega
            have hi9 : i < 30000 := by omega
            clear hc1 hc4 hx
            go_wp2_with fail
            go_roundw
            case rel => exact ⟨i + 1, by omega, by simp, trivial⟩
            case measure => simp [intOf]; omega
          · have e : i = L2.length + L3.length := by omega
            subst e
            obtain ⟨hLx, hBx⟩ := below_tabs hL hB' hB4
            go_wp2_with fail
            refine (cawake_any _ hLx hBx).mono ?_
            rintro e W8 ⟨rfl, hb8⟩
            go_wp2_with fail
            go_ret
            exact ⟨rfl, below_old (hB4.trans (hb8.mono (below_lt hB4)))⟩
      · rw [c1, c2, c3]
        go_wp2_with (go_at_call 23; refine haw.mono ?_; rintro e W4 ⟨rfl, hb4⟩)
        go_ret
        exact ⟨rfl, hend _ hb4⟩
    · rw [c1, c2]
      go_wp2_with (go_at_call 23; refine haw.mono ?_; rintro e W4 ⟨rfl, hb4⟩)
      go_ret
      exact ⟨rfl, hend _ hb4⟩
  · rw [c1]
    go_wp2_with (go_at_call 23; refine haw.mono ?_; rintro e W4 ⟨rfl, hb4⟩)
    go_ret
    exact ⟨rfl, hend _ hb4⟩
end Go.Proofs.YtgiclhkoajbgpaaDoor
