/-
  The walk of calendar.Parse.
-/
import Derived.Test.YtgiclhkoajbgpaaDoorCe1
namespace Go.Proofs.YtgiclhkoajbgpaaDoor
open Go.RowKit

structure GlobP (w : World) : Prop where
  g : Glob w
  e : ErrIs w
theorem GlobP.below {w w' : World} (h : GlobP w) (hb : Below w.heap.size w w') : GlobP w' := ⟨h.g.below hb, h.e.below hb (by have := pow_size h.g.pow; omega)⟩

/-- what Parse comes to: a right date whose text this is, or none -/
def ParsePost (s : ByteArray) (w : World) (e : Ending) (w' : World) : Prop :=
  Below w.heap.size w w' ∧ (e = .returned (.tuple #[dateV 0 0 0 0 0 0, .int .i64 20]) ∨
    ∃ y m d h i k : Int, e = .returned (.tuple #[dateV y m d h i k, .int .i64 0]) ∧ DateOk y m d h i k ∧ s = ⟨(showL y.toNat m.toNat d.toNat h.toNat i.toNat).toArray⟩)

set_option maxHeartbeats 400000 in
theorem parse_len (s : ByteArray) (w : World) (h : ¬ s.size = 16) (_hs : s.size ≤ 1000) : Calls Tryd.prog 33 #[.string s] w (ParsePost s w) := by
  have h' : ((s.size : Int) != 16) = true := by rw [bne_iff_ne]; omega
  clear h
  go_enter Tryd.func33, Tryd.ntmps33
  go_wp2
  exact bodyPost_ret (v := .tuple #[dateV 0 0 0 0 0 0, .int .i64 20]) (by simp [results, Tryd.results33, go_sem]) rfl ⟨(Below.refl _ _).alloc (Nat.le_refl _) _, Or.inl rfl⟩

/-- what holds of the memory between the rounds -/
structure PRel (w wr : World) : Prop where
  below : Below w.heap.size w wr
  arr : NArr (w.heap.size + 1) wr
  res : wr.heap[w.heap.size]? = some (.cells #[.int .i64 0, .int .i64 0, .int .i64 0, .int .i64 0, .int .i64 0, .int .i64 0] 23 (0, 0))
  size : w.heap.size + 2 ≤ wr.heap.size
theorem PRel.start (w : World) : PRel w ((w.alloc (.cells #[.int .i64 0, .int .i64 0, .int .i64 0, .int .i64 0, .int .i64 0, .int .i64 0] 23)).alloc (.cells #[.int .i64 0, .int .i64 0, .int .i64 0, .int .i64 0, .int .i64 0] 86)) where
  below := ((Below.refl _ _).alloc (Nat.le_refl _) _).alloc (by simp) _
  arr := ⟨0, 0, 0, 0, 0, by rw [show w.heap.size + 1 = (w.alloc (.cells #[.int .i64 0, .int .i64 0, .int .i64 0, .int .i64 0, .int .i64 0, .int .i64 0] 23)).heap.size by simp]; exact heap_alloc_new _ _⟩
  res := by simp [World.alloc, -World.alloc_eq, Array.getElem?_push]
  size := by simp
theorem PRel.mono {w wr w1 : World} (h : PRel w wr) (hb : Below wr.heap.size wr w1) : PRel w w1 where
  below := h.below.trans (hb.mono h.below.size)
  arr := h.arr.below hb (by have := h.size; omega)
  res := by rw [hb.block _ (by have := h.size; omega)]; exact h.res
  size := Nat.le_trans h.size hb.size
theorem PRel.set {w wr : World} (h : PRel w wr) (i : Nat) (hi : i < 5) (z : Int) : PRel w (wr.setCell ⟨w.heap.size + 1, i, none⟩ (.int .i64 z)) where
  below := h.below.setCell (by show _ ≤ w.heap.size + 1; omega) _
  arr := h.arr.set i hi z
  res := by rw [Below.heap_setCell _ _ _ _ (by show _ ≠ w.heap.size + 1; omega)]; exact h.res
  size := by simpa [World.setCell] using h.size

set_option maxRecDepth 100000 in
set_option maxHeartbeats 2000000 in
theorem parse_16 (s : ByteArray) (w : World) (hG : GlobP w) (h : s.size = 16) : Calls Tryd.prog 33 #[.string s] w (ParsePost s w) := by
  have h' : ((s.size : Int) != 16) = false := by simp [h]
  have hs : s.size ≤ 16 := by omega
  have hs2 : 16 ≤ s.size := by omega
  have HS := Lib.hid h
  clear h
  go_enter Tryd.func33, Tryd.ntmps33
  go_wp2_with fail
  go_loopw [19] (fun i wr => ∃ k : Int, 0 ≤ k ∧ k ≤ 5 ∧ i = .int .i64 k ∧ PRel w wr) (fun i _ => (5 - intOf i).toNat)
  case atStart => exact ⟨0, by omega, by omega, rfl, PRel.start w⟩
  case round =>
    obtain ⟨k, hk0, hk, rfl, hP⟩ := hrel
    by_cases h5 : k = 5
    · subst h5
      clear hk hk0
      obtain ⟨z0, z1, z2, z3, z4, hA⟩ := hP.arr
      have hsz := hP.size
      go_wp2_with fail
      obtain ⟨wo, rfl⟩ : ∃ wo : World, wo = wr := ⟨_, rfl⟩
      go_loopw [36] (fun i w2 => ∃ k : Int, 0 ≤ k ∧ k ≤ 7 ∧ i = .int .i64 k ∧ Below wo.heap.size wo w2) (fun i _ => (7 - intOf i).toNat)
      case atStart => exact ⟨0, by omega, by omega, rfl, Below.refl _ _⟩
      case round =>
        obtain ⟨k, hk0, hk, rfl, hB⟩ := hrel
        have hA2 := hB.block (w.heap.size + 1) (by omega)
        rw [hA] at hA2
        have hP2 := hP.mono hB
        have c0 : wr.cell? ⟨w.heap.size + 1, 0, none⟩ = some (.int .i64 z0) := by simp [World.cell?, hA2]
        have c1 : wr.cell? ⟨w.heap.size + 1, 1, none⟩ = some (.int .i64 z1) := by simp [World.cell?, hA2]
        have c2 : wr.cell? ⟨w.heap.size + 1, 2, none⟩ = some (.int .i64 z2) := by simp [World.cell?, hA2]
        have c3 : wr.cell? ⟨w.heap.size + 1, 3, none⟩ = some (.int .i64 z3) := by simp [World.cell?, hA2]
        have c4 : wr.cell? ⟨w.heap.size + 1, 4, none⟩ = some (.int .i64 z4) := by simp [World.cell?, hA2]
        clear hA2 hA
        by_cases h7 : k < 7
        · by_cases g : DateOk z0 z1 z2 z3 z4 k
          · by_cases hT : (showL z0.toNat z1.toNat z2.toNat z3.toNat z4.toNat == s.toList) = true
            · go_wp2_with fail
              refine (show_good _ _ _ _ _ _ _ (hG.below (hP2.below.alloc hP2.below.size _)).g g).mono ?_
              rintro e w1 ⟨rfl, hb1⟩
              have hP3 := (hP2.mono ((Below.refl _ _).alloc (Nat.le_refl _) _)).mono hb1
              obtain ⟨hz, d0, d1, d2, d3, d4, d5⟩ := date_cells hb1
              have hR := hP3.res
              have hsz3 := hP3.size
              have r0 : w1.cell? ⟨w.heap.size, 0, none⟩ = some (.int .i64 0) := by simp [World.cell?, hR]
              have r1 : w1.cell? ⟨w.heap.size, 1, none⟩ = some (.int .i64 0) := by simp [World.cell?, hR]
              have r2 : w1.cell? ⟨w.heap.size, 2, none⟩ = some (.int .i64 0) := by simp [World.cell?, hR]
              have r3 : w1.cell? ⟨w.heap.size, 3, none⟩ = some (.int .i64 0) := by simp [World.cell?, hR]
              have r4 : w1.cell? ⟨w.heap.size, 4, none⟩ = some (.int .i64 0) := by simp [World.cell?, hR]
              have r5 : w1.cell? ⟨w.heap.size, 5, none⟩ = some (.int .i64 0) := by simp [World.cell?, hR]
              have f0 : w1.frozen? ⟨w.heap.size, 0, none⟩ = false := by simp [World.frozen?, hR]
              have f1 : w1.frozen? ⟨w.heap.size, 1, none⟩ = false := by simp [World.frozen?, hR]
              have f2 : w1.frozen? ⟨w.heap.size, 2, none⟩ = false := by simp [World.frozen?, hR]
              have f3 : w1.frozen? ⟨w.heap.size, 3, none⟩ = false := by simp [World.frozen?, hR]
              have f4 : w1.frozen? ⟨w.heap.size, 4, none⟩ = false := by simp [World.frozen?, hR]
              have f5 : w1.frozen? ⟨w.heap.size, 5, none⟩ = false := by simp [World.frozen?, hR]
              clear hR hb1
              go_wp2_with fail
              have hTe := (beq_iff_eq.1 hT)
              refine bodyPost_ret (v := .tuple #[dateV z0 z1 z2 z3 z4 k, .int .i64 0]) (by simp [results, Tryd.results33, go_sem, r0, r1, r2, r3, r4, r5]) rfl
                ⟨(((((hP3.below.setCell (Nat.le_refl _) _).setCell (Nat.le_refl _) _).setCell (Nat.le_refl _) _).setCell (Nat.le_refl _) _).setCell (Nat.le_refl _) _).setCell (Nat.le_refl _) _, Or.inr ⟨z0, z1, z2, z3, z4, k, rfl, g, ?_⟩⟩
              rw [hTe, ByteArray.toList_eq]
            · have hT' : (showL z0.toNat z1.toNat z2.toNat z3.toNat z4.toNat == s.toList) = false := by simpa using hT
              clear hT
              go_wp2_with fail
              refine (show_good _ _ _ _ _ _ _ (hG.below (hP2.below.alloc hP2.below.size _)).g g).mono ?_
              rintro e w1 ⟨rfl, hb1⟩
              have hB1 := Lib.hid ((hB.alloc hB.size _).trans (hb1.mono (Nat.le_trans hB.size (by simp))))
              clear hb1
              go_wp2_with fail
              go_roundw
              case rel => exact ⟨k + 1, by omega, by omega, rfl, hB1.out⟩
              case measure => simp [intOf]; omega
          · have hT' : (([] : List UInt8) == s.toList) = false := by
              rw [beq_eq_false_iff_ne]
              intro e
              have := congrArg List.length e
              simp [ByteArray.toList_eq] at this
              omega
            go_wp2_with fail
            refine (show_none _ _ _ _ _ _ _ (hG.below (hP2.below.alloc hP2.below.size _)).g g).mono ?_
            rintro e w1 ⟨rfl, hb1⟩
            have hB1 := Lib.hid ((hB.alloc hB.size _).trans (hb1.mono (Nat.le_trans hB.size (by simp))))
            clear hb1
            go_wp2_with fail
            go_roundw
            case rel => exact ⟨k + 1, by omega, by omega, rfl, hB1.out⟩
            case measure => simp [intOf]; omega
        · have hR := hP2.res
          have r0 : wr.cell? ⟨w.heap.size, 0, none⟩ = some (.int .i64 0) := by simp [World.cell?, hR]
          have r1 : wr.cell? ⟨w.heap.size, 1, none⟩ = some (.int .i64 0) := by simp [World.cell?, hR]
          have r2 : wr.cell? ⟨w.heap.size, 2, none⟩ = some (.int .i64 0) := by simp [World.cell?, hR]
          have r3 : wr.cell? ⟨w.heap.size, 3, none⟩ = some (.int .i64 0) := by simp [World.cell?, hR]
          have r4 : wr.cell? ⟨w.heap.size, 4, none⟩ = some (.int .i64 0) := by simp [World.cell?, hR]
          have r5 : wr.cell? ⟨w.heap.size, 5, none⟩ = some (.int .i64 0) := by simp [World.cell?, hR]
          have f0 : wr.frozen? ⟨w.heap.size, 0, none⟩ = false := by simp [World.frozen?, hR]
          have f1 : wr.frozen? ⟨w.heap.size, 1, none⟩ = false := by simp [World.frozen?, hR]
          have f2 : wr.frozen? ⟨w.heap.size, 2, none⟩ = false := by simp [World.frozen?, hR]
          have f3 : wr.frozen? ⟨w.heap.size, 3, none⟩ = false := by simp [World.frozen?, hR]
          have f4 : wr.frozen? ⟨w.heap.size, 4, none⟩ = false := by simp [World.frozen?, hR]
          have f5 : wr.frozen? ⟨w.heap.size, 5, none⟩ = false := by simp [World.frozen?, hR]
          clear hR
          go_wp2_with fail
          refine bodyPost_ret (v := .tuple #[dateV 0 0 0 0 0 0, .int .i64 20]) (by simp [results, Tryd.results33, go_sem, r0, r1, r2, r3, r4, r5]) rfl
            ⟨(((((hP2.below.setCell (Nat.le_refl _) _).setCell (Nat.le_refl _) _).setCell (Nat.le_refl _) _).setCell (Nat.le_refl _) _).setCell (Nat.le_refl _) _).setCell (Nat.le_refl _) _, Or.inl rfl⟩
    · have : k = 0 ∨ k = 1 ∨ k = 2 ∨ k = 3 ∨ k = 4 := by omega
      clear h5 hk hk0
      rcases this with rfl | rfl | rfl | rfl | rfl
      · have i0 : ∀ w, (Instr.index 88 (.agg #[.int .i64 0, .int .i64 4, .int .i64 5, .int .i64 7, .int .i64 8, .int .i64 10, .int .i64 11, .int .i64 13, .int .i64 14, .int .i64 16]) (.int .i64 0)).run Tryd.prog w = .ok (.agg #[.int .i64 0, .int .i64 4]) w := fun _ => by kernel_rfl
        have q0 : 4 ≤ s.size := by omega
        go_wp2_with fail
        refine (atoi_any _ (by simp; omega) _ (hG.below (hP.below.alloc hP.below.size _)).e).mono ?_
        rintro e w1 ⟨z, v, rfl, hb1⟩
        have hP1 := (hP.mono ((Below.refl _ _).alloc (Nat.le_refl _) _)).mono hb1
        obtain ⟨z0, hz0⟩ := hP1.arr.cell 0 (by decide)
        have hf0 := hP1.arr.free 0
        clear hb1 hP
        go_wp2_with fail
        go_roundw
        case rel => exact ⟨1, by decide, by decide, rfl, hP1.set 0 (by decide) z⟩
        case measure => simp [intOf]
      · have i0 : ∀ w, (Instr.index 88 (.agg #[.int .i64 0, .int .i64 4, .int .i64 5, .int .i64 7, .int .i64 8, .int .i64 10, .int .i64 11, .int .i64 13, .int .i64 14, .int .i64 16]) (.int .i64 1)).run Tryd.prog w = .ok (.agg #[.int .i64 5, .int .i64 7]) w := fun _ => by kernel_rfl
        have q0 : 7 ≤ s.size := by omega
        go_wp2_with fail
        refine (atoi_any _ (by simp; omega) _ (hG.below (hP.below.alloc hP.below.size _)).e).mono ?_
        rintro e w1 ⟨z, v, rfl, hb1⟩
        have hP1 := (hP.mono ((Below.refl _ _).alloc (Nat.le_refl _) _)).mono hb1
        obtain ⟨z0, hz0⟩ := hP1.arr.cell 1 (by decide)
        have hf0 := hP1.arr.free 1
        clear hb1 hP
        go_wp2_with fail
        go_roundw
        case rel => exact ⟨2, by decide, by decide, rfl, hP1.set 1 (by decide) z⟩
        case measure => simp [intOf]
      · have i0 : ∀ w, (Instr.index 88 (.agg #[.int .i64 0, .int .i64 4, .int .i64 5, .int .i64 7, .int .i64 8, .int .i64 10, .int .i64 11, .int .i64 13, .int .i64 14, .int .i64 16]) (.int .i64 2)).run Tryd.prog w = .ok (.agg #[.int .i64 8, .int .i64 10]) w := fun _ => by kernel_rfl
        have q0 : 10 ≤ s.size := by omega
        go_wp2_with fail
        refine (atoi_any _ (by simp; omega) _ (hG.below (hP.below.alloc hP.below.size _)).e).mono ?_
        rintro e w1 ⟨z, v, rfl, hb1⟩
        have hP1 := (hP.mono ((Below.refl _ _).alloc (Nat.le_refl _) _)).mono hb1
        obtain ⟨z0, hz0⟩ := hP1.arr.cell 2 (by decide)
        have hf0 := hP1.arr.free 2
        clear hb1 hP
        go_wp2_with fail
        go_roundw
        case rel => exact ⟨3, by decide, by decide, rfl, hP1.set 2 (by decide) z⟩
        case measure => simp [intOf]
      · have i0 : ∀ w, (Instr.index 88 (.agg #[.int .i64 0, .int .i64 4, .int .i64 5, .int .i64 7, .int .i64 8, .int .i64 10, .int .i64 11, .int .i64 13, .int .i64 14, .int .i64 16]) (.int .i64 3)).run Tryd.prog w = .ok (.agg #[.int .i64 11, .int .i64 13]) w := fun _ => by kernel_rfl
        have q0 : 13 ≤ s.size := by omega
        go_wp2_with fail
        refine (atoi_any _ (by simp; omega) _ (hG.below (hP.below.alloc hP.below.size _)).e).mono ?_
        rintro e w1 ⟨z, v, rfl, hb1⟩
        have hP1 := (hP.mono ((Below.refl _ _).alloc (Nat.le_refl _) _)).mono hb1
        obtain ⟨z0, hz0⟩ := hP1.arr.cell 3 (by decide)
        have hf0 := hP1.arr.free 3
        clear hb1 hP
        go_wp2_with fail
        go_roundw
        case rel => exact ⟨4, by decide, by decide, rfl, hP1.set 3 (by decide) z⟩
        case measure => simp [intOf]
      · have i0 : ∀ w, (Instr.index 88 (.agg #[.int .i64 0, .int .i64 4, .int .i64 5, .int .i64 7, .int .i64 8, .int .i64 10, .int .i64 11, .int .i64 13, .int .i64 14, .int .i64 16]) (.int .i64 4)).run Tryd.prog w = .ok (.agg #[.int .i64 14, .int .i64 16]) w := fun _ => by kernel_rfl
        have q0 : 16 ≤ s.size := by omega
        go_wp2_with fail
        refine (atoi_any _ (by simp; omega) _ (hG.below (hP.below.alloc hP.below.size _)).e).mono ?_
        rintro e w1 ⟨z, v, rfl, hb1⟩
        have hP1 := (hP.mono ((Below.refl _ _).alloc (Nat.le_refl _) _)).mono hb1
        obtain ⟨z0, hz0⟩ := hP1.arr.cell 4 (by decide)
        have hf0 := hP1.arr.free 4
        clear hb1 hP
        go_wp2_with fail
        go_roundw
        case rel => exact ⟨5, by decide, by decide, rfl, hP1.set 4 (by decide) z⟩
        case measure => simp [intOf]
end Go.Proofs.YtgiclhkoajbgpaaDoor
