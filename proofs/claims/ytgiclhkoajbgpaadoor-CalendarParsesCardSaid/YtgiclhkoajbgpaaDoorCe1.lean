/-
  strconv.Atoi at a short text, whatever it is; the array of five numbers that calendar.Parse fills.
-/
import Derived.Test.YtgiclhkoajbgpaaDoorCb1
import Derived.Test.YtgiclhkoajbgpaaDoorShA
namespace Go.Proofs.YtgiclhkoajbgpaaDoor
open Go.RowKit

/-- the library's two errors lie in their variables -/
structure ErrIs (w : World) : Prop where
  syn : ∃ t p, w.cell? ⟨3, 0, none⟩ = some (.iface t p)
  rng : ∃ t p, w.cell? ⟨4, 0, none⟩ = some (.iface t p)
theorem ErrIs.below {B : Nat} {w w' : World} (h : ErrIs w) (hb : Below B w w') (hB : 4 < B) : ErrIs w' := by
  obtain ⟨⟨t, p, h1⟩, ⟨t', p', h2⟩⟩ := h
  exact ⟨⟨t, p, (hb.cell (p := ⟨3, 0, none⟩) (by show 3 < B; omega)).trans h1⟩, ⟨t', p', (hb.cell (p := ⟨4, 0, none⟩) hB).trans h2⟩⟩

/-- some number, and an error or none -/
def AtoiPost (w : World) (e : Ending) (w' : World) : Prop := ∃ (z : Int) (v : Value), e = .returned (.tuple #[.int .i64 z, v]) ∧ Below w.heap.size w w'
theorem atoi_any (s : ByteArray) (hs : s.size ≤ 1000) (w : World) (hE : ErrIs w) : Calls Tryd.prog 56 #[.string s] w (AtoiPost w) := by
  cases h : Lib.atoiAll s.data.toList with
  | ok v =>
    refine (Tryd.strconv_Atoi_ok s (by omega) v h w).mono ?_
    rintro e w' ⟨rfl, hw⟩
    refine ⟨v, _, rfl, ?_⟩
    rcases hw with rfl | ⟨t, rfl⟩
    · exact Below.refl _ _
    · exact Lib.bytesWorld_below _ _ _
  | range =>
    obtain ⟨t, p, hp⟩ := hE.rng
    refine (Any.strconv_Atoi_range Tryd.laysC172 s (by omega) h (.iface t p) w hp (Or.inr ⟨t, p, rfl⟩)).mono ?_
    rintro e w' ⟨N, rfl, _, _, hb⟩
    exact ⟨_, _, rfl, hb⟩
  | _ =>
    obtain ⟨t, p, hp⟩ := hE.syn
    refine (Any.strconv_Atoi_syntax Tryd.laysC172 s (by omega) h (.iface t p) w hp (Or.inr ⟨t, p, rfl⟩)).mono ?_
    rintro e w' ⟨N, rfl, _, _, hb⟩
    exact ⟨_, _, rfl, hb⟩

/-- block b holds an array of five ints -/
def NArr (b : Nat) (w : World) : Prop := ∃ z0 z1 z2 z3 z4 : Int, w.heap[b]? = some (.cells #[.int .i64 z0, .int .i64 z1, .int .i64 z2, .int .i64 z3, .int .i64 z4] 86 (0, 0))
theorem NArr.below {b B : Nat} {w w' : World} (h : NArr b w) (hb : Below B w w') (hB : b < B) : NArr b w' := by
  obtain ⟨z0, z1, z2, z3, z4, h⟩ := h
  exact ⟨z0, z1, z2, z3, z4, by rw [hb.block b hB]; exact h⟩
theorem NArr.cell {b : Nat} {w : World} (h : NArr b w) (i : Nat) (hi : i < 5) : ∃ z : Int, w.cell? ⟨b, i, none⟩ = some (.int .i64 z) := by
  obtain ⟨z0, z1, z2, z3, z4, h⟩ := h
  have : i = 0 ∨ i = 1 ∨ i = 2 ∨ i = 3 ∨ i = 4 := by omega
  rcases this with rfl | rfl | rfl | rfl | rfl <;> exact ⟨_, by simp [World.cell?, h]; rfl⟩
theorem NArr.free {b : Nat} {w : World} (h : NArr b w) (i : Nat) : w.frozen? ⟨b, i, none⟩ = false := by
  obtain ⟨z0, z1, z2, z3, z4, h⟩ := h
  simp [World.frozen?, h]
theorem setCell_block {w : World} {b i : Nat} {v : Value} {c : Array Value} {T : TypeId} {fr : Nat × Nat} (h : w.heap[b]? = some (.cells c T fr)) : (w.setCell ⟨b, i, none⟩ v).heap[b]? = some (.cells (c.setIfInBounds i v) T fr) := by
  simp [World.setCell, Array.getElem?_modify, h]
theorem NArr.set {b : Nat} {w : World} (h : NArr b w) (i : Nat) (hi : i < 5) (z : Int) : NArr b (w.setCell ⟨b, i, none⟩ (.int .i64 z)) := by
  obtain ⟨z0, z1, z2, z3, z4, h⟩ := h
  have : i = 0 ∨ i = 1 ∨ i = 2 ∨ i = 3 ∨ i = 4 := by omega
  rcases this with rfl | rfl | rfl | rfl | rfl
  · exact ⟨z, z1, z2, z3, z4, setCell_block h⟩
  · exact ⟨z0, z, z2, z3, z4, setCell_block h⟩
  · exact ⟨z0, z1, z, z3, z4, setCell_block h⟩
  · exact ⟨z0, z1, z2, z, z4, setCell_block h⟩
  · exact ⟨z0, z1, z2, z3, z, setCell_block h⟩
end Go.Proofs.YtgiclhkoajbgpaaDoor
