/-
  A region that draws its order, whose operations only read and whose callees only read or make new memory: one walk of the lexical order, in the class of all worlds that are as one world was below its heap's size.
-/
import Derived.Below
import Derived.Deep.QuietTactic
import Derived.BigQuiet
namespace Go.Proofs.YtgiclhkoajbgpaaDoor
open Go.RowKit

/-- A world in which nothing below w0's heap's size has turned. -/
structure Since (w0 : World) where
  w : World
  h : Below w0.heap.size w0 w
instance sinceIs (w0 : World) : Nonempty (Since w0) := ⟨⟨w0, Below.refl _ _⟩⟩
theorem wp_region_since {P : Program} {id : Nat} {Q : Exit → Act → World → Prop} {a : Act} {w : World} {l : List Oper} (hm : P.follows .mixedOrders = true) (hB : Region.lexB .any l.toArray = true)
    (h : wpQuiet P l.toArray (fun w' => ∃ x : Since w, w' = x.w) (fun a' => ∀ w', (∃ x : Since w, w' = x.w) → Q .normal a' w') l a) : (Code.region id l.toArray true).wp P Q a w :=
  wp_region_quiet (C := fun w' => ∃ x : Since w, w' = x.w) hm hB ⟨⟨w.drew, (Below.refl _ _).drew⟩, rfl⟩ (by simpa using h)
/-- a call that makes new memory at most -/
theorem since_call {P : Program} {f : FuncId} {args : Array Value} {w0 : World} {x : Since w0} {v : Value}
    (h : Calls P f args x.w fun e w' => e = .returned v ∧ Below x.w.heap.size x.w w') : Calls P f args x.w fun e w'' => e = .returned v ∧ ∃ y : Since w0, w'' = y.w :=
  h.mono fun _ w' ⟨he, hb⟩ => ⟨he, ⟨w', x.h.trans (hb.mono x.h.size)⟩, rfl⟩
/-- a call that leaves the world alone -/
theorem since_same {P : Program} {f : FuncId} {args : Array Value} {w0 : World} {x : Since w0} {v : Value}
    (h : Calls P f args x.w fun e w' => e = .returned v ∧ x.w = w') : Calls P f args x.w fun e w'' => e = .returned v ∧ ∃ y : Since w0, w'' = y.w :=
  h.mono fun _ _ ⟨he, hb⟩ => ⟨he, x, hb.symm⟩
theorem since_cell {w0 : World} {a : Addr} {v : Value} (h : w0.cell? a = some v) : ∀ x : Since w0, x.w.cell? a = some v := fun x => by
  have hl : a.block < w0.heap.size := World.block_lt_of_cell? w0 _ h
  exact (x.h.cell hl).trans h
end Go.Proofs.YtgiclhkoajbgpaaDoor
