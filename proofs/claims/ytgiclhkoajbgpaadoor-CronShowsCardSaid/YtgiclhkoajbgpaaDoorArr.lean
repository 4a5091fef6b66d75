/-
  Two arrays held against each other by == : a law on the run of that comparison, of whatever program.
-/
import Derived.WalkKit
namespace Go.Proofs.YtgiclhkoajbgpaaDoor
open Go.RowKit

theorem run_equalIn_arr {P : Program} {w : World} {d : Nat} {t e : TypeId} {len n : Nat} {xs ys : Array Value} (f : Nat → Bool) (a b : Nat → Value) (ht : P.underlying t = some (.array len e))
    (hn : (sizeOf e).run P w = .ok n w) (ha : ∀ i, i < len → (part e xs (i * n)).run P w = .ok (a i) w) (hb : ∀ i, i < len → (part e ys (i * n)).run P w = .ok (b i) w)
    (he : ∀ i, i < len → (Op.equalIn d e (a i) (b i)).run P w = .ok (f i) w) : (Op.equalIn (d + 1) t (.agg xs) (.agg ys)).run P w = .ok ((List.range len).all f) w := by
  simp only [Op.equalIn, Sem.run_bind, run_underlying ht, Result.andThen_ok, hn]
  simp only [Std.Legacy.Range.forIn_eq_forIn_range', Std.Legacy.Range.size, Nat.sub_zero, Nat.add_one_sub_one, Nat.div_one]
  rw [← List.range_eq_range']
  have key : ∀ l : List Nat, (∀ i ∈ l, i < len) → (Sem.run P
          (forIn l ((none, ()) : Option Bool × Unit) fun i __s => do
            let __do_lift ← part e xs (i * n)
            let __do_lift_1 ← part e ys (i * n)
            let __do_lift ← Op.equalIn d e __do_lift __do_lift_1
            if (!__do_lift) = true then pure (ForInStep.done (some false, ())) else pure (ForInStep.yield (none, ())))
          w) = .ok (if l.all f then none else some false, ()) w := by
    intro l
    induction l with
    | nil => intro _; simp
    | cons i l ih =>
      intro hl
      have hi := hl i (List.mem_cons_self ..)
      simp only [List.forIn_cons, Sem.run_bind, ha i hi, hb i hi, he i hi, Result.andThen_ok]
      cases hf : f i
      · simp [hf]
      · simp only [Bool.not_true, Bool.false_eq_true, if_false, Sem.run_pure, Result.andThen_ok]
        rw [ih (fun j hj => hl j (List.mem_cons_of_mem _ hj))]
        simp [hf]
  rw [key _ (fun i hi => List.mem_range.1 hi)]
  simp only [Result.andThen_ok]
  cases (List.range len).all f <;> simp

/-- a cell of an array whose elements are one cell each -/
theorem run_part_cell {P : Program} {w : World} {e : TypeId} {xs : Array Value} {i : Nat} {v : Value} (ha : (isAgg e).run P w = .ok false w) (hv : xs[i]? = some v) : (part e xs i).run P w = .ok v w := by
  simp only [part, Sem.run_bind, ha, Result.andThen_ok, hv]
  simp
theorem range6_all (f : Nat → Bool) : (List.range 6).all f = (f 0 && (f 1 && (f 2 && (f 3 && (f 4 && f 5))))) := by
  simp [List.range, List.range.loop]
end Go.Proofs.YtgiclhkoajbgpaaDoor
