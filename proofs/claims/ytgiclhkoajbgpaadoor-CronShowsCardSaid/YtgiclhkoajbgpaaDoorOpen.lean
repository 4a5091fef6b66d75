/-
  Arguments that are structs and arrays of integers and bools, by value: what they are.
-/
import Derived.Test.YtgiclhkoajbgpaaDoorRows
import Derived.WalkKit
import Derived.ProofKit
namespace Go.Proofs.YtgiclhkoajbgpaaDoor
open Go.RowKit

theorem cell_int {P : Program} {w : World} {r : Reach} {base : Nat} {t : TypeId} {v : Value} {k : IntKind} (ht : P.underlying t = some (.int k)) (h : Cell.okWide P w r base t v) : ∃ n, v = .int k n ∧ k.min ≤ n ∧ n ≤ k.max := by
  cases v <;> simp [Cell.okWide, Cell.ok, ht, IntKind.has] at h
  obtain ⟨rfl, h1, h2⟩ := h
  exact ⟨_, rfl, h1, h2⟩
theorem cell_bool {P : Program} {w : World} {r : Reach} {base : Nat} {t : TypeId} {v : Value} (ht : P.underlying t = some .bool) (h : Cell.okWide P w r base t v) : ∃ b, v = .bool b := by
  cases v <;> simp [Cell.okWide, Cell.ok, ht] at h
  exact ⟨_, rfl⟩
theorem agg_cells {P : Program} {w : World} {r : Reach} {base : Nat} {t : TypeId} {v : Value} {ts : List TypeId} (ht : (∃ fs, P.underlying t = some (.struct fs)) ∨ ∃ n e, P.underlying t = some (.array n e)) (hts : P.cellTypes P.depth t = some ts)
    (hn : P.cellsOf t = ts.length) (h : Value.okWide P w r base t v) : ∃ cs : List Value, v = .agg cs.toArray ∧ cs.length = ts.length ∧ ∀ (i : Nat) c u, cs[i]? = some c → ts[i]? = some u → Cell.okWide P w r base u c := by
  have h' : ∃ cs, v = .agg cs ∧ cs.size = P.cellsOf t ∧ Row.okWide P w r base t cs := by
    rcases ht with ⟨fs, ht⟩ | ⟨n, e, ht⟩ <;> (unfold Value.okWide at h; simpa only [ht] using h)
  obtain ⟨cs, rfl, hs, ts', hts', _, hc⟩ := h'
  obtain rfl : ts = ts' := Option.some.inj (hts.symm.trans hts')
  refine ⟨cs.toList, by simp, by simp [hs, hn], fun i c u hi hu => ?_⟩
  obtain ⟨u', hu', ho⟩ := hc i c (by simpa using hi)
  have hl : i < ts.length := (List.getElem?_eq_some_iff.1 hu).1
  rw [Nat.mod_eq_of_lt hl, hu] at hu'
  obtain rfl := Option.some.inj hu'
  exact ho

set_option maxRecDepth 100000 in
theorem open_int3 {w : World} {r : Reach} {base : Nat} {v : Value} (h : Value.okWide Tryd.prog w r base 3 v) : ∃ n : Int, v = .int .i64 n ∧ -9223372036854775808 ≤ n ∧ n ≤ 9223372036854775807 := by
  have h' : Cell.okWide Tryd.prog w r base 3 v := by
    unfold Value.okWide at h
    simpa only [Tryd.underlying3] using h
  obtain ⟨n, hn, h0, h1⟩ := cell_int Tryd.underlying3 h'
  rw [show IntKind.i64.min = -9223372036854775808 by decide] at h0
  rw [show IntKind.i64.max = 9223372036854775807 by decide] at h1
  exact ⟨n, hn, h0, h1⟩
theorem cell_str {P : Program} {w : World} {r : Reach} {base : Nat} {t : TypeId} {v : Value} (ht : P.underlying t = some .string) (h : Cell.okWide P w r base t v) : ∃ s, v = .string s ∧ (s.size : Int) ≤ IntKind.i64.max := by
  cases v <;> simp [Cell.okWide, Cell.ok, ht] at h
  exact ⟨_, rfl, by simpa using h⟩
set_option maxRecDepth 100000 in
theorem open_str9 {w : World} {r : Reach} {base : Nat} {v : Value} (h : Value.okWide Tryd.prog w r base 9 v) : ∃ s, v = .string s ∧ s.size ≤ 9223372036854775807 := by
  have h' : Cell.okWide Tryd.prog w r base 9 v := by
    unfold Value.okWide at h
    simpa only [Tryd.underlying9] using h
  obtain ⟨s, hv, h0⟩ := cell_str Tryd.underlying9 h'
  rw [show IntKind.i64.max = 9223372036854775807 by decide] at h0
  exact ⟨s, hv, by omega⟩
set_option maxRecDepth 100000 in
theorem open_date {w : World} {r : Reach} {base : Nat} {v : Value} (h : Value.okWide Tryd.prog w r base 23 v) :
    ∃ y m d hh i k : Int, v = .agg #[.int .i64 y, .int .i64 m, .int .i64 d, .int .i64 hh, .int .i64 i, .int .i64 k] := by
  obtain ⟨cs, rfl, hl, hc⟩ := agg_cells (ts := [3, 3, 3, 3, 3, 3]) (Or.inl ⟨_, Tryd.underlying23⟩) (by kernel_rfl) (by kernel_rfl) h
  match cs, hl with
  | [c0, c1, c2, c3, c4, c5], _ =>
    obtain ⟨y, rfl, _⟩ := cell_int Tryd.underlying3 (hc 0 _ _ rfl rfl)
    obtain ⟨m, rfl, _⟩ := cell_int Tryd.underlying3 (hc 1 _ _ rfl rfl)
    obtain ⟨d, rfl, _⟩ := cell_int Tryd.underlying3 (hc 2 _ _ rfl rfl)
    obtain ⟨hh, rfl, _⟩ := cell_int Tryd.underlying3 (hc 3 _ _ rfl rfl)
    obtain ⟨i, rfl, _⟩ := cell_int Tryd.underlying3 (hc 4 _ _ rfl rfl)
    obtain ⟨k, rfl, _⟩ := cell_int Tryd.underlying3 (hc 5 _ _ rfl rfl)
    exact ⟨y, m, d, hh, i, k, rfl⟩
end Go.Proofs.YtgiclhkoajbgpaaDoor
