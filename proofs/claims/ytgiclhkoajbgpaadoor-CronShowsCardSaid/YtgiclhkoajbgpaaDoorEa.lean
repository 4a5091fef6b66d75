/-
  The document's fields of a spec: 325 cells. The law's function ref.
-/
import Derived.Test.YtgiclhkoajbgpaaDoorDi
import Derived.Deep.MidRow
import Derived.Deep.WholeRow
import Derived.StillTailTactics
namespace Go.Proofs.YtgiclhkoajbgpaaDoor
open Go.RowKit

/-- 325 truth values in a row -/
def cellsF (g : Nat → Bool) : Array Value := ((List.range 325).map fun k => Value.bool (g k)).toArray
theorem cellsF_size (g : Nat → Bool) : (cellsF g).size = 325 := by simp [cellsF]
theorem cellsF_get (g : Nat → Bool) (k : Nat) (hk : k < 325) : (cellsF g)[k]? = some (.bool (g k)) := by simp [cellsF, hk]
theorem cellsF_congr {g h : Nat → Bool} (e : ∀ k, k < 325 → g k = h k) : cellsF g = cellsF h := by
  apply Array.ext_getElem?
  intro k
  by_cases hk : k < 325
  · rw [cellsF_get g k hk, cellsF_get h k hk, e k hk]
  · rw [Array.getElem?_eq_none (by rw [cellsF_size]; omega), Array.getElem?_eq_none (by rw [cellsF_size]; omega)]
def upd (g : Nat → Bool) (k : Nat) (v : Bool) : Nat → Bool := fun j => if j = k then v else g j
theorem cellsF_set (g : Nat → Bool) (k : Nat) (v : Bool) (hk : k < 325) : (cellsF g).setIfInBounds k (.bool v) = cellsF (upd g k v) := by
  apply Array.ext_getElem?
  intro j
  by_cases hj : j < 325
  · rw [cellsF_get _ j hj, Array.getElem?_setIfInBounds]
    by_cases e : k = j
    · subst e; simp [upd, cellsF_size, hk]
    · rw [if_neg e, cellsF_get g j hj]; simp [upd, Ne.symm e]
  · rw [Array.getElem?_eq_none (by simp [cellsF_size]; omega), Array.getElem?_eq_none (by rw [cellsF_size]; omega)]
theorem cellsF_zero : Array.replicate 325 (Value.bool false) = cellsF fun _ => false := by
  apply Array.ext_getElem?
  intro j
  by_cases hj : j < 325
  · rw [cellsF_get _ j hj]; simp [hj]
  · rw [Array.getElem?_eq_none (by simp; omega), Array.getElem?_eq_none (by rw [cellsF_size]; omega)]
theorem cellsF_one (g : Nat → Bool) : (cellsF g).all (·.oneCell') = true := by
  rw [Array.all_eq_true]
  intro i hi
  have h := cellsF_get g i (by rw [cellsF_size] at hi; exact hi)
  rw [Array.getElem?_eq_getElem hi] at h
  rw [Option.some.inj h]; rfl
theorem fld_cell {W : World} {C : Nat} {g : Nat → Bool} {t : TypeId} (h : W.heap[C]? = some (.cells (cellsF g) t (0, 0))) (k : Nat) (hk : k < 325) : W.cell? ⟨C, k, none⟩ = some (.bool (g k)) ∧ W.frozen? ⟨C, k, none⟩ = false := by
  constructor
  · simp [World.cell?, h, cellsF_get g k hk]
  · simp [World.frozen?, h]
theorem fld_set {W : World} {C : Nat} {g : Nat → Bool} {t : TypeId} (h : W.heap[C]? = some (.cells (cellsF g) t (0, 0))) (k : Nat) (hk : k < 325) (v : Bool) : (W.setCell ⟨C, k, none⟩ (.bool v)).heap[C]? = some (.cells (cellsF (upd g k v)) t (0, 0)) := by
  rw [setCell_eq_setRow W C k _ t (0, 0) _ h, setRow_heap W C _ _ t (0, 0) h]
  rw [← cellsF_set g k v hk]
/-- the fields of a spec, cell by cell -/
def refG (S : Nat → Nat) (A : Nat → Bool) (k : Nat) : Bool := if k % 65 = 64 then A (k / 65) else (S (k / 65)).testBit (k % 65)
abbrev refV (g : Nat → Bool) : Value := .agg (cellsF g)
theorem info47 : (Tryd.prog.info? 47).map (fun i => (i.zero, i.size)) = some (some (.agg (Array.replicate 325 (.bool false))), 325) := by kernel_rfl
theorem zero47 (w : World) : (zeroValue 47).run Tryd.prog w = .ok (.agg (cellsF fun _ => false)) w := by rw [(zero_of_info info47).1, cellsF_zero]
theorem size47 : (Tryd.prog.info? 47).map (·.size) = some 325 := (zero_of_info info47).2

theorem under47 : Tryd.prog.underlying 47 = some (.array 5 46) := by kernel_rfl
theorem below_setRow (W : World) (b : Nat) (cs : Array Value) {n : Nat} (h : n ≤ b) : Below n W (W.setRow b cs) :=
  ⟨rfl, rfl, rfl, by simp [World.setRow], fun k hk => by simp only [World.setRow, Array.getElem?_modify]; rw [if_neg (by omega)]⟩
/-- a whole row of 325 is loaded -/
theorem wp_load47 {op : Oper} {a : Act} {w : World} {K : Act → World → Prop} {Q : Exit → Act → World → Prop} (x : Operand) (ho : op.op = .load 47 x) (b : Nat) (g : Nat → Bool) (hx : a.eval x = .pointer (some ⟨b, 0, none⟩))
    (h : w.heap[b]? = some (.cells (cellsF g) 47 (0, 0))) (hk : K (a.put op.dst (refV g)) w) : op.wp Tryd.prog a w K Q := by
  unfold Oper.wp execOp
  simp only [ho, hx, Instr.loadAt, Instr.sureAddr, Sem.run_bind, Sem.run_pure, Result.andThen_ok, run_loadVar_row w b 47 47 (cellsF g) (0, 0) _ h under47 rfl (by rw [cellsF_size]; exact size47)]
  exact hk
theorem run_cells47 {w : World} {b : Nat} {g : Nat → Bool} (h : w.heap[b]? = some (.cells (cellsF g) 47 (0, 0))) (g' : Nat → Bool) : (storeCells ⟨b, 0, none⟩ (cellsF g').toList).run Tryd.prog w = .ok () (w.setRow b (cellsF g')) := by
  have := run_storeCells_from (P := Tryd.prog) b 47 (cellsF g').toList 0 (cellsF g) w h (by rw [cellsF_size]; simp [cellsF_size]) (fun v hv => (Array.all_eq_true_iff_forall_mem.1 (cellsF_one g')) v (by simpa using hv))
  simpa using this
/-- a whole row of 325 is stored -/
theorem wp_store47 {op : Oper} {a : Act} {w : World} {K : Act → World → Prop} {Q : Exit → Act → World → Prop} (x y : Operand) (ho : op.op = .store 47 x y) (b : Nat) (g g' : Nat → Bool) (hx : a.eval x = .pointer (some ⟨b, 0, none⟩)) (hy : a.eval y = refV g')
    (h : w.heap[b]? = some (.cells (cellsF g) 47 (0, 0))) (hk : K (a.put op.dst undef) (w.setRow b (cellsF g'))) : op.wp Tryd.prog a w K Q := by
  unfold Oper.wp execOp
  simp only [ho, hx, hy, Instr.storeAt, Instr.sureAddr, Sem.run_bind, Sem.run_pure, Result.andThen_ok, run_storeVar_row w b 47 47 (cellsF g) (cellsF g') h (by rw [cellsF_size]; exact size47) (by rw [cellsF_size, cellsF_size]) (cellsF_one _)]
  exact hk

set_option maxRecDepth 100000 in
set_option maxHeartbeats 2000000 in
theorem refL_any (S : Nat → Nat) (A : Nat → Bool) (hS : ∀ i, i < 5 → S i < 2 ^ 64) (w : World) :
    Calls Tryd.prog 26 #[specV S A] w fun e w' => e = .returned (refV (refG S A)) ∧ Below w.heap.size w w' := by
  have hz := zero47
  go_enter Tryd.func26, Tryd.ntmps26
  go_wp2_with fail
  have hb0 : Below (w.heap.size + 1) (w.alloc (.cells (specA S A) 41)) (w.alloc (.cells (specA S A) 41)) := Below.refl _ _
  have hf0 : (((w.alloc (.cells (specA S A) 41)).alloc (.cells (cellsF fun _ => false) 47)).alloc (.cells (cellsF fun _ => false) 47)).heap[w.heap.size + 1 + 1]? = some (.cells (cellsF fun _ => false) 47 (0, 0)) := by
    have := World.alloc_heap_new ((w.alloc (.cells (specA S A) 41)).alloc (.cells (cellsF fun _ => false) 47)) (.cells (cellsF fun _ => false) 47)
    simpa using this
  have hr0 : (((w.alloc (.cells (specA S A) 41)).alloc (.cells (cellsF fun _ => false) 47)).alloc (.cells (cellsF fun _ => false) 47)).heap[w.heap.size + 1]? = some (.cells (cellsF fun _ => false) 47 (0, 0)) := by
    have := World.alloc_heap_new (w.alloc (.cells (specA S A) 41)) (.cells (cellsF fun _ => false) 47)
    rw [World.size_alloc] at this
    exact heap_keep this _
  have hb1 : Below (w.heap.size + 1) (w.alloc (.cells (specA S A) 41)) (((w.alloc (.cells (specA S A) 41)).alloc (.cells (cellsF fun _ => false) 47)).alloc (.cells (cellsF fun _ => false) 47)) := (hb0.alloc (by simp) _).alloc (by simp) _
  generalize ((w.alloc (.cells (specA S A) 41)).alloc (.cells (cellsF fun _ => false) 47)).alloc (.cells (cellsF fun _ => false) 47) = w2 at *
  go_loopw [4, 5, 6, 7] (fun x4 x5 x6 x7 wr => ∃ (i : Nat) (g : Nat → Bool), i ≤ 5 ∧ x6 = .int .i64 i ∧ Below (w.heap.size + 1) (w.alloc (.cells (specA S A) 41)) wr ∧ wr.heap[w.heap.size + 1]? = some (.cells (cellsF fun _ => false) 47 (0, 0)) ∧
      wr.heap[w.heap.size + 1 + 1]? = some (.cells (cellsF g) 47 (0, 0)) ∧ ∀ k, g k = (decide (k < i * 65) && refG S A k)) (fun x4 x5 x6 x7 wr => 5 - (intOf x6).toNat)
  case atStart => exact ⟨0, fun _ => false, by omega, rfl, hb1, hr0, hf0, fun k => by simp⟩
  case round =>
    clear hb1 hr0 hf0
    obtain ⟨i, g, hi, rfl, hb, hr, hf, hg⟩ := hrel
    by_cases h5 : i = 5
    · subst h5
      have hh := setRow_heap wr (w.heap.size + 1) (cellsF fun _ => false) (cellsF g) 47 (0, 0) hr
      have hbs := hb.trans (below_setRow wr (w.heap.size + 1) (cellsF g) (Nat.le_refl _))
      go_wp2_with fail
      refine wp_load47 _ rfl _ g rfl hf ?_
      have hst := run_cells47 hr g
      go_wp2_with fail
      have hgg : cellsF g = cellsF (refG S A) := cellsF_congr fun k hk => by rw [hg k, decide_eq_true (by omega), Bool.true_and]
      rw [hgg] at hh hbs ⊢
      (try simp only [Exit.inBlock, Exit.then])
      exact bodyPost_ret_by (results_cell_row rfl _ _ (w.heap.size + 1) 47 _ (0, 0) _ rfl hh under47 rfl (by rw [cellsF_size]; exact size47)) rfl ⟨rfl, below_old hbs⟩
    · have hi5 : i < 5 := by omega
      obtain ⟨-, -, qa, -⟩ := spec_cell (below_spec hb) i hi5
      obtain ⟨ca, fa⟩ := fld_cell hf (i * 65 + 64) (by omega)
      have hid : decide ((i : Int) < 5) = true := by simp; omega
      go_wp2_with fail
      go_loopw [5, 16, 17] (fun x5 x16 x17 wi => ∃ (n : Nat) (g : Nat → Bool), n ≤ 64 ∧ x16 = .int .i64 n ∧ Below (w.heap.size + 1) (w.alloc (.cells (specA S A) 41)) wi ∧ wi.heap[w.heap.size + 1]? = some (.cells (cellsF fun _ => false) 47 (0, 0)) ∧
        wi.heap[w.heap.size + 1 + 1]? = some (.cells (cellsF g) 47 (0, 0)) ∧ ∀ k, g k = (decide (k < i * 65 + n ∨ k = i * 65 + 64) && refG S A k)) (fun x5 x16 x17 wi => 64 - (intOf x16).toNat)
      case atStart =>
        refine ⟨0, upd g (i * 65 + 64) (A i), by omega, rfl, hb.setCell (by simp) _, ?_, fld_set hf _ (by omega) _, fun k => ?_⟩
        · rw [Below.heap_setCell _ _ _ _ (by simp)]; exact hr
        · simp only [upd]
          split
          · rename_i e; subst e
            have e1 : (i * 65 + 64) % 65 = 64 := by omega
            have e2 : (i * 65 + 64) / 65 = i := by omega
            simp [refG, e1, e2]
          · rename_i e
            rw [hg k]
            congr 1
            apply decide_eq_decide.2; omega
      case round =>
        clear hf hr hg ca fa hb
        obtain ⟨n, g, hn, rfl, hb, hr, hf, hg⟩ := hrel
        by_cases h64 : n = 64
        · subst h64
          go_wp2_with fail
          go_roundw
          case rel =>
            refine ⟨i + 1, g, by omega, rfl, hb, hr, hf, fun k => ?_⟩
            rw [hg k]
            congr 1
            apply decide_eq_decide.2; omega
          case measure => simp [intOf]; omega
        · have hn64 : n < 64 := by omega
          obtain ⟨qs, -, -, -⟩ := spec_cell (below_spec hb) i hi5
          obtain ⟨ca, fa⟩ := fld_cell hf (i * 65 + n) (by omega)
          have hnd : decide ((n : Int) < 64) = true := by simp; omega
          have h0n : (0 : Int) ≤ (n : Int) := by omega
          have hbv := bit_val (S i) n (hS i hi5)
          go_wp2_with fail
          have hii : ((i : Nat) : Int) < 5 := by omega
          have hnn : ((n : Nat) : Int) < 64 := by omega
          have h0i : (0 : Int) ≤ (i : Nat) := by omega
          have qs' : ({ heap := wr.heap, tape := wr.tape, drawn := wr.drawn + 1, os := wr.os, output := wr.output } : World).cell? ⟨w.heap.size, i, none⟩ = some (.int .u64 (S i)) := qs
          go_still_tail 13, (by kernel_rfl)
          rw [show (bits BinOp.and IntKind.u64 (((S i : Nat) : Int) / 2 ^ n) 1 == 1) = (S i).testBit n from (by rw [← hbv]; rfl)]
          change wpList _ _ _ _ _ wr.drew
          have hb := hb.drew
          have hf : wr.drew.heap[w.heap.size + 1 + 1]? = some (.cells (cellsF g) 47 (0, 0)) := hf
          have hr : wr.drew.heap[w.heap.size + 1]? = some (.cells (cellsF fun _ => false) 47 (0, 0)) := hr
          clear qs qs' ca fa
          generalize wr.drew = W at *
          obtain ⟨ca, fa⟩ := fld_cell hf (i * 65 + n) (by omega)
          go_wp2_with fail
          go_roundw
          case rel =>
            refine ⟨n + 1, upd g (i * 65 + n) ((S i).testBit n), by omega, by simp, hb.setCell (by simp) _, ?_, fld_set hf _ (by omega) _, fun k => ?_⟩
            · rw [Below.heap_setCell _ _ _ _ (by simp)]; exact hr
            · simp only [upd]
              split
              · rename_i e; subst e
                have e1 : (i * 65 + n) % 65 = n := by omega
                have e2 : (i * 65 + n) / 65 = i := by omega
                rw [decide_eq_true (by omega), Bool.true_and]
                simp [refG, e1, e2, h64]
              · rename_i e
                rw [hg k]
                congr 1
                apply decide_eq_decide.2; omega
          case measure => simp [intOf]; omega
end Go.Proofs.YtgiclhkoajbgpaaDoor
