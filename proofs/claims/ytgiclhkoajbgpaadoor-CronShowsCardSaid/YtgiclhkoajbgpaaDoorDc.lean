/-
  cron.Parse as a plain function; and what the walk of Parse leans on: memory that lies but for some blocks; a return through marks; an append into a box.
-/
import Derived.Test.YtgiclhkoajbgpaaDoorDb
import Derived.Test.YtgiclhkoajbgpaaDoorIt
namespace Go.Proofs.YtgiclhkoajbgpaaDoor
open Go.RowKit

/-! the plain function -/
def words (l : List UInt8) : List (List UInt8) := (splitL 32 l).filter (fun x => decide (x ≠ []))
def itemsM (i : Nat) : List (List UInt8) → Nat → Nat × Int
  | [], acc => (acc, 0)
  | o :: os, acc => if (itemM i o).2 ≠ 0 then (0, (itemM i o).2) else itemsM i os (acc ||| (itemM i o).1)
def fieldM (i : Nat) (part : List UInt8) : Nat × Bool × Int :=
  if part = [42] then (fullM i, true, 0) else ((itemsM i (splitL 44 part) 0).1, false, (itemsM i (splitL 44 part) 0).2)
def errOf (f : Nat → Int) : Nat → Nat → Int
  | _, 0 => 0
  | i, n + 1 => if f i ≠ 0 then f i else errOf f (i + 1) n
def wordsOk (l : List UInt8) : Bool := decide ((words l).length = 5) && !Lib.hasPrefix l [32] && !Lib.hasSuffix l [32]
def partErr (l : List UInt8) (i : Nat) : Int := (fieldM i ((words l).getD i [])).2.2
def parseE (l : List UInt8) : Int := if wordsOk l then errOf (partErr l) 0 5 else 20
def parseS (l : List UInt8) (i : Nat) : Nat := if parseE l = 0 then (fieldM i ((words l).getD i [])).1 else 0
def parseA (l : List UInt8) (i : Nat) : Bool := if parseE l = 0 then (fieldM i ((words l).getD i [])).2.1 else false
theorem errOf_at (f : Nat → Int) : ∀ (n i k : Nat), i ≤ k → k < i + n → (∀ j, i ≤ j → j < k → f j = 0) → f k ≠ 0 → errOf f i n = f k
  | 0, i, k, h1, h2, _, _ => by omega
  | n + 1, i, k, h1, h2, h3, h4 => by
    unfold errOf
    by_cases e : i = k
    · subst e; simp [h4]
    · rw [if_neg (by rw [h3 i (Nat.le_refl _) (by omega)]; simp)]
      exact errOf_at f n (i + 1) k (by omega) (by omega) (fun j a b => h3 j (by omega) b) h4
theorem errOf_none (f : Nat → Int) : ∀ (n i : Nat), (∀ j, i ≤ j → j < i + n → f j = 0) → errOf f i n = 0
  | 0, i, _ => rfl
  | n + 1, i, h => by
    unfold errOf
    rw [if_neg (by rw [h i (Nat.le_refl _) (by omega)]; simp)]
    exact errOf_none f n (i + 1) (fun j a b => h j (by omega) (by omega))

/-- a Spec as a value, and as cells -/
abbrev specA (s : Nat → Nat) (b : Nat → Bool) : Array Value := #[.int .u64 (s 0 : Nat), .int .u64 (s 1 : Nat), .int .u64 (s 2 : Nat), .int .u64 (s 3 : Nat), .int .u64 (s 4 : Nat), .bool (b 0), .bool (b 1), .bool (b 2), .bool (b 3), .bool (b 4)]
abbrev specV (s : Nat → Nat) (b : Nat → Bool) : Value := .agg (specA s b)

/-! memory -/
/-- below m nothing has turned but the blocks of X -/
structure SameBut (X : List Nat) (m : Nat) (W W' : World) : Prop where
  os : W'.os = W.os
  tape : W'.tape = W.tape
  output : W'.output = W.output
  size : W.heap.size ≤ W'.heap.size
  block : ∀ k, k < m → k ∉ X → W'.heap[k]? = W.heap[k]?
theorem SameBut.refl (X : List Nat) (m : Nat) (W : World) : SameBut X m W W := ⟨rfl, rfl, rfl, Nat.le_refl _, fun _ _ _ => rfl⟩
theorem SameBut.trans {X : List Nat} {m : Nat} {A B C : World} (h : SameBut X m A B) (k : SameBut X m B C) : SameBut X m A C :=
  ⟨k.os.trans h.os, k.tape.trans h.tape, k.output.trans h.output, Nat.le_trans h.size k.size, fun i a b => (k.block i a b).trans (h.block i a b)⟩
theorem SameBut.mono {X Y : List Nat} {m n : Nat} {A B : World} (h : SameBut X m A B) (hn : n ≤ m) (hX : ∀ x ∈ X, x < n → x ∈ Y) : SameBut Y n A B :=
  ⟨h.os, h.tape, h.output, h.size, fun i a b => h.block i (Nat.lt_of_lt_of_le a hn) (fun c => b (hX i c a))⟩
theorem SameBut.of_below {X : List Nat} {m n : Nat} {A B : World} (h : Below n A B) (hn : m ≤ n) : SameBut X m A B :=
  ⟨h.os, h.tape, h.output, h.size, fun i a _ => h.block i (Nat.lt_of_lt_of_le a hn)⟩
theorem SameBut.below {X : List Nat} {m n : Nat} {A B : World} (h : SameBut X m A B) (hn : n ≤ m) (hX : ∀ x ∈ X, n ≤ x) : Below n A B :=
  ⟨h.os, h.tape, h.output, h.size, fun i a => h.block i (Nat.lt_of_lt_of_le a hn) (fun c => by have := hX i c; omega)⟩
theorem SameBut.grown {X : List Nat} {m : Nat} {A B C : World} {row : Option Nat} (h : SameBut X m A B) (hm : m ≤ B.heap.size) (hg : B.grownBy C row) (hr : ∀ r, row = some r → r ∈ X ∨ m ≤ r) : SameBut X m A C :=
  ⟨hg.os.trans h.os, hg.tape.trans h.tape, hg.output.trans h.output, Nat.le_trans h.size hg.size, fun i a b => (hg.block i (by omega) (fun e => by rcases hr i e.symm with c | c; exact b c; omega)).trans (h.block i a b)⟩
theorem SameBut.set {X : List Nat} {m : Nat} {A B : World} (h : SameBut X m A B) (p : Addr) (hp : p.block ∈ X ∨ m ≤ p.block) (v : Value) : SameBut X m A (B.setCell p v) :=
  ⟨h.os, h.tape, h.output, Nat.le_trans h.size (by simp), fun i a b => (Below.heap_setCell _ _ _ i (fun e => by rcases hp with c | c; exact b (e ▸ c); omega)).trans (h.block i a b)⟩
theorem SameBut.boxed {X : List Nat} {m : Nat} {A B : World} (h : SameBut X m A B) {b : Nat} {t : TypeId} {v : Value} (hb : Boxed A b t v) (h1 : b < m) (h2 : b ∉ X) : Boxed B b t v := (h.block b h1 h2).trans hb

/-- an append into a box whose row lies past n₁ -/
theorem appended_past {W w1 : World} {n₁ B : Nat} {t e : TypeId} {size : Nat} {v v' : Value} {k m : Nat} {xs ys : List Value} {tmp : Obj}
    (hv : Boxed W B t v) (hte : t ≠ e) (hrow : W.ownsRow n₁ e size v k xs) (hn₁ : n₁ ≤ W.heap.size) 
    (hown' : w1.ownsRow n₁ e size v' m ys) (hgrow : (W.alloc tmp).grownBy w1 v.ownBlock) :
    Boxed w1 B t v ∧ Boxed (w1.setCell ⟨B, 0, none⟩ v') B t v' ∧ (w1.setCell ⟨B, 0, none⟩ v').ownsRow n₁ e size v' m ys ∧ KeepsOthers W (w1.setCell ⟨B, 0, none⟩ v') ∧ SameBut [B] n₁ W (w1.setCell ⟨B, 0, none⟩ v') := by
  have hv1 : Boxed w1 B t v := (hv.alloc tmp).kept hgrow (hv.not_row hte hrow)
  have hown : ∀ r, v.ownBlock = some r → n₁ ≤ r := fun r er => by
    rcases hrow.2 with ⟨rfl, _⟩ | ⟨g, cap, cur, rfl, hb, _, _⟩
    · simp [Value.ownBlock] at er
    · obtain rfl : g = r := by simpa [Value.ownBlock] using er
      exact hb
  refine ⟨hv1, hv1.set v', hown'.kept (grownBy_setCell' w1 B v') (.inr (hv1.not_row hte hown').symm), ?_, ?_⟩
  · refine ((KeepsOthers.alloc W tmp).trans (KeepsOthers.of_grownBy hgrow fun j o ej hj => ?_)).trans (KeepsOthers.setCell _ _ _)
    rcases (hrow.alloc tmp).2 with ⟨rfl, _⟩ | ⟨g, cap, cur, rfl, _, hgb, _⟩
    · simp [Value.ownBlock] at ej
    · obtain rfl : g = j := by simpa [Value.ownBlock] using ej
      rw [hgb] at hj; cases hj; rfl
  · exact (SameBut.grown (SameBut.of_below ((Below.refl n₁ W).alloc hn₁ tmp) (Nat.le_refl _)) (by simp; omega) hgrow fun r er => .inr (hown r er)).set _ (.inl (by simp)) v'

/-- a whole row is stored, inside a fence -/
theorem wpListIn_store_row {F : Fence} {n : Nat} {P : Program} {ops : Array Oper} {rest : List Oper} {o : Oper} {a : Act} {w : World} {Q : Exit → Act → World → Prop} (hgd : o.guard = none) (ty : TypeId) (x y : Operand) (ho : o.op = .store ty x y)
    (g : Nat) (cells : Array Value) (hx : a.eval x = .pointer (some ⟨g, 0, none⟩)) (hy : a.eval y = .agg cells)
    (t : TypeId) (old : Array Value) (hg : w.heap[g]? = some (.cells old t (0, 0))) (hi : (P.info? ty).map (·.size) = some cells.size)
    (hold : old.size = cells.size) (h1 : cells.all (·.oneCell') = true)
    (h : wpListIn F n P ops Q rest (a.put o.dst undef) (w.setRow g cells)) : wpListIn F n P ops Q (o :: rest) a w := by
  refine wpListIn_plain hgd fun K hK => ?_
  unfold Oper.wpIn
  refine ⟨by intro f hf; simp [Oper.about, ho] at hf, ?_⟩
  rw [Oper.semAt_plain F _ _ (by rw [ho]; intro c hc'; cases hc')]
  simp [execOp, ho, hx, hy, Instr.storeAt, Instr.sureAddr, Sem.run_bind, Sem.run_pure, Result.andThen_ok, run_storeVar_row w g t ty old cells hg hi hold h1]
  exact hK _ _ h
/-- a whole row is loaded, inside a fence -/
theorem wpListIn_load_row {F : Fence} {n : Nat} {P : Program} {ops : Array Oper} {rest : List Oper} {o : Oper} {a : Act} {w : World} {Q : Exit → Act → World → Prop} (hgd : o.guard = none) (ty : TypeId) (x : Operand) (ho : o.op = .load ty x)
    (g : Nat) (hx : a.eval x = .pointer (some ⟨g, 0, none⟩)) (t : TypeId) (cs : Array Value) (fr : Nat × Nat) (d : TypeDesc) (hg : w.heap[g]? = some (.cells cs t fr))
    (hu : P.underlying ty = some d) (hd : (match d with | .struct _ | .array _ _ => true | _ => false) = true) (hi : (P.info? ty).map (·.size) = some cs.size)
    (h : wpListIn F n P ops Q rest (a.put o.dst (.agg cs)) w) : wpListIn F n P ops Q (o :: rest) a w := by
  refine wpListIn_plain hgd fun K hK => ?_
  unfold Oper.wpIn
  refine ⟨by intro f hf; simp [Oper.about, ho] at hf, ?_⟩
  rw [Oper.semAt_plain F _ _ (by rw [ho]; intro c hc'; cases hc')]
  simp [execOp, ho, hx, Instr.loadAt, Instr.sureAddr, Sem.run_bind, Sem.run_pure, Result.andThen_ok, run_loadVar_row w g t ty cs fr d hg hu hd hi]
  exact hK _ _ h
theorem SameBut.setRow {X : List Nat} {m : Nat} {A B : World} (h : SameBut X m A B) (g : Nat) (hp : g ∈ X ∨ m ≤ g) (cs : Array Value) : SameBut X m A (B.setRow g cs) :=
  ⟨h.os, h.tape, h.output, Nat.le_trans h.size (by simp), fun i a b => (setRow_other _ _ _ _ (fun e => by rcases hp with c | c; exact b (e ▸ c); omega)).trans (h.block i a b)⟩

/-- the ten cells of a Spec -/
theorem cells10 {W : World} {R : Nat} {t : TypeId} {c0 c1 c2 c3 c4 c5 c6 c7 c8 c9 : Value} (h : W.heap[R]? = some (.cells #[c0, c1, c2, c3, c4, c5, c6, c7, c8, c9] t (0, 0))) :
    W.cell? ⟨R, 0, none⟩ = some c0 ∧ W.cell? ⟨R, 1, none⟩ = some c1 ∧ W.cell? ⟨R, 2, none⟩ = some c2 ∧ W.cell? ⟨R, 3, none⟩ = some c3 ∧ W.cell? ⟨R, 4, none⟩ = some c4 ∧ W.cell? ⟨R, 5, none⟩ = some c5 ∧ W.cell? ⟨R, 6, none⟩ = some c6 ∧ W.cell? ⟨R, 7, none⟩ = some c7 ∧ W.cell? ⟨R, 8, none⟩ = some c8 ∧ W.cell? ⟨R, 9, none⟩ = some c9 ∧ W.frozen? ⟨R, 0, none⟩ = false ∧ W.frozen? ⟨R, 1, none⟩ = false ∧ W.frozen? ⟨R, 2, none⟩ = false ∧ W.frozen? ⟨R, 3, none⟩ = false ∧ W.frozen? ⟨R, 4, none⟩ = false ∧ W.frozen? ⟨R, 5, none⟩ = false ∧ W.frozen? ⟨R, 6, none⟩ = false ∧ W.frozen? ⟨R, 7, none⟩ = false ∧ W.frozen? ⟨R, 8, none⟩ = false ∧ W.frozen? ⟨R, 9, none⟩ = false := by
  refine ⟨?_, ?_, ?_, ?_, ?_, ?_, ?_, ?_, ?_, ?_, ?_, ?_, ?_, ?_, ?_, ?_, ?_, ?_, ?_, ?_⟩ <;> simp [World.cell?, World.frozen?, h]
theorem set10 {W : World} {R : Nat} {t : TypeId} {c0 c1 c2 c3 c4 c5 c6 c7 c8 c9 v0 v1 v2 v3 v4 v5 v6 v7 v8 v9 : Value} (h : W.heap[R]? = some (.cells #[c0, c1, c2, c3, c4, c5, c6, c7, c8, c9] t (0, 0))) :
    ((((((((((W.setCell ⟨R, 0, none⟩ v0).setCell ⟨R, 1, none⟩ v1).setCell ⟨R, 2, none⟩ v2).setCell ⟨R, 3, none⟩ v3).setCell ⟨R, 4, none⟩ v4).setCell ⟨R, 5, none⟩ v5).setCell ⟨R, 6, none⟩ v6).setCell ⟨R, 7, none⟩ v7).setCell ⟨R, 8, none⟩ v8).setCell ⟨R, 9, none⟩ v9) = W.setRow R #[v0, v1, v2, v3, v4, v5, v6, v7, v8, v9] := by
  have h0 := h
  have e0 : W.setCell ⟨R, 0, none⟩ v0 = W.setRow R #[v0, c1, c2, c3, c4, c5, c6, c7, c8, c9] := setCell_eq_setRow W R 0 _ t (0, 0) v0 h0
  rw [e0]
  have h1 := setRow_heap W R _ #[v0, c1, c2, c3, c4, c5, c6, c7, c8, c9] t (0, 0) h0
  have e1 : (W.setRow R #[v0, c1, c2, c3, c4, c5, c6, c7, c8, c9]).setCell ⟨R, 1, none⟩ v1 = W.setRow R #[v0, v1, c2, c3, c4, c5, c6, c7, c8, c9] := (setCell_eq_setRow _ R 1 _ t (0, 0) v1 h1).trans (setRow_setRow _ _ _ _)
  rw [e1]
  have h2 := setRow_heap W R _ #[v0, v1, c2, c3, c4, c5, c6, c7, c8, c9] t (0, 0) h0
  have e2 : (W.setRow R #[v0, v1, c2, c3, c4, c5, c6, c7, c8, c9]).setCell ⟨R, 2, none⟩ v2 = W.setRow R #[v0, v1, v2, c3, c4, c5, c6, c7, c8, c9] := (setCell_eq_setRow _ R 2 _ t (0, 0) v2 h2).trans (setRow_setRow _ _ _ _)
  rw [e2]
  have h3 := setRow_heap W R _ #[v0, v1, v2, c3, c4, c5, c6, c7, c8, c9] t (0, 0) h0
  have e3 : (W.setRow R #[v0, v1, v2, c3, c4, c5, c6, c7, c8, c9]).setCell ⟨R, 3, none⟩ v3 = W.setRow R #[v0, v1, v2, v3, c4, c5, c6, c7, c8, c9] := (setCell_eq_setRow _ R 3 _ t (0, 0) v3 h3).trans (setRow_setRow _ _ _ _)
  rw [e3]
  have h4 := setRow_heap W R _ #[v0, v1, v2, v3, c4, c5, c6, c7, c8, c9] t (0, 0) h0
  have e4 : (W.setRow R #[v0, v1, v2, v3, c4, c5, c6, c7, c8, c9]).setCell ⟨R, 4, none⟩ v4 = W.setRow R #[v0, v1, v2, v3, v4, c5, c6, c7, c8, c9] := (setCell_eq_setRow _ R 4 _ t (0, 0) v4 h4).trans (setRow_setRow _ _ _ _)
  rw [e4]
  have h5 := setRow_heap W R _ #[v0, v1, v2, v3, v4, c5, c6, c7, c8, c9] t (0, 0) h0
  have e5 : (W.setRow R #[v0, v1, v2, v3, v4, c5, c6, c7, c8, c9]).setCell ⟨R, 5, none⟩ v5 = W.setRow R #[v0, v1, v2, v3, v4, v5, c6, c7, c8, c9] := (setCell_eq_setRow _ R 5 _ t (0, 0) v5 h5).trans (setRow_setRow _ _ _ _)
  rw [e5]
  have h6 := setRow_heap W R _ #[v0, v1, v2, v3, v4, v5, c6, c7, c8, c9] t (0, 0) h0
  have e6 : (W.setRow R #[v0, v1, v2, v3, v4, v5, c6, c7, c8, c9]).setCell ⟨R, 6, none⟩ v6 = W.setRow R #[v0, v1, v2, v3, v4, v5, v6, c7, c8, c9] := (setCell_eq_setRow _ R 6 _ t (0, 0) v6 h6).trans (setRow_setRow _ _ _ _)
  rw [e6]
  have h7 := setRow_heap W R _ #[v0, v1, v2, v3, v4, v5, v6, c7, c8, c9] t (0, 0) h0
  have e7 : (W.setRow R #[v0, v1, v2, v3, v4, v5, v6, c7, c8, c9]).setCell ⟨R, 7, none⟩ v7 = W.setRow R #[v0, v1, v2, v3, v4, v5, v6, v7, c8, c9] := (setCell_eq_setRow _ R 7 _ t (0, 0) v7 h7).trans (setRow_setRow _ _ _ _)
  rw [e7]
  have h8 := setRow_heap W R _ #[v0, v1, v2, v3, v4, v5, v6, v7, c8, c9] t (0, 0) h0
  have e8 : (W.setRow R #[v0, v1, v2, v3, v4, v5, v6, v7, c8, c9]).setCell ⟨R, 8, none⟩ v8 = W.setRow R #[v0, v1, v2, v3, v4, v5, v6, v7, v8, c9] := (setCell_eq_setRow _ R 8 _ t (0, 0) v8 h8).trans (setRow_setRow _ _ _ _)
  rw [e8]
  have h9 := setRow_heap W R _ #[v0, v1, v2, v3, v4, v5, v6, v7, v8, c9] t (0, 0) h0
  have e9 : (W.setRow R #[v0, v1, v2, v3, v4, v5, v6, v7, v8, c9]).setCell ⟨R, 9, none⟩ v9 = W.setRow R #[v0, v1, v2, v3, v4, v5, v6, v7, v8, v9] := (setCell_eq_setRow _ R 9 _ t (0, 0) v9 h9).trans (setRow_setRow _ _ _ _)
  rw [e9]
/-- a function's return through marks: no round has deferred a call -/
theorem leavesM_marks {F : Fence} {n : Nat} {P : Program} {fn : Func} {tmps : Array Value} {R : Ending → World → Prop} : ∀ (ds : List Nat) (W : World), ds.Nodup → (∀ D ∈ ds, W.heap[D]? = some (.deferred (some []))) →
    (∀ W', W'.os = W.os → W'.tape = W.tape → W'.output = W.output → W'.heap.size = W.heap.size → (∀ k, k ∉ ds → W'.heap[k]? = W.heap[k]?) → LeavesIn F n P fn tmps R [] .returning W') →
    LeavesInM F n P fn tmps R (ds.map fun D => { target := .collected D, args := #[] }) .returning W
  | [], W, _, _, h => h W rfl rfl rfl rfl (fun _ _ => rfl)
  | D :: ds, W, hnd, hall, h => by
    refine ⟨by simp, .inl ⟨D, W.putObj D (.deferred none), rfl, run_takeDeferred (hall D (List.mem_cons_self ..)), ?_⟩⟩
    have hnd' := List.nodup_cons.1 hnd
    refine leavesM_marks ds _ hnd'.2 (fun E hE => ?_) (fun W' h1 h2 h3 h4 h5 => ?_)
    · exact (World.putObj_heap_other (by intro e; subst e; exact hnd'.1 hE)).trans (hall E (List.mem_cons_of_mem _ hE))
    · refine h W' h1 h2 h3 (by simpa using h4) (fun k hk => ?_)
      rw [h5 k (fun c => hk (List.mem_cons_of_mem _ c))]
      exact World.putObj_heap_other (by intro e; subst e; exact hk (List.mem_cons_self ..))

/-! a Spec's cells, one by one -/
theorem spec_cell {W : World} {C : Nat} {S : Nat → Nat} {A : Nat → Bool} (h : W.heap[C]? = some (.cells (specA S A) 41 (0, 0))) (k : Nat) (hk : k < 5) :
    W.cell? ⟨C, k, none⟩ = some (.int .u64 (S k : Nat)) ∧ W.frozen? ⟨C, k, none⟩ = false ∧ W.cell? ⟨C, 5 + k, none⟩ = some (.bool (A k)) ∧ W.frozen? ⟨C, 5 + k, none⟩ = false := by
  obtain rfl | rfl | rfl | rfl | rfl : k = 0 ∨ k = 1 ∨ k = 2 ∨ k = 3 ∨ k = 4 := by omega
  all_goals simp [World.cell?, World.frozen?, h]
theorem spec_set {W : World} {C : Nat} {S : Nat → Nat} {A : Nat → Bool} (h : W.heap[C]? = some (.cells (specA S A) 41 (0, 0))) (k : Nat) (hk : k < 5) (v : Nat) :
    (W.setCell ⟨C, k, none⟩ (.int .u64 (v : Nat))).heap[C]? = some (.cells (specA (fun j => if j = k then v else S j) A) 41 (0, 0)) := by
  rw [setCell_eq_setRow W C k _ 41 (0, 0) _ h, setRow_heap W C _ _ 41 (0, 0) h]
  obtain rfl | rfl | rfl | rfl | rfl : k = 0 ∨ k = 1 ∨ k = 2 ∨ k = 3 ∨ k = 4 := by omega
  all_goals simp
theorem spec_setb {W : World} {C : Nat} {S : Nat → Nat} {A : Nat → Bool} (h : W.heap[C]? = some (.cells (specA S A) 41 (0, 0))) (k : Nat) (hk : k < 5) (v : Bool) :
    (W.setCell ⟨C, 5 + k, none⟩ (.bool v)).heap[C]? = some (.cells (specA S (fun j => if j = k then v else A j)) 41 (0, 0)) := by
  rw [setCell_eq_setRow W C (5 + k) _ 41 (0, 0) _ h, setRow_heap W C _ _ 41 (0, 0) h]
  obtain rfl | rfl | rfl | rfl | rfl : k = 0 ∨ k = 1 ∨ k = 2 ∨ k = 3 ∨ k = 4 := by omega
  all_goals simp

/-! the items of a part -/
def accM (i : Nat) (pre : List (List UInt8)) : Nat := pre.foldl (fun a o => a ||| (itemM i o).1) 0
theorem accM_snoc (i : Nat) (pre : List (List UInt8)) (x : List UInt8) : accM i (pre ++ [x]) = accM i pre ||| (itemM i x).1 := by simp [accM]
theorem itemsM_ok (i : Nat) : ∀ (l : List (List UInt8)) (acc : Nat), (∀ o ∈ l, (itemM i o).2 = 0) → itemsM i l acc = (l.foldl (fun a o => a ||| (itemM i o).1) acc, 0)
  | [], _, _ => rfl
  | o :: l, acc, h => by
    unfold itemsM
    rw [if_neg (by rw [h o (by simp)]; simp), itemsM_ok i l _ (fun q hq => h q (by simp [hq]))]
    rfl
theorem itemsM_bad (i : Nat) (x : List UInt8) (rest : List (List UInt8)) (hx : (itemM i x).2 ≠ 0) : ∀ (l : List (List UInt8)) (acc : Nat), (∀ o ∈ l, (itemM i o).2 = 0) → itemsM i (l ++ x :: rest) acc = (0, (itemM i x).2)
  | [], acc, _ => by simp [itemsM, hx]
  | o :: l, acc, h => by
    rw [List.cons_append]
    unfold itemsM
    rw [if_neg (by rw [h o (by simp)]; simp)]
    exact itemsM_bad i x rest hx l _ (fun q hq => h q (by simp [hq]))
theorem itemM_lt (i : Nat) (l : List UInt8) : (itemM i l).1 < 2 ^ 64 := by
  have h1 := hiM_le i
  unfold itemM
  dsimp only
  repeat' split
  all_goals first | (simp only []; decide) | (refine rowM_lt _ _ _ ?_; omega) | skip
  all_goals (refine rowM_lt _ _ _ ?_; omega)
theorem accM_lt (i : Nat) (pre : List (List UInt8)) : accM i pre < 2 ^ 64 := by
  have : ∀ (l : List (List UInt8)) (a : Nat), a < 2 ^ 64 → l.foldl (fun a o => a ||| (itemM i o).1) a < 2 ^ 64 := by
    intro l
    induction l with
    | nil => intro a h; exact h
    | cons o l ih => intro a h; exact ih _ (Nat.or_lt_two_pow h (itemM_lt i o))
  exact this pre 0 (by decide)
end Go.Proofs.YtgiclhkoajbgpaaDoor
