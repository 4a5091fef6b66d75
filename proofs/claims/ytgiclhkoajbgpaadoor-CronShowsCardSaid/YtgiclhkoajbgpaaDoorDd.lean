/-
  cron.Parse: its walk. (Printed by gen_dd.py.)
-/
import Derived.Test.YtgiclhkoajbgpaaDoorDc
import Derived.Maps.AppendAt
import Derived.Deep.RegionWith
namespace Go.Proofs.YtgiclhkoajbgpaaDoor
open Go.RowKit Go.Shelf

attribute [local go_sem] Oper.semAt_some

theorem info9 : (Tryd.prog.info? 9).map (fun i => (i.zero, i.size, i.bytes)) = some (some (.string ⟨#[]⟩), 1, 16) := by kernel_rfl
abbrev strV (x : List UInt8) : Value := .string ⟨x.toArray⟩
/-- what has been collected of the pieces -/
def wsOf (pre : Pieces) : Pieces := pre.filter (fun x => decide (x ≠ []))
theorem wsOf_hit (pre : Pieces) {x : List UInt8} (h : x ≠ []) : wsOf (pre ++ [x]) = wsOf pre ++ [x] := by simp [wsOf, h]
theorem wsOf_miss (pre : Pieces) {x : List UInt8} (h : x = []) : wsOf (pre ++ [x]) = wsOf pre := by simp [wsOf, h]
/-- the first loop's invariant: W0 is the world where it begins -/
def Coll (R : Nat) (W0 : World) (pre : Pieces) (W : World) : Prop :=
  (∃ v, Boxed W (R + 2) 71 v ∧ W.ownsRow (R + 6) 9 1 v (wsOf pre).length ((wsOf pre).map strV)) ∧ SameBut [R + 2, R + 3] (R + 6) W0 W
theorem coll_abides (R : Nat) (W0 : World) (h0 : W0.heap.size = R + 6) : Abides3 (R + 3) W0.heap.size (Coll R W0) := by
  rintro pre W W' row ⟨⟨v, hv, hr⟩, hS⟩ hg hrow
  have hown : ∀ r, v.ownBlock = some r → R + 6 ≤ r ∧ ∃ o : Obj, W.heap[r]? = some o ∧ o.isCells = true := fun r er => by
    rcases hr.2 with ⟨rfl, _⟩ | ⟨g, cap, cur, rfl, hb, hgb, _⟩
    · simp [Value.ownBlock] at er
    · obtain rfl : g = r := by simpa [Value.ownBlock] using er
      exact ⟨hb, _, hgb, rfl⟩
  refine ⟨⟨v, hv.kept hg (fun e => ?_), hr.kept hg ?_⟩, hS.grown (by have := hS.size; omega) hg (fun r e => ?_)⟩
  · rcases hrow _ e.symm with c | ⟨c, _⟩ <;> omega
  · by_cases hn : v.ownBlock = none
    · exact .inl hn
    · refine .inr fun e => ?_
      obtain ⟨r, hr'⟩ := Option.ne_none_iff_exists'.1 hn
      obtain ⟨c1, o, c2, c3⟩ := hown r hr'
      rcases hrow r (by rw [← e, hr']) with c | ⟨_, o', c4, c5⟩
      · omega
      · rw [c2] at c4; cases c4; rw [c3] at c5; cases c5
  · rcases hrow _ e with c | ⟨c, _⟩
    · left; simp [c]
    · right; omega

theorem splitL_len (c : UInt8) : ∀ l : List UInt8, (splitL c l).length ≤ l.length + 1
  | [] => by simp [splitL]
  | b :: r => by
    have := splitL_len c r
    unfold splitL
    split
    · simp; omega
    · split
      · rename_i h; rw [h] at this; simp at this ⊢; omega
      · simp
theorem splitL_le (c : UInt8) : ∀ l : List UInt8, ∀ p ∈ splitL c l, p.length ≤ l.length
  | [] => by simp [splitL]
  | b :: r => by
    have := splitL_le c r
    unfold splitL
    split
    · intro p hp
      rcases List.mem_cons.1 hp with rfl | hp
      · simp
      · have := this p hp; simp; omega
    · split
      · rename_i p ps h
        intro q hq
        rcases List.mem_cons.1 hq with rfl | hq
        · have := this p (by rw [h]; simp); simp; omega
        · have := this q (by rw [h]; simp [hq]); simp; omega
      · intro q hq; simp at hq; subst hq; simp
set_option maxHeartbeats 1000000 in
theorem leave24 {n : Nat} {w W : World} {tmps : Array Value} {S : Nat → Nat} {A : Nat → Bool} {er : Int} (ds : List Nat) (hp2 : tmps.getD 2 undef = .pointer (some ⟨w.heap.size, 0, none⟩)) (hp3 : tmps.getD 3 undef = .pointer (some ⟨w.heap.size + 1, 0, none⟩))
    (hR : W.heap[w.heap.size]? = some (.cells (specA S A) 41 (0, 0))) (hE : Boxed W (w.heap.size + 1) 24 (.int .i64 er)) (hnd : ds.Nodup) (hds : ∀ D ∈ ds, w.heap.size + 1 < D ∧ W.heap[D]? = some (.deferred (some [])))
    (hb : Below w.heap.size w W) : LeavesInM Fence.wide n Tryd.prog Tryd.f24 tmps (fun e w' => e = .returned (.tuple #[specV S A, .int .i64 er]) ∧ Below w.heap.size w w') (ds.map fun D => { target := .collected D, args := #[] }) .returning W := by
  refine leavesM_marks ds W hnd (fun D hD => (hds D hD).2) fun W' h1 h2 h3 h4 h5 => ?_
  have kR : W'.heap[w.heap.size]? = some (.cells (specA S A) 41 (0, 0)) := (h5 _ (fun c => by have := (hds _ c).1; omega)).trans hR
  have kE : Boxed W' (w.heap.size + 1) 24 (.int .i64 er) := (h5 _ (fun c => by have := (hds _ c).1; omega)).trans hE
  have hb' : Below w.heap.size w W' := ⟨h1.trans hb.os, h2.trans hb.tape, h3.trans hb.output, by rw [h4]; exact hb.size, fun k hk => (h5 k (fun c => by have := (hds _ c).1; omega)).trans (hb.block k hk)⟩
  obtain ⟨r0, r1, r2, r3, r4, r5, r6, r7, r8, r9, f0, f1, f2, f3, f4, f5, f6, f7, f8, f9⟩ := cells10 kR
  have hcE := kE.cell
  have hp2' : tmps[2]?.getD undef = .pointer (some ⟨w.heap.size, 0, none⟩) := by simpa using hp2
  have hp3' : tmps[3]?.getD undef = .pointer (some ⟨w.heap.size + 1, 0, none⟩) := by simpa using hp3
  exact ⟨.tuple #[specV S A, .int .i64 er], by simp [results, Tryd.results24, go_sem, hp2', hp3', r0, r1, r2, r3, r4, r5, r6, r7, r8, r9, hcE], rfl, hb'⟩
abbrev zero10 : Array Value := #[.int .u64 0, .int .u64 0, .int .u64 0, .int .u64 0, .int .u64 0, .bool false, .bool false, .bool false, .bool false, .bool false]
theorem spec_zero {s : List UInt8} (h : parseE s ≠ 0) : specA (parseS s) (parseA s) = zero10 := by simp [specA, parseS, parseA, h]
theorem leave24_err {s : List UInt8} {n : Nat} {w W : World} {tmps : Array Value} {er e0 : Int} (he : parseE s = er) (he0 : er ≠ 0) (ds : List Nat) (hp2 : tmps.getD 2 undef = .pointer (some ⟨w.heap.size, 0, none⟩)) (hp3 : tmps.getD 3 undef = .pointer (some ⟨w.heap.size + 1, 0, none⟩))
    {c0 c1 c2 c3 c4 c5 c6 c7 c8 c9 : Value} (bR : W.heap[w.heap.size]? = some (.cells #[c0, c1, c2, c3, c4, c5, c6, c7, c8, c9] 41 (0, 0))) (bE : Boxed W (w.heap.size + 1) 24 (.int .i64 e0)) (hnd : ds.Nodup) (hds : ∀ D ∈ ds, w.heap.size + 1 < D ∧ W.heap[D]? = some (.deferred (some [])))
    (hb : Below w.heap.size w W) : LeavesInM Fence.wide n Tryd.prog Tryd.f24 tmps (fun e w' => e = .returned (.tuple #[specV (parseS s) (parseA s), .int .i64 (parseE s)]) ∧ Below w.heap.size w w') (ds.map fun D => { target := .collected D, args := #[] }) .returning
      ((W.setRow w.heap.size zero10).setCell ⟨w.heap.size + 1, 0, none⟩ (.int .i64 er)) := by
  subst he
  have b1 : Boxed (W.setRow w.heap.size zero10) (w.heap.size + 1) 24 (.int .i64 e0) := (setRow_other _ _ _ _ (by omega)).trans bE
  refine leave24 ds hp2 hp3 ?_ (b1.set _) hnd (fun D hD => ⟨(hds D hD).1, ?_⟩) ?_
  · rw [spec_zero he0]
    exact (Below.heap_setCell _ _ _ _ (by simp)).trans (setRow_heap _ _ _ _ _ _ bR)
  · have := (hds D hD).1
    exact ((Below.heap_setCell _ _ _ _ (by simp; omega)).trans (setRow_other _ _ _ _ (by omega))).trans (hds D hD).2
  · have h1 : SameBut [w.heap.size, w.heap.size + 1] w.heap.size w W := SameBut.of_below hb (Nat.le_refl _)
    exact ((h1.setRow _ (.inl (by simp)) zero10).set ⟨w.heap.size + 1, 0, none⟩ (.inl (by simp)) _).below (Nat.le_refl _) (by simp)
/-- the fields that are done -/
def skM (s : List UInt8) (k : Nat) (j : Nat) : Nat := if j < k then (fieldM j ((words s).getD j [])).1 else 0
def akM (s : List UInt8) (k : Nat) (j : Nat) : Bool := if j < k then (fieldM j ((words s).getD j [])).2.1 else false
/-- the second loop's invariant: W1 is the world where it begins, C the block of the spec under way -/
structure PInv (s : List UInt8) (R C : Nat) (W1 : World) (k : Nat) (ds : List Nat) (W : World) : Prop where
  le : k ≤ 5
  nd : ds.Nodup
  marks : ∀ D ∈ ds, R + 1 < D ∧ D ≠ C ∧ W.heap[D]? = some (.deferred (some []))
  same : SameBut [] C W1 W
  spec : W.heap[C]? = some (.cells (specA (skM s k) (akM s k)) 41 (0, 0))
  good : ∀ j, j < k → partErr s j = 0
theorem leave24_set {s : List UInt8} {n : Nat} {w W : World} {tmps : Array Value} {S : Nat → Nat} {A : Nat → Bool} {er e0 : Int} (hS : specA S A = specA (parseS s) (parseA s)) (he : parseE s = er) (ds : List Nat) (hp2 : tmps.getD 2 undef = .pointer (some ⟨w.heap.size, 0, none⟩)) (hp3 : tmps.getD 3 undef = .pointer (some ⟨w.heap.size + 1, 0, none⟩))
    {c0 c1 c2 c3 c4 c5 c6 c7 c8 c9 : Value} (bR : W.heap[w.heap.size]? = some (.cells #[c0, c1, c2, c3, c4, c5, c6, c7, c8, c9] 41 (0, 0))) (bE : Boxed W (w.heap.size + 1) 24 (.int .i64 e0)) (hnd : ds.Nodup) (hds : ∀ D ∈ ds, w.heap.size + 1 < D ∧ W.heap[D]? = some (.deferred (some [])))
    (hb : Below w.heap.size w W) : LeavesInM Fence.wide n Tryd.prog Tryd.f24 tmps (fun e w' => e = .returned (.tuple #[specV (parseS s) (parseA s), .int .i64 (parseE s)]) ∧ Below w.heap.size w w') (ds.map fun D => { target := .collected D, args := #[] }) .returning
      ((W.setRow w.heap.size (specA S A)).setCell ⟨w.heap.size + 1, 0, none⟩ (.int .i64 er)) := by
  subst he
  have b1 : Boxed (W.setRow w.heap.size (specA S A)) (w.heap.size + 1) 24 (.int .i64 e0) := (setRow_other _ _ _ _ (by omega)).trans bE
  refine leave24 ds hp2 hp3 ?_ (b1.set _) hnd (fun D hD => ⟨(hds D hD).1, ?_⟩) ?_
  · rw [← hS]
    exact (Below.heap_setCell _ _ _ _ (by simp)).trans (setRow_heap _ _ _ _ _ _ bR)
  · have := (hds D hD).1
    exact ((Below.heap_setCell _ _ _ _ (by simp; omega)).trans (setRow_other _ _ _ _ (by omega))).trans (hds D hD).2
  · have h1 : SameBut [w.heap.size, w.heap.size + 1] w.heap.size w W := SameBut.of_below hb (Nat.le_refl _)
    exact ((h1.setRow _ (.inl (by simp)) (specA S A)).set ⟨w.heap.size + 1, 0, none⟩ (.inl (by simp)) _).below (Nat.le_refl _) (by simp)
theorem parse_done {s : List UInt8} (ok : wordsOk s = true) (h : ∀ j, j < 5 → partErr s j = 0) : parseE s = 0 ∧ specA (skM s 5) (akM s 5) = specA (parseS s) (parseA s) := by
  have he : parseE s = 0 := by unfold parseE; rw [if_pos ok]; exact errOf_none _ _ _ (fun j _ hj => h j (by omega))
  refine ⟨he, ?_⟩
  simp [specA, skM, akM, parseS, parseA, he]
/-- the inner loop's invariant, and its way out: Wb is the world where it begins -/
def InI (s : List UInt8) (k C B1 : Nat) (Wb : World) (pre : Pieces) (W : World) : Prop :=
  (∀ o ∈ pre, (itemM k o).2 = 0) ∧ W.heap[C]? = some (.cells (specA (fun j => if j = k then accM k pre else skM s k j) (akM s k)) 41 (0, 0)) ∧ SameBut [C, B1 + 1] (B1 + 4) Wb W
def InX (R k C B1 : Nat) (Wb : World) (c : Code) (pre : Pieces) (W : World) : Prop :=
  c = .ret ∧ ∃ pre' x, pre = pre' ++ [x] ∧ (∀ o ∈ pre', (itemM k o).2 = 0) ∧ (itemM k x).2 ≠ 0 ∧ W.heap[R]? = some (.cells zero10 41 (0, 0)) ∧ Boxed W (R + 1) 24 (.int .i64 (itemM k x).2) ∧ SameBut [R, R + 1, C, B1 + 1] (B1 + 4) Wb W
theorem inI_abides (s : List UInt8) (k C B1 : Nat) (Wb : World) (h0 : Wb.heap.size = B1 + 4) (hC : C < B1) : Abides3 (B1 + 1) Wb.heap.size (InI s k C B1 Wb) := by
  rintro pre W W' row ⟨h1, h2, hS⟩ hg hrow
  have hz := hS.size
  refine ⟨h1, (hg.block C (by omega) (fun e => ?_)).trans h2, hS.grown (by omega) hg (fun r e => ?_)⟩
  · rcases hrow _ e.symm with c | ⟨c, _⟩ <;> omega
  · rcases hrow _ e with c | ⟨c, _⟩
    · left; simp [c]
    · right; omega
theorem inX_abides (R k C B1 : Nat) (Wb : World) (h0 : Wb.heap.size = B1 + 4) (hC : C < B1) (hR : R + 1 < C) (c : Code) : Abides3 (B1 + 1) Wb.heap.size (InX R k C B1 Wb c) := by
  rintro pre W W' row ⟨h1, pre', x, h2, h3, h4, h5, h6, hS⟩ hg hrow
  have hz := hS.size
  refine ⟨h1, pre', x, h2, h3, h4, (hg.block R (by omega) (fun e => ?_)).trans h5, h6.kept hg (fun e => ?_), hS.grown (by omega) hg (fun r e => ?_)⟩
  · rcases hrow _ e.symm with c | ⟨c, _⟩ <;> omega
  · rcases hrow _ e.symm with c | ⟨c, _⟩ <;> omega
  · rcases hrow _ e with c | ⟨c, _⟩
    · left; simp [c]
    · right; omega
theorem keeps_of_below {W W' : World} (h : Below W.heap.size W W') : KeepsOthers W W' := ⟨h.size, fun k _ ho _ => (h.block k (Array.getElem?_eq_some_iff.1 ho).1).trans ho⟩
theorem keeps_setRow {W : World} {g : Nat} {old : Array Value} {t : TypeId} {fr : Nat × Nat} (hg : W.heap[g]? = some (.cells old t fr)) (cs : Array Value) : KeepsOthers W (W.setRow g cs) := ⟨by simp, fun k o ho hc => by
  by_cases e : k = g
  · subst e; rw [hg] at ho; cases ho; cases hc
  · exact (setRow_other _ _ _ _ e).trans ho⟩
theorem BoundsIs.below {w W : World} (hB : BoundsIs w) (hb : Below w.heap.size w W) : BoundsIs W := fun i hi =>
  have hl : 1 < w.heap.size := World.block_lt_of_cell? w _ (hB i hi).1
  ⟨(hb.cell (p := ⟨1, i * 2, none⟩) hl).trans (hB i hi).1, (hb.cell (p := ⟨1, i * 2 + 1, none⟩) hl).trans (hB i hi).2⟩
theorem spec_upd (S : Nat → Nat) (k a b : Nat) : (fun j => if j = k then a else (if j = k then b else S j)) = fun j => if j = k then a else S j := by
  funext j; by_cases h : j = k <;> simp [h]
theorem spec_ini (s : List UInt8) (k : Nat) : (fun j => if j = k then accM k [] else skM s k j) = skM s k := by
  funext j; by_cases h : j = k <;> simp [h, accM, skM]
theorem parse_bad {s : List UInt8} {k : Nat} {p : List UInt8} {pre' : Pieces} {x : List UInt8} (ok : wordsOk s = true) (hk : k < 5) (hp : (words s).getD k [] = p) (star : (p == [42]) = false) (good : ∀ j, j < k → partErr s j = 0)
    (hpre : pre' ++ [x] <+: splitL 44 p) (hok : ∀ o ∈ pre', (itemM k o).2 = 0) (hx0 : (itemM k x).2 ≠ 0) : parseE s = (itemM k x).2 := by
  obtain ⟨rest, hr⟩ := hpre
  have hp2 : ¬ p = [42] := by simpa using star
  have he : partErr s k = (itemM k x).2 := by
    unfold partErr fieldM
    rw [hp, if_neg hp2, ← hr, List.append_assoc, List.singleton_append, itemsM_bad k x rest hx0 pre' 0 hok]
  unfold parseE
  rw [if_pos ok, errOf_at (partErr s) 5 0 k (by omega) (by omega) (fun j _ hj => good j hj) (by rw [he]; exact hx0), he]
theorem part_good {s : List UInt8} {k : Nat} {p : List UInt8} (hp : (words s).getD k [] = p) (star : (p == [42]) = false) (hok : ∀ o ∈ splitL 44 p, (itemM k o).2 = 0) :
    partErr s k = 0 ∧ fieldM k p = (accM k (splitL 44 p), false, 0) := by
  have hp2 : ¬ p = [42] := by simpa using star
  have hf : fieldM k p = (accM k (splitL 44 p), false, 0) := by
    unfold fieldM
    rw [if_neg hp2, itemsM_ok k _ 0 hok]; rfl
  exact ⟨by unfold partErr; rw [hp, hf], hf⟩
theorem specA_next {s : List UInt8} {k : Nat} {p : List UInt8} {v : Nat} {b : Bool} {e : Int} (hp : (words s).getD k [] = p) (hf : fieldM k p = (v, b, e)) :
    (fun j => if j = k then v else skM s k j) = skM s (k + 1) ∧ (fun j => if j = k then b else akM s k j) = akM s (k + 1) := by
  constructor
  · funext j
    by_cases h : j = k
    · subst h; simp only [skM, if_pos (Nat.lt_succ_self j), hp, hf, if_true]
    · simp only [skM, if_neg h, show (j < k + 1) ↔ j < k by omega]
  · funext j
    by_cases h : j = k
    · subst h; simp only [akM, if_pos (Nat.lt_succ_self j), hp, hf, if_true]
    · simp only [akM, if_neg h, show (j < k + 1) ↔ j < k by omega]
theorem akM_self (s : List UInt8) (k : Nat) : (fun j => if j = k then false else akM s k j) = akM s k := by
  funext j; by_cases h : j = k <;> simp [h, akM]
theorem wordsOk_false {s : List UInt8} (h : wordsOk s = false) : ¬ ((words s).length : Int) = 5 ∨ (((words s).length : Int) = 5 ∧ Lib.hasPrefix s [32] = true) ∨ (((words s).length : Int) = 5 ∧ Lib.hasPrefix s [32] = false ∧ Lib.hasSuffix s [32] = true) := by
  unfold wordsOk at h
  by_cases c : (words s).length = 5
  · cases h1 : Lib.hasPrefix s [32] <;> cases h2 : Lib.hasSuffix s [32] <;> simp [c, h1, h2] at h ⊢
  · left; omega
theorem heap_keep {w : World} {k : Nat} {o : Obj} (h : w.heap[k]? = some o) (o' : Obj) : (w.alloc o').heap[k]? = some o :=
  (Below.heap_alloc w o' k (Array.getElem?_eq_some_iff.1 h).1).trans h
theorem start_facts (s : List UInt8) (w : World) : ItAt (w.heap.size + 3) 32 s ((((((w.alloc (.cells #[.int .u64 0, .int .u64 0, .int .u64 0, .int .u64 0, .int .u64 0, .bool false, .bool false, .bool false, .bool false, .bool false] 41)).alloc (.cells #[.int .i64 0] 24)).alloc (.cells #[.slice none 0 0] 71)).alloc (.cells #[.string ⟨s.toArray⟩] 9)).alloc (.cells #[.string ⟨#[32]⟩] 9)).alloc (.cells #[.int .i64 0] 3)) ∧ ((((((w.alloc (.cells #[.int .u64 0, .int .u64 0, .int .u64 0, .int .u64 0, .int .u64 0, .bool false, .bool false, .bool false, .bool false, .bool false] 41)).alloc (.cells #[.int .i64 0] 24)).alloc (.cells #[.slice none 0 0] 71)).alloc (.cells #[.string ⟨s.toArray⟩] 9)).alloc (.cells #[.string ⟨#[32]⟩] 9)).alloc (.cells #[.int .i64 0] 3)).heap[w.heap.size]? = some (.cells #[.int .u64 0, .int .u64 0, .int .u64 0, .int .u64 0, .int .u64 0, .bool false, .bool false, .bool false, .bool false, .bool false] 41 (0, 0)) ∧
    Boxed ((((((w.alloc (.cells #[.int .u64 0, .int .u64 0, .int .u64 0, .int .u64 0, .int .u64 0, .bool false, .bool false, .bool false, .bool false, .bool false] 41)).alloc (.cells #[.int .i64 0] 24)).alloc (.cells #[.slice none 0 0] 71)).alloc (.cells #[.string ⟨s.toArray⟩] 9)).alloc (.cells #[.string ⟨#[32]⟩] 9)).alloc (.cells #[.int .i64 0] 3)) (w.heap.size + 1) 24 (.int .i64 0) ∧ Boxed ((((((w.alloc (.cells #[.int .u64 0, .int .u64 0, .int .u64 0, .int .u64 0, .int .u64 0, .bool false, .bool false, .bool false, .bool false, .bool false] 41)).alloc (.cells #[.int .i64 0] 24)).alloc (.cells #[.slice none 0 0] 71)).alloc (.cells #[.string ⟨s.toArray⟩] 9)).alloc (.cells #[.string ⟨#[32]⟩] 9)).alloc (.cells #[.int .i64 0] 3)) (w.heap.size + 2) 71 (.slice none 0 0) ∧ ((((((w.alloc (.cells #[.int .u64 0, .int .u64 0, .int .u64 0, .int .u64 0, .int .u64 0, .bool false, .bool false, .bool false, .bool false, .bool false] 41)).alloc (.cells #[.int .i64 0] 24)).alloc (.cells #[.slice none 0 0] 71)).alloc (.cells #[.string ⟨s.toArray⟩] 9)).alloc (.cells #[.string ⟨#[32]⟩] 9)).alloc (.cells #[.int .i64 0] 3)).heap.size = w.heap.size + 6 ∧ Below w.heap.size w ((((((w.alloc (.cells #[.int .u64 0, .int .u64 0, .int .u64 0, .int .u64 0, .int .u64 0, .bool false, .bool false, .bool false, .bool false, .bool false] 41)).alloc (.cells #[.int .i64 0] 24)).alloc (.cells #[.slice none 0 0] 71)).alloc (.cells #[.string ⟨s.toArray⟩] 9)).alloc (.cells #[.string ⟨#[32]⟩] 9)).alloc (.cells #[.int .i64 0] 3)) := by
  refine ⟨?_, ?_, ?_, ?_, by simp, ?_⟩
  · have := itAt_new 32 s (((w.alloc (.cells #[.int .u64 0, .int .u64 0, .int .u64 0, .int .u64 0, .int .u64 0, .bool false, .bool false, .bool false, .bool false, .bool false] 41)).alloc (.cells #[.int .i64 0] 24)).alloc (.cells #[.slice none 0 0] 71))
    simpa using this
  · exact heap_keep (heap_keep (heap_keep (heap_keep (heap_keep (World.alloc_heap_new w _) _) _) _) _) _
  · have := (((Boxed.new (w.alloc (.cells #[.int .u64 0, .int .u64 0, .int .u64 0, .int .u64 0, .int .u64 0, .bool false, .bool false, .bool false, .bool false, .bool false] 41)) 24 (.int .i64 0)).alloc (.cells #[.slice none 0 0] 71)).alloc (.cells #[.string ⟨s.toArray⟩] 9)).alloc (.cells #[.string ⟨#[32]⟩] 9) |>.alloc (.cells #[.int .i64 0] 3)
    simpa using this
  · have := (((Boxed.new ((w.alloc (.cells #[.int .u64 0, .int .u64 0, .int .u64 0, .int .u64 0, .int .u64 0, .bool false, .bool false, .bool false, .bool false, .bool false] 41)).alloc (.cells #[.int .i64 0] 24)) 71 (.slice none 0 0)).alloc (.cells #[.string ⟨s.toArray⟩] 9)).alloc (.cells #[.string ⟨#[32]⟩] 9)).alloc (.cells #[.int .i64 0] 3)
    simpa using this
  · exact ((((((Below.refl w.heap.size w).alloc (Nat.le_refl _) _).alloc (by simp) _).alloc (by simp; omega) _).alloc (by simp; omega) _).alloc (by simp; omega) _).alloc (by simp; omega) _

set_option maxRecDepth 100000 in
set_option maxHeartbeats 16000000 in
theorem parse_walk (s : List UInt8) (hs : s.length ≤ 100000) (w : World) (hB : BoundsIs w) (n : Nat) (hn : 20 ≤ n) :
    CallsIn Fence.wide n Tryd.prog 24 #[.string ⟨s.toArray⟩] w fun e w' => e = .returned (.tuple #[specV (parseS s) (parseA s), .int .i64 (parseE s)]) ∧ Below w.heap.size w w' := by
  obtain ⟨i0, hi, hz0, hz1, hz2⟩ := info_parts info9
  refine callsIn_of_wp_marks Tryd.func24 rfl trivial ?_ rfl
  simp only [Tryd.ntmps24, List.size_toArray, List.length_cons, List.length_nil, Nat.reduceAdd, Nat.reduceSub, Array.replicate_succ, Array.replicate_zero, List.push_toArray, List.append_toArray, List.nil_append, List.cons_append]
  gi_wp2_with (refine ⟨trivial, (fun h => by cases h), ?_⟩; gi_at_call 42; refine (SplitSeq_in Fence.wide (n - 1) trivial trivial rfl (by omega) _ _ _).mono ?_; rintro e w' ⟨rfl, rfl⟩)
  simp only [Nat.add_assoc, Nat.reduceAdd]
  obtain ⟨hIt, hbR, hbE, hbP, hsz, hW0b⟩ := start_facts s w
  generalize ((((((w.alloc (.cells #[.int .u64 0, .int .u64 0, .int .u64 0, .int .u64 0, .int .u64 0, .bool false, .bool false, .bool false, .bool false, .bool false] 41)).alloc (.cells #[.int .i64 0] 24)).alloc (.cells #[.slice none 0 0] 71)).alloc (.cells #[.string ⟨s.toArray⟩] 9)).alloc (.cells #[.string ⟨#[32]⟩] 9)).alloc (.cells #[.int .i64 0] 3)) = W0 at hIt hbR hbE hbP hsz hW0b ⊢
  refine wpIn_told (F := Fence.wide) (n := n) rfl (by omega) (gf := 80) (lb := #[.pointer (some ⟨w.heap.size + 4, 0, none⟩), .pointer (some ⟨w.heap.size + 3, 0, none⟩), .pointer (some ⟨w.heap.size + 5, 0, none⟩)]) rfl trivial (enters_of Tryd.func80 (by kernel_rfl) rfl)
    (full := splitL 32 s) (B := w.heap.size + 3) (by omega) (split_tells (n - 1) 32 s (by omega) (w.heap.size + 3) W0 (by omega) hIt) rfl
    (Coll w.heap.size W0) (fun _ _ _ => False) (coll_abides w.heap.size W0 hsz) (fun _ _ _ _ _ h _ _ => h)
    ⟨⟨_, hbP, World.ownsRow_nil _ _ _ _⟩, SameBut.refl _ _ _⟩
    (fun x => { tmps := #[.string ⟨s.toArray⟩, undef, .pointer (some ⟨w.heap.size, 0, none⟩), .pointer (some ⟨w.heap.size + 1, 0, none⟩), .pointer (some ⟨w.heap.size + 2, 0, none⟩), .string ⟨x.toArray⟩, undef, undef, undef, undef, undef, undef, .string ⟨s.toArray⟩, .func (.func 80) #[] #[.pointer (some ⟨w.heap.size + 4, 0, none⟩), .pointer (some ⟨w.heap.size + 3, 0, none⟩), .pointer (some ⟨w.heap.size + 5, 0, none⟩)], .string ⟨x.toArray⟩, undef, undef, undef, undef, undef, undef, undef, undef, undef, undef, undef, undef, undef, undef, undef, undef, undef, undef, undef, undef, undef, undef, undef, undef, undef, undef, undef, undef, undef, undef, undef, undef, undef, undef, undef, undef, undef, undef, undef, undef, undef, undef, undef, undef, undef, undef, undef, undef, undef, undef, undef, undef, undef, undef, undef, undef, undef, undef], defers := [] }) ?assign ?body ?done ?stop
  case assign =>
    intro l x W K hK
    gi_wp2
    exact hK
  case stop =>
    rintro D c pre W _ _ h _
    exact h.elim
  case body =>
    rintro l pre x W hl hlW ⟨⟨v, hv, hrow⟩, hS⟩ hpre
    have hc := hv.cell
    have hpl : (wsOf pre).length ≤ 100001 := by
      have h1 : (wsOf pre).length ≤ pre.length := List.length_filter_le _ _
      have h2 := hpre.length_le
      have h3 := splitL_len 32 s
      simp at h2; omega
    have hsz2 := hS.size
    gi_wp2_with (gi_at_builtin; refine wpListIn_append_own _ rfl _ _ 71 rfl (w.heap.size + 6) 9 i0 (.string ⟨#[]⟩) 1 16 Tryd.underlying71 hi hz0 hz1 hz2 rfl (by decide) _ _ _ rfl (hrow.alloc _) ⟨W.heap.size, 0, none⟩ 1 1 [strV x] rfl rfl (cell_one_new _ _ _) (by simp [Value.oneCell']) (by unfold maxLen; omega) (by omega) (by simp; omega) ?_; intro v' w1 hown' hgrow _; obtain ⟨g', cap', rfl⟩ := ownsRow_succ hown'; obtain ⟨hv1, hv2, hr2, hk2, hb2⟩ := appended_past hv (by decide) hrow (by omega) hown' hgrow; have hc1 := hv1.cell; have hf1 := hv1.frozen)
    · have hx : x ≠ [] := by
        have : (!x.isEmpty) = true := by assumption
        simpa using this
      exact ⟨hk2, ⟨hb2.size, fun k a b => hb2.block k (by omega) (by simp; omega)⟩, ⟨_, hv2, by rw [wsOf_hit pre hx]; simpa using hr2⟩, hS.trans (hb2.mono (Nat.le_refl _) (by simp))⟩
    · have hx : x = [] := by
        have : (!x.isEmpty) = false := by assumption
        simpa using this
      exact ⟨KeepsOthers.refl _, ⟨Nat.le_refl _, fun _ _ _ => rfl⟩, ⟨v, hv, by rw [wsOf_miss pre hx]; exact hrow⟩, hS⟩
  case done =>
    rintro D W hD ⟨⟨v, hv, hrow⟩, hS⟩ hK
    have hws : wsOf (splitL 32 s) = words s := rfl
    rw [hws] at hrow
    obtain ⟨ao, cap, hve⟩ : ∃ ao cap, v = .slice ao (words s).length cap := by
      rcases hrow.2 with ⟨rfl, h0⟩ | ⟨g, cap, _, rfl, _⟩
      · exact ⟨none, 0, by rw [h0]⟩
      · exact ⟨_, _, rfl⟩
    subst hve
    have hc := hv.cell
    have bR := (hS.block w.heap.size (by omega) (by simp)).trans hbR
    have bE := hS.boxed hbE (by omega) (by simp)
    have hcE := bE.cell
    have hfE := bE.frozen
    have hsz2 := hS.size
    obtain ⟨r0, r1, r2, r3, r4, r5, r6, r7, r8, r9, f0, f1, f2, f3, f4, f5, f6, f7, f8, f9⟩ := cells10 bR
    have hDm : ∀ E ∈ [D], w.heap.size + 1 < E ∧ W.heap[E]? = some (.deferred (some [])) := by
      intro E hE; simp at hE; subst hE; exact ⟨by omega, hK⟩
    have hbW : Below w.heap.size w W := hW0b.trans (hS.below (by omega) (by simp))
    cases ok : wordsOk s with
    | false =>
      have he : parseE s = 20 := by simp [parseE, ok]
      rcases wordsOk_false ok with c5 | ⟨c5, cp⟩ | ⟨c5, cp, cs⟩
      · gi_wp2_with (first | (refine ⟨trivial, (fun h => by cases h), ?_⟩; gi_at_call 43; refine (callsIn_wide.2 (Tryd.strings_HasPrefix _ _ _)).mono ?_; rintro e w' ⟨rfl, hww⟩; obtain rfl := hww.symm) | (refine ⟨trivial, (fun h => by cases h), ?_⟩; gi_at_call 44; refine (callsIn_wide.2 (Tryd.strings_HasSuffix _ _ _ (by simp [ByteArray.size]; omega))).mono ?_; rintro e w' ⟨rfl, hww⟩; obtain rfl := hww.symm) | (refine (⟨trivial, ?_⟩ : Fence.wide.fn 43 ∧ _)) | (refine (⟨trivial, ?_⟩ : Fence.wide.fn 44 ∧ _)))
        rw [set10 bR]
        exact leave24_err he (by decide) [D] rfl rfl bR bE (by simp) hDm hbW
      · gi_wp2_with (first | (refine ⟨trivial, (fun h => by cases h), ?_⟩; gi_at_call 43; refine (callsIn_wide.2 (Tryd.strings_HasPrefix _ _ _)).mono ?_; rintro e w' ⟨rfl, hww⟩; obtain rfl := hww.symm) | (refine ⟨trivial, (fun h => by cases h), ?_⟩; gi_at_call 44; refine (callsIn_wide.2 (Tryd.strings_HasSuffix _ _ _ (by simp [ByteArray.size]; omega))).mono ?_; rintro e w' ⟨rfl, hww⟩; obtain rfl := hww.symm) | (refine (⟨trivial, ?_⟩ : Fence.wide.fn 43 ∧ _)) | (refine (⟨trivial, ?_⟩ : Fence.wide.fn 44 ∧ _)))
        rw [set10 bR]
        exact leave24_err he (by decide) [D] rfl rfl bR bE (by simp) hDm hbW
      · gi_wp2_with (first | (refine ⟨trivial, (fun h => by cases h), ?_⟩; gi_at_call 43; refine (callsIn_wide.2 (Tryd.strings_HasPrefix _ _ _)).mono ?_; rintro e w' ⟨rfl, hww⟩; obtain rfl := hww.symm) | (refine ⟨trivial, (fun h => by cases h), ?_⟩; gi_at_call 44; refine (callsIn_wide.2 (Tryd.strings_HasSuffix _ _ _ (by simp [ByteArray.size]; omega))).mono ?_; rintro e w' ⟨rfl, hww⟩; obtain rfl := hww.symm) | (refine (⟨trivial, ?_⟩ : Fence.wide.fn 43 ∧ _)) | (refine (⟨trivial, ?_⟩ : Fence.wide.fn 44 ∧ _)))
        rw [set10 bR]
        exact leave24_err he (by decide) [D] rfl rfl bR bE (by simp) hDm hbW
    | true =>
      have c5 : (words s).length = 5 := by simp [wordsOk] at ok; omega
      rw [c5] at hv hc hrow
      have hcA : ∀ o, (W.alloc o).cell? ⟨w.heap.size + 2, 0, none⟩ = some (.slice ao 5 cap) := fun o => (hv.alloc o).cell
      have cp : Lib.hasPrefix s [32] = false := by simp [wordsOk] at ok; exact ok.1.2
      have cs : Lib.hasSuffix s [32] = false := by simp [wordsOk] at ok; exact ok.2
      gi_wp2_with (first | (refine ⟨trivial, (fun h => by cases h), ?_⟩; gi_at_call 43; refine (callsIn_wide.2 (Tryd.strings_HasPrefix _ _ _)).mono ?_; rintro e w' ⟨rfl, hww⟩; obtain rfl := hww.symm) | (refine ⟨trivial, (fun h => by cases h), ?_⟩; gi_at_call 44; refine (callsIn_wide.2 (Tryd.strings_HasSuffix _ _ _ (by simp [ByteArray.size]; omega))).mono ?_; rintro e w' ⟨rfl, hww⟩; obtain rfl := hww.symm) | (refine (⟨trivial, ?_⟩ : Fence.wide.fn 43 ∧ _)) | (refine (⟨trivial, ?_⟩ : Fence.wide.fn 44 ∧ _)))
      obtain ⟨g, rfl, hg1, hg2, hgc⟩ : ∃ g, ao = some ⟨g, 0, none⟩ ∧ w.heap.size + 6 ≤ g ∧ g < W.heap.size ∧ ∀ j, j < 5 → W.cell? ⟨g, j, none⟩ = some (strV ((words s).getD j [])) := by
        rcases hrow.2 with ⟨_, h0⟩ | ⟨g, cp', cur, he, hb, hgb, _⟩
        · omega
        · simp at he
          obtain ⟨he1, he2⟩ := he
          subst he1; subst he2
          refine ⟨g, rfl, hb, (Array.getElem?_eq_some_iff.1 hgb).1, fun j hj => ?_⟩
          rw [hrow.cellAt j (by omega)]
          rw [List.getElem?_map, List.getElem?_eq_getElem (by omega)]
          simp [List.getD_eq_getElem?_getD, List.getElem?_eq_getElem (by omega : j < (words s).length)]
      obtain ⟨C, hC⟩ : ∃ C, W.heap.size = C := ⟨_, rfl⟩
      obtain ⟨W1, hW1⟩ : ∃ W1, W.alloc (.cells zero10 41) = W1 := ⟨_, rfl⟩
      have hDC : D < C := by rw [← hC]; exact (Array.getElem?_eq_some_iff.1 hK).1
      have hW1s : W1.heap.size = C + 1 := by rw [← hW1, ← hC]; simp
      have hW1b : ∀ k, k < C → W1.heap[k]? = W.heap[k]? := fun k hk => by rw [← hW1]; exact Below.heap_alloc _ _ _ (by omega)
      have inv0 : PInv s w.heap.size C W1 0 [D] W1 := {
        le := by omega
        nd := by simp
        marks := fun E hE => by simp at hE; subst hE; exact ⟨by omega, by omega, (hW1b _ hDC).trans hK⟩
        same := SameBut.refl _ _ _
        spec := by rw [← hW1, ← hC]; exact World.alloc_heap_new W _
        good := fun j hj => by omega }
      rw [hC, hW1]
      have hbW1 : Below w.heap.size w W1 := hbW.trans (by rw [← hW1]; exact (Below.refl _ _).alloc (by omega) _)
      clear hv hc hrow hcA r0 r1 r2 r3 r4 r5 r6 r7 r8 r9 f0 f1 f2 f3 f4 f5 f6 f7 f8 f9 hcE hfE
      refine wpIn_loop (fun a W' => ∃ (k : Nat) (ds : List Nat) (u7 u8 u36 u37 u38 u39 u40 u41 u42 u43 u44 u45 u46 u47 u48 u49 u50 u51 u71 : Value), a = { tmps := #[.string ⟨s.toArray⟩, undef, .pointer (some ⟨w.heap.size, 0, none⟩), .pointer (some ⟨w.heap.size + 1, 0, none⟩), .pointer (some ⟨w.heap.size + 2, 0, none⟩), undef, .pointer (some ⟨C, 0, none⟩), u7, u8, undef, undef, undef, .string ⟨s.toArray⟩, .func (.func 80) #[] #[.pointer (some ⟨w.heap.size + 4, 0, none⟩), .pointer (some ⟨w.heap.size + 3, 0, none⟩), .pointer (some ⟨w.heap.size + 5, 0, none⟩)], undef, undef, undef, undef, undef, undef, undef, .slice (some ⟨g, 0, none⟩) 5 cap, .int .i64 5, .bool false, .bool false, .string ⟨s.toArray⟩, .bool false, .bool false, .bool false, .string ⟨s.toArray⟩, .bool false, .bool false, undef, .slice (some ⟨g, 0, none⟩) 5 cap, .int .i64 5, .int .i64 (k : Nat), u36, u37, u38, u39, u40, u41, u42, u43, u44, u45, u46, u47, u48, u49, u50, u51, undef, undef, undef, undef, undef, undef, undef, undef, undef, undef, undef, undef, undef, undef, undef, undef, undef, undef, undef, u71, undef], defers := ds.map fun D => { target := .collected D, args := #[] } } ∧ PInv s w.heap.size C W1 k ds W') (fun a _ => 5 - (intOf (a.tmps.getD 35 undef)).toNat) ⟨0, [D], _, _, _, _, _, _, _, _, _, _, _, _, _, _, _, _, _, _, _, rfl, inv0⟩ ?_
      rintro _ W' ⟨k, ds, u7, u8, u36, u37, u38, u39, u40, u41, u42, u43, u44, u45, u46, u47, u48, u49, u50, u51, u71, rfl, inv⟩
      have hWb : ∀ k, k < C → W'.heap[k]? = W.heap[k]? := fun k hk => (inv.same.block k hk (by simp)).trans (hW1b k hk)
      have hgc' : ∀ j, j < 5 → W'.cell? ⟨g, j, none⟩ = some (strV ((words s).getD j [])) := fun j hj => (World.cell?_of_block (w := W) (hWb g (by omega))).trans (hgc j hj)
      have kR := (hWb w.heap.size (by omega)).trans bR
      have kE : Boxed W' (w.heap.size + 1) 24 (.int .i64 0) := (hWb _ (by omega)).trans bE
      have hbW' : Below w.heap.size w W' := hbW1.trans (inv.same.below (by omega) (by simp))
      have hmk : ∀ E ∈ ds, w.heap.size + 1 < E ∧ W'.heap[E]? = some (.deferred (some [])) := fun E hE => ⟨(inv.marks E hE).1, (inv.marks E hE).2.2⟩
      by_cases hk : k = 5
      · subst hk
        obtain ⟨q0, q1, q2, q3, q4, q5, q6, q7, q8, q9, -, -, -, -, -, -, -, -, -, -⟩ := cells10 inv.spec
        obtain ⟨r0, r1, r2, r3, r4, r5, r6, r7, r8, r9, f0, f1, f2, f3, f4, f5, f6, f7, f8, f9⟩ := cells10 kR
        have hcE := kE.cell
        have hfE := kE.frozen
        gi_wp2_with fail
        rw [set10 kR]
        obtain ⟨he, hsp⟩ := parse_done ok inv.good
        refine leave24_set hsp he ds ?_ ?_ kR kE inv.nd hmk hbW' <;> rfl
      · have hk5 : k < 5 := by have := inv.le; omega
        have hkd : decide ((k : Int) < 5) = true := by simp; omega
        obtain ⟨p, hp⟩ : ∃ p, (words s).getD k [] = p := ⟨_, rfl⟩
        have hck : W'.cell? ⟨g, k, none⟩ = some (.string ⟨p.toArray⟩) := by have := hgc' k hk5; rwa [hp] at this
        clear hgc hgc'
        cases star : p == [42] with
        | true =>
          obtain ⟨q0, q1, q2, q3⟩ := spec_cell inv.spec k hk5
          obtain ⟨B1, hB1⟩ : ∃ B1, W'.heap.size = B1 := ⟨_, rfl⟩
          have hCB : C < B1 := by rw [← hB1]; exact (Array.getElem?_eq_some_iff.1 inv.spec).1
          have hBx := hB.below hbW'
          gi_wp2_with fail
          have zI : (W'.alloc (.cells #[.int .i64 (k : Nat)] 3)).cell? ⟨B1, 0, none⟩ = some (.int .i64 (k : Nat)) := by rw [← hB1]; exact (Boxed.new _ _ _).cell
          have zC := heap_keep inv.spec (.cells #[.int .i64 (k : Nat)] 3)
          have zs : B1 < (W'.alloc (.cells #[.int .i64 (k : Nat)] 3)).heap.size := by simp [hB1]
          have zB : BoundsIs (W'.alloc (.cells #[.int .i64 (k : Nat)] 3)) := hBx.below ((Below.refl _ _).alloc (Nat.le_refl _) _)
          have zW : Below B1 W' (W'.alloc (.cells #[.int .i64 (k : Nat)] 3)) := (Below.refl _ _).alloc (by omega) _
          generalize W'.alloc (.cells #[.int .i64 (k : Nat)] 3) = Wa at zI zC zs zB zW ⊢
          refine wpIn_mono (Q := Exit.then (fun a' Wz => a' = { tmps := #[.string ⟨s.toArray⟩, undef, .pointer (some ⟨w.heap.size, 0, none⟩), .pointer (some ⟨w.heap.size + 1, 0, none⟩), .pointer (some ⟨w.heap.size + 2, 0, none⟩), undef, .pointer (some ⟨C, 0, none⟩), .pointer (some ⟨B1, 0, none⟩), .string ⟨p.toArray⟩, undef, undef, undef, .string ⟨s.toArray⟩, .func (.func 80) #[] #[.pointer (some ⟨w.heap.size + 4, 0, none⟩), .pointer (some ⟨w.heap.size + 3, 0, none⟩), .pointer (some ⟨w.heap.size + 5, 0, none⟩)], undef, undef, undef, undef, undef, undef, undef, .slice (some ⟨g, 0, none⟩) 5 cap, .int .i64 5, .bool false, .bool false, .string ⟨s.toArray⟩, .bool false, .bool false, .bool false, .string ⟨s.toArray⟩, .bool false, .bool false, undef, .slice (some ⟨g, 0, none⟩) 5 cap, .int .i64 5, .int .i64 (k : Nat), .bool true, .int .i64 (k : Nat), .pointer (some ⟨g, k, none⟩), .string ⟨p.toArray⟩, .string ⟨p.toArray⟩, .bool true, .int .i64 (k : Nat), .int .i64 (k : Nat), .int .i64 (k : Nat), .int .u64 (fullM k : Nat), .pointer (some ⟨C, 0, none⟩), .pointer (some ⟨C, k, none⟩), .pointer (some ⟨C, 5, none⟩), .pointer (some ⟨C, 5 + k, none⟩), u50, u51, undef, undef, undef, undef, undef, undef, undef, undef, undef, undef, undef, undef, undef, undef, undef, undef, undef, undef, undef, u71, undef], defers := ds.map fun D => { target := .collected D, args := #[] } } ∧ SameBut [C] B1 Wa Wz ∧ Wz.heap[C]? = some (.cells (specA (fun j => if j = k then fullM k else skM s k j) (fun j => if j = k then true else akM s k j)) 41 (0, 0))) (fun _ _ _ => False)) ?r13 ?rest
          case r13 =>
            refine wpIn_wide.2 ?_
            generalize skM s k = S at zC ⊢
            generalize akM s k = A at zC ⊢
            clear zW hBx q0 q1 q2 q3 hB1 hck hkd hk hmk hbW' kE kR hWb inv hbW1 inv0 hW1b hW1s hDC hW1 hC hg1 hg2 cs cp c5 ok hbW hDm hsz2 bE bR hws hS hD hW0b hsz hbP hbE hbR hIt hz0 hz1 hz2 hi hn hB hs star hp
            have hcall : Calls Tryd.prog 45 #[.int .i64 (k : Nat)] Wa.drew fun e Wy => e = .returned (.int .u64 (fullM k : Nat)) ∧ Wy.cell? ⟨B1, 0, none⟩ = some (.int .i64 (k : Nat)) ∧ (Wy.cell? ⟨C, k, none⟩ = some (.int .u64 (S k : Nat)) ∧ Wy.frozen? ⟨C, k, none⟩ = false ∧ Wy.cell? ⟨C, 5 + k, none⟩ = some (.bool (A k)) ∧ Wy.frozen? ⟨C, 5 + k, none⟩ = false) ∧ Wy.heap[C]? = some (.cells (specA S A) 41 (0, 0)) ∧ SameBut [C] B1 Wa Wy := by
              refine (full_any k hk5 Wa.drew (zB.below (Below.refl _ _).drew)).mono ?_
              rintro e Wy ⟨rfl, hb⟩
              have z1 := (hb.cell (p := ⟨B1, 0, none⟩) zs).trans zI
              have z3 := (hb.block C (Nat.lt_trans hCB zs)).trans zC
              exact ⟨rfl, z1, spec_cell z3 k hk5, z3, (SameBut.of_below (Below.refl _ Wa).drew (Nat.le_refl _)).trans (SameBut.of_below hb (Nat.le_of_lt zs))⟩
            clear zB zs
            go_region_with (first | (go_at_call 45; refine hcall.mono ?_; rintro e Wy ⟨rfl, z1, ⟨y0, y1, y2, y3⟩, z3, hb⟩) | fail)
            all_goals exact ⟨rfl, (hb.set ⟨C, k, none⟩ (.inl (by simp)) _).set ⟨C, 5 + k, none⟩ (.inl (by simp)) _, spec_setb (spec_set z3 k hk5 _) k hk5 true⟩
          case rest =>
            have hp3 : p = [42] := by simpa using star
            have hf : fieldM k p = (fullM k, true, 0) := by unfold fieldM; rw [if_pos hp3]
            obtain ⟨hn1, hn2⟩ := specA_next hp hf
            have hEl : ∀ E ∈ ds, E < B1 := fun E hE => by rw [← hB1]; exact (Array.getElem?_eq_some_iff.1 (hmk E hE).2).1
            rintro e a' Wz hq
            cases e with
            | normal =>
              obtain ⟨rfl, hS, hsp⟩ := hq
              rw [hn1, hn2] at hsp
              have inv2 : PInv s w.heap.size C W1 (k + 1) ds Wz := {
                le := by omega
                nd := inv.nd
                marks := fun E hE => by
                  have h1 := hEl E hE
                  have h2 := inv.marks E hE
                  exact ⟨h2.1, h2.2.1, (hS.block E h1 (by simp <;> omega)).trans ((zW.block E h1).trans h2.2.2)⟩
                same := inv.same.trans ((SameBut.of_below zW (by omega)).trans (hS.mono (by omega) (by simp <;> omega)))
                spec := hsp
                good := fun j hj => by
                  by_cases e : j = k
                  · subst e; unfold partErr; rw [hp, hf]
                  · exact inv.good j (by omega) }
              gi_wp2_with fail
              refine ⟨⟨k + 1, ds, _, _, _, _, _, _, _, _, _, _, _, _, _, _, _, _, _, _, _, rfl, inv2⟩, ?_⟩
              simp [intOf]; omega
            | _ => exact hq.elim
        | false =>
          gi_wp2_with (refine ⟨trivial, (fun h => by cases h), ?_⟩; gi_at_call 42; refine (SplitSeq_in Fence.wide (n - 1) trivial trivial rfl (by omega) _ _ _).mono ?_; rintro e w' ⟨rfl, rfl⟩)
          simp only [Nat.add_assoc, Nat.reduceAdd]
          obtain ⟨B1, hB1⟩ : ∃ B1, W'.heap.size = B1 := ⟨_, rfl⟩
          have hCB : C < B1 := by rw [← hB1]; exact (Array.getElem?_eq_some_iff.1 inv.spec).1
          have hItb : ItAt (B1 + 1) 44 p (W'.alloc (.cells #[.int .i64 (k : Nat)] 3) |>.alloc (.cells #[.string ⟨p.toArray⟩] 9) |>.alloc (.cells #[.string ⟨#[44]⟩] 9) |>.alloc (.cells #[.int .i64 0] 3)) := by
            have := itAt_new 44 p (W'.alloc (.cells #[.int .i64 (k : Nat)] 3))
            rw [World.size_alloc, hB1] at this
            exact this
          have hbI : Boxed (W'.alloc (.cells #[.int .i64 (k : Nat)] 3) |>.alloc (.cells #[.string ⟨p.toArray⟩] 9) |>.alloc (.cells #[.string ⟨#[44]⟩] 9) |>.alloc (.cells #[.int .i64 0] 3)) B1 3 (.int .i64 (k : Nat)) := by
            rw [← hB1]; exact (((Boxed.new W' _ _).alloc _).alloc _).alloc _
          have hszb : (W'.alloc (.cells #[.int .i64 (k : Nat)] 3) |>.alloc (.cells #[.string ⟨p.toArray⟩] 9) |>.alloc (.cells #[.string ⟨#[44]⟩] 9) |>.alloc (.cells #[.int .i64 0] 3)).heap.size = B1 + 4 := by rw [← hB1]; simp
          have hWbb : Below B1 W' (W'.alloc (.cells #[.int .i64 (k : Nat)] 3) |>.alloc (.cells #[.string ⟨p.toArray⟩] 9) |>.alloc (.cells #[.string ⟨#[44]⟩] 9) |>.alloc (.cells #[.int .i64 0] 3)) := by
            rw [← hB1]; exact ((((Below.refl _ _).alloc (Nat.le_refl _) _).alloc (by simp) _).alloc (by simp; omega) _).alloc (by simp; omega) _
          rw [hB1]
          generalize (W'.alloc (.cells #[.int .i64 (k : Nat)] 3) |>.alloc (.cells #[.string ⟨p.toArray⟩] 9) |>.alloc (.cells #[.string ⟨#[44]⟩] 9) |>.alloc (.cells #[.int .i64 0] 3)) = Wb at hItb hbI hszb hWbb ⊢
          have hps : p.length ≤ 100000 := by
            have hm : p ∈ words s := by rw [← hp, List.getD_eq_getElem?_getD, List.getElem?_eq_getElem (by omega)]; simp
            exact Nat.le_trans (splitL_le 32 s p (List.mem_filter.1 hm).1) hs
          have specb : Wb.heap[C]? = some (.cells (specA (skM s k) (akM s k)) 41 (0, 0)) := (hWbb.block C hCB).trans inv.spec
          have kRb := (hWbb.block w.heap.size (by omega)).trans kR
          have kEb : Boxed Wb (w.heap.size + 1) 24 (.int .i64 0) := (hWbb.block _ (by omega)).trans kE
          refine wpIn_told (F := Fence.wide) (n := n) rfl (by omega) (gf := 80) (lb := #[.pointer (some ⟨B1 + 2, 0, none⟩), .pointer (some ⟨B1 + 1, 0, none⟩), .pointer (some ⟨B1 + 3, 0, none⟩)]) rfl trivial (enters_of Tryd.func80 (by kernel_rfl) rfl)
            (full := splitL 44 p) (B := B1 + 1) (by omega) (split_tells (n - 1) 44 p (by omega) (B1 + 1) Wb (by omega) hItb) rfl
            (InI s k C B1 Wb) (InX w.heap.size k C B1 Wb) (inI_abides s k C B1 Wb hszb hCB) (inX_abides w.heap.size k C B1 Wb hszb hCB (by omega)) ?ini
            (fun x => { tmps := #[.string ⟨s.toArray⟩, undef, .pointer (some ⟨w.heap.size, 0, none⟩), .pointer (some ⟨w.heap.size + 1, 0, none⟩), .pointer (some ⟨w.heap.size + 2, 0, none⟩), undef, .pointer (some ⟨C, 0, none⟩), .pointer (some ⟨B1, 0, none⟩), .string ⟨p.toArray⟩, .string ⟨x.toArray⟩, undef, undef, .string ⟨s.toArray⟩, .func (.func 80) #[] #[.pointer (some ⟨w.heap.size + 4, 0, none⟩), .pointer (some ⟨w.heap.size + 3, 0, none⟩), .pointer (some ⟨w.heap.size + 5, 0, none⟩)], undef, undef, undef, undef, undef, undef, undef, .slice (some ⟨g, 0, none⟩) 5 cap, .int .i64 5, .bool false, .bool false, .string ⟨s.toArray⟩, .bool false, .bool false, .bool false, .string ⟨s.toArray⟩, .bool false, .bool false, undef, .slice (some ⟨g, 0, none⟩) 5 cap, .int .i64 5, .int .i64 (k : Nat), .bool true, .int .i64 (k : Nat), .pointer (some ⟨g, k, none⟩), .string ⟨p.toArray⟩, .string ⟨p.toArray⟩, .bool false, u42, u43, u44, u45, u46, u47, u48, u49, .string ⟨p.toArray⟩, .func (.func 80) #[] #[.pointer (some ⟨B1 + 2, 0, none⟩), .pointer (some ⟨B1 + 1, 0, none⟩), .pointer (some ⟨B1 + 3, 0, none⟩)], .string ⟨x.toArray⟩, undef, undef, undef, undef, undef, undef, undef, undef, undef, undef, undef, undef, undef, undef, undef, undef, undef, undef, u71, undef], defers := [] }) ?assign2 ?body2 ?done2 ?stop2
          case ini =>
            exact ⟨by simp, by rw [spec_ini]; exact specb, SameBut.refl _ _ _⟩
          case assign2 =>
            intro l x W K hK
            gi_wp2
            exact hK
          case stop2 =>
            rintro D2 c pre Wd hD2 hpre ⟨rfl, pre', x, rfl, hok, hx0, hR', hE', hS⟩ hK2
            have hpe := parse_bad ok hk5 hp star inv.good hpre hok hx0
            have hEl : ∀ E ∈ ds, E < B1 := fun E hE => by rw [← hB1]; exact (Array.getElem?_eq_some_iff.1 (hmk E hE).2).1
            gi_wp2_with fail
            rw [← hpe] at hE' hx0
            refine leave24 (D2 :: ds) rfl rfl ?_ hE' (List.nodup_cons.2 ⟨fun h => by have := hEl _ h; omega, inv.nd⟩) ?_ (hbW'.trans ((hWbb.mono (by omega)).trans (hS.below (by omega) (by simp; omega))))
            · rw [spec_zero hx0]; exact hR'
            · intro E hE
              rcases List.mem_cons.1 hE with rfl | hE
              · exact ⟨by omega, hK2⟩
              · have h1 := hEl E hE
                have h2 := inv.marks E hE
                exact ⟨h2.1, (hS.block E (by omega) (by simp; omega)).trans ((hWbb.block E h1).trans h2.2.2)⟩
          case done2 =>
            rintro D2 Wd hD2 ⟨hok, hsp, hS⟩ hK2
            obtain ⟨hg0, hf⟩ := part_good hp star hok
            obtain ⟨hn1, hn2⟩ := specA_next hp hf
            have hEl : ∀ E ∈ ds, E < B1 := fun E hE => by rw [← hB1]; exact (Array.getElem?_eq_some_iff.1 (hmk E hE).2).1
            have inv2 : PInv s w.heap.size C W1 (k + 1) (D2 :: ds) Wd := {
              le := by omega
              nd := List.nodup_cons.2 ⟨fun h => by have := hEl _ h; omega, inv.nd⟩
              marks := fun E hE => by
                rcases List.mem_cons.1 hE with rfl | hE
                · exact ⟨by omega, by omega, hK2⟩
                · have h1 := hEl E hE
                  have h2 := inv.marks E hE
                  exact ⟨h2.1, h2.2.1, (hS.block E (by omega) (by simp; omega)).trans ((hWbb.block E h1).trans h2.2.2)⟩
              same := inv.same.trans ((SameBut.of_below hWbb (by omega)).trans (hS.mono (by omega) (by simp; omega)))
              spec := by rw [hn1, ← akM_self, hn2] at hsp; exact hsp
              good := fun j hj => by
                by_cases e : j = k
                · subst e; exact hg0
                · exact inv.good j (by omega) }
            gi_wp2_with fail
            refine ⟨⟨k + 1, D2 :: ds, _, _, _, _, _, _, _, _, _, _, _, _, _, _, _, _, _, _, _, rfl, inv2⟩, ?_⟩
            simp [intOf]; omega
          case body2 =>
            rintro l pre x Wx hl hlW ⟨hok, hsp, hS⟩ hpre
            have hx : x.length ≤ 1000000 := by
              have := splitL_le 44 p x (hpre.subset (by simp)); omega
            have hBx : BoundsIs Wx := hB.below (hbW'.trans ((hWbb.mono (by omega)).trans (hS.below (by omega) (by simp; omega))))
            have hcI := (hS.boxed hbI (by omega) (by simp; omega)).cell
            have hor : bits BinOp.or IntKind.u64 ((accM k pre : Nat) : Int) (((itemM k x).1 : Nat) : Int) = ((accM k (pre ++ [x]) : Nat) : Int) := by
              rw [accM_snoc]; exact u64_or_nat _ _ (accM_lt k pre) (itemM_lt k x)
            by_cases hx0 : (itemM k x).2 = 0
            · have hx0' : ((itemM k x).2 != 0) = false := by simp [hx0]
              gi_wp2_with (refine ⟨trivial, (fun h => by cases h), ?_⟩; gi_at_call 46; refine (CallsIn.inRound l (callsIn_wide.2 (item_any k hk5 x hx _ hBx))).mono ?_; rintro e Wy ⟨rfl, hb⟩; have yI := hb.cell (p := ⟨B1, 0, none⟩) (by have := hS.size; simp; omega); rw [hcI] at yI; have ySp := (hb.block C (by have := hS.size; omega)).trans hsp; obtain ⟨q0, q1, -, -⟩ := spec_cell ySp k hk5; simp only [if_true] at q0)
              refine ⟨(keeps_of_below hb).trans (KeepsOthers.setCell _ _ _), ⟨Nat.le_trans hb.size (by simp), fun i h1 h2 => (Below.heap_setCell _ _ _ _ (by simp; omega)).trans (hb.block i (by have := hS.size; omega))⟩, ?_, ?_, ?_⟩
              · intro o ho
                rcases List.mem_append.1 ho with h | h
                · exact hok o h
                · simp at h; subst h; exact hx0
              · have := spec_set ySp k hk5 (accM k (pre ++ [x]))
                rwa [spec_upd] at this
              · exact (hS.trans (SameBut.of_below hb (by have := hS.size; omega))).set ⟨C, k, none⟩ (.inl (by simp)) _
            · have hx0' : ((itemM k x).2 != 0) = true := by simp [hx0]
              gi_wp2_with (refine ⟨trivial, (fun h => by cases h), ?_⟩; gi_at_call 46; refine (CallsIn.inRound l (callsIn_wide.2 (item_any k hk5 x hx _ hBx))).mono ?_; rintro e Wy ⟨rfl, hb⟩; have yR := (hb.block w.heap.size (by have := hS.size; omega)).trans ((hS.block w.heap.size (by omega) (by simp; omega)).trans kRb); have yE : Boxed Wy (w.heap.size + 1) 24 (.int .i64 0) := (hb.block _ (by have := hS.size; omega)).trans (hS.boxed kEb (by omega) (by simp; omega)); obtain ⟨r0, r1, r2, r3, r4, r5, r6, r7, r8, r9, f0, f1, f2, f3, f4, f5, f6, f7, f8, f9⟩ := cells10 yR; have hcE := yE.cell; have hfE := yE.frozen)
              rw [set10 yR]
              refine ⟨((keeps_of_below hb).trans (keeps_setRow yR _)).trans (KeepsOthers.setCell _ _ _), rfl, pre, x, rfl, hok, hx0, ?_, ?_, ?_⟩
              · exact (Below.heap_setCell _ _ _ _ (by simp)).trans (setRow_heap _ _ _ _ _ _ yR)
              · exact Boxed.set _ ((setRow_other _ _ _ _ (by omega)).trans yE)
              · refine ((((hS.mono (Nat.le_refl _) (by simp)).trans (SameBut.of_below hb (by have := hS.size; omega))).setRow _ (.inl (by simp)) _).set ⟨w.heap.size + 1, 0, none⟩ (.inl (by simp)) _)
theorem parse_any24 (s : List UInt8) (hs : s.length ≤ 100000) (w : World) (hB : BoundsIs w) :
    Calls Tryd.prog 24 #[.string ⟨s.toArray⟩] w fun e w' => e = .returned (.tuple #[specV (parseS s) (parseA s), .int .i64 (parseE s)]) ∧ Below w.heap.size w w' :=
  callsIn_wide.1 (parse_walk s hs w hB 20 (Nat.le_refl _))
end Go.Proofs.YtgiclhkoajbgpaaDoor

