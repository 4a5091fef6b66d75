/-
  A range over a function whose iterator keeps a state of its own in a block B that lay ahead of the loop: what iterator and body promise each other, and the law of the statement.
-/
import Derived.RangeFuncNested
import Derived.RangeFuncBound
import Derived.RangeFuncCalls
import Derived.RangeFuncLeaves
import Derived.RangeFuncFrom
import Derived.Shelf.Abstract
import Derived.WalkKit
import Derived.OwnWalkIn
import Derived.TacticsInMore
import Derived.LoopNIn
import Derived.LoopIn
namespace Go.Proofs.YtgiclhkoajbgpaaDoor
open Go.RowKit

abbrev Pieces := List (List UInt8)
/-- a piece as yield's argument -/
abbrev pieceV (x : List UInt8) : Array Value := #[.string ⟨x.toArray⟩]
/-- the body's word: the iterator's three blocks lie as they lay -/
structure Kept3 (B : Nat) (W W' : World) : Prop where
  size : W.heap.size ≤ W'.heap.size
  same : ∀ k, B ≤ k → k < B + 3 → W'.heap[k]? = W.heap[k]?
theorem Kept3.trans {B : Nat} {X Y Z : World} (h : Kept3 B X Y) (k : Kept3 B Y Z) : Kept3 B X Z := ⟨Nat.le_trans h.size k.size, fun i a b => (k.same i a b).trans (h.same i a b)⟩
theorem Kept3.below {B : Nat} {W W' : World} (h : Below (B + 3) W W') : Kept3 B W W' := ⟨h.size, fun k _ hk => h.block k hk⟩
theorem Kept3.putObj {B l : Nat} (W : World) (o : Obj) (h : B + 3 ≤ l) : Kept3 B W (W.putObj l o) := ⟨by simp, fun _ _ _ => World.putObj_heap_other (by omega)⟩
/-- the caller's invariant abides the iterator's steps, and the loop's own book-keeping -/
def Abides3 (B D : Nat) (I : Pieces → World → Prop) : Prop :=
  ∀ s W W' row, I s W → W.grownBy W' row → (∀ r, row = some r → r = B ∨ (D ≤ r ∧ ∃ o : Obj, W.heap[r]? = some o ∧ o.isCells = false)) → I s W'
/-- the iterator's contract: it tells the pieces in their order, and stops where a round says so -/
def Tells (F : Fence) (n : Nat) (P : Program) (gf : Nat) (lb : Array Value) (full : Pieces) (B : Nat) (w : World) : Prop :=
  ∀ (l : Nat) (J Jx : Pieces → World → Prop) (W : World), Below w.heap.size w W → (∀ s W W', J s W → W.grownBy W' (some B) → J s W') →
    (∀ pre x W1, J pre W1 → (pre ++ [x]) <+: full → YieldAt F (n - 1) P l (pieceV x) W1 fun e W' =>
      (e = .returned (.bool true) ∧ J (pre ++ [x]) W' ∧ Kept3 B W1 W') ∨ (e = .returned (.bool false) ∧ Jx (pre ++ [x]) W')) →
    J [] W →
    CallsIn F n P gf (#[.func (.yield l) #[] #[]] ++ lb) W fun e W' => (∃ v, e = .returned v) ∧ (J full W' ∨ ∃ pre, pre <+: full ∧ Jx pre W')
/-- how the body may be left -/
def Left3 (B : Nat) (I : Pieces → World → Prop) (Ix : Code → Pieces → World → Prop) (xs : Pieces) (W : World) : Exit → Act → World → Prop
  | .normal, _, W' => KeepsOthers W W' ∧ Kept3 B W W' ∧ I xs W'
  | .ret, _, W' => KeepsOthers W W' ∧ Ix .ret xs W'
  | .exit id, _, W' => KeepsOthers W W' ∧ Ix (.exit id) xs W'
  | .goto t, _, W' => KeepsOthers W W' ∧ Ix (.goto t) xs W'
  | .panic _, _, _ => False
  | .outgrown, _, _ => False

variable {F : Fence} {n : Nat} {P : Program}

theorem wpIn_told {g : Operand} {ps : Array Tmp} {assign body : Code} {Q : Exit → Act → World → Prop} {a : Act} {w : World}
    (hro : F.round = none) (h1 : 1 ≤ n) {gf : Nat} {lb : Array Value} (hg : a.eval g = .func (.func gf) #[] lb) (hFg : F.fn gf) (eg : ∀ args w, (callFunc gf args).run P w = .ok (.enter gf args) w)
    {full : Pieces} {B : Nat} (hB : B + 3 ≤ w.heap.size) (hseq : Tells F (n - 1) P gf lb full B w) (hps : ps.size = 1)
    (I : Pieces → World → Prop) (Ix : Code → Pieces → World → Prop) (hI : Abides3 B w.heap.size I) (hIx : ∀ c, Abides3 B w.heap.size (Ix c)) (h0 : I [] w) (a₁ : List UInt8 → Act)
    (hassign : ∀ (l : Nat) (x : List UInt8) (W : World) (K : Act → World → Prop), K (a₁ x) W →
      assign.wpIn (F.inRound l) (n - 1 - 1) P (Exit.then K (fun _ _ _ => False)) { tmps := (ps.zip (pieceV x)).foldl (fun t (p, v) => t.setIfInBounds p v) a.tmps, defers := [] } W)
    (hbody : ∀ (l : Nat) (pre : Pieces) (x : List UInt8) (W : World), w.heap.size < l → l < W.heap.size → I pre W → (pre ++ [x]) <+: full → body.wpIn (F.inRound l) (n - 1 - 1) P (Left3 B I Ix (pre ++ [x]) W) (a₁ x) W)
    (hdone : ∀ (D : Nat) (W : World), w.heap.size ≤ D → I full W → W.heap[D]? = some (.deferred (some [])) → Q .normal { a with defers := { target := .collected D, args := #[] } :: a.defers } W)
    (hstop : ∀ (D : Nat) (c : Code) (pre : Pieces) (W : World), w.heap.size ≤ D → pre <+: full → Ix c pre W → W.heap[D]? = some (.deferred (some [])) → c.wpIn F n P Q { a with defers := { target := .collected D, args := #[] } :: a.defers } W) :
    (Code.rangeFunc g ps assign body).wpIn F n P Q a w := by
  refine wpIn_rangeFunc fun fn hfn => ?_
  rw [hro]
  -- the two blocks of the statement: D for the rounds' deferred calls, L the loop's record
  let rec_ : LoopState → Option Code → Loop := fun st pe => { state := st, pending := pe, fn, tmps := a.tmps, params := ps, assign, body, defers := w.heap.size }
  obtain ⟨W1, hW1⟩ : ∃ W1, (w.alloc (.deferred (some []))).alloc (.loop (rec_ .ready none)) = W1 := ⟨_, rfl⟩
  obtain ⟨L, hL⟩ : ∃ L, L = w.heap.size + 1 := ⟨_, rfl⟩
  have atL : W1.heap[L]? = some (.loop (rec_ .ready none)) := by
    have := World.alloc_heap_new (w.alloc (.deferred (some []))) (.loop (rec_ .ready none))
    rw [World.size_alloc, hW1, ← hL] at this
    exact this
  have atD : W1.heap[w.heap.size]? = some (.deferred (some [])) := by
    rw [← hW1]
    exact (Below.heap_alloc _ _ _ (by simp)).trans (World.alloc_heap_new w _)
  have start : I [] W1 := by
    rw [← hW1]
    exact hI _ _ _ none (hI _ _ _ none h0 (World.grownBy_alloc w _ none) (fun r e => by cases e)) (World.grownBy_alloc _ _ none) (fun r e => by cases e)
  have fresh : Below w.heap.size w W1 := by
    rw [← hW1]
    exact ((Below.refl _ w).alloc (Nat.le_refl _) _).alloc (by simp) _
  -- turning the loop's record does no harm to what abides
  have turn : ∀ {K : Pieces → World → Prop}, Abides3 B w.heap.size K → ∀ {s : Pieces} {W : World} {r : Loop} (r' : Loop), K s W → W.heap[L]? = some (.loop r) → K s (W.putObj L (.loop r')) :=
    @fun K hK s W r r' hs hl => hK s W _ (some L) hs (grownBy_putObj' W L _) (fun i e => by cases e; exact Or.inr ⟨by omega, _, hl, rfl⟩)
  have stepL : ∀ {A A' : World} {o : Obj} {k : Nat}, A.grownBy A' (some B) → w.heap.size ≤ k → A.heap[k]? = some o → A'.heap[k]? = some o :=
    fun hgr hk ho => (hgr.block _ (Array.getElem?_eq_some_iff.1 ho).1 (fun e => by cases e; omega)).trans ho
  refine ⟨L, [{ target := .collected w.heap.size, args := #[] }], W1, { target := .fn (.func gf) lb, args := #[.func (.yield L) #[] #[]] }, W1, gf, #[.func (.yield L) #[] #[]] ++ lb, W1, ?_, ?_, ?_, ?_, fun _ => h1, ?_⟩
  · rw [← hW1, hL]; exact run_enterLoop_outer _ _ _ _ _
  · simp only [resolve, hg]; simp [go_sem]
  · intro f' hf'; simp [Target.leads] at hf'; subst hf'; exact hFg
  · simp [invoke, go_sem, eg]
  · refine (hseq L (fun pre W => I pre W ∧ W.heap[L]? = some (.loop (rec_ .ready none)) ∧ W.heap[w.heap.size]? = some (.deferred (some [])))
      (fun pre W => ∃ c, Ix c pre W ∧ W.heap[L]? = some (.loop (rec_ .done (some c))) ∧ W.heap[w.heap.size]? = some (.deferred (some []))) W1 fresh
      (fun s A A' hs hgr => ⟨hI s A A' (some B) hs.1 hgr (fun r e => by cases e; exact Or.inl rfl), stepL hgr (by omega) hs.2.1, stepL hgr (Nat.le_refl _) hs.2.2⟩) ?_ ⟨start, atL, atD⟩).mono ?_
    · rintro pre x W ⟨hi, hl, hk⟩ hpre
      have hlt : L < W.heap.size := (Array.getElem?_eq_some_iff.1 hl).1
      refine ⟨fn, _, assign, body, run_yield (P := P) (args := pieceV x) hl (by simp [rec_, hps]), roundIn_of_wpIn hfn (hassign _ x W _ ⟨_, run_beginRound hl rfl, ?_⟩)⟩
      have hl2 : (W.putObj L (.loop (rec_ .busy none))).heap[L]? = some (.loop (rec_ .busy none)) := World.putObj_heap_same hlt
      have hk2 : (W.putObj L (.loop (rec_ .busy none))).heap[w.heap.size]? = some (.deferred (some [])) := (World.putObj_heap_other (by omega)).trans hk
      refine wpIn_mono (hbody L pre x _ (by omega) (by simpa using hlt) (turn hI _ hi hl) hpre) ?_
      -- behind the body: the record is turned once more
      have close : ∀ (jump : Option Code) (W3 : World), KeepsOthers (W.putObj L (.loop (rec_ .busy none))) W3 →
          W3.heap[L]? = some (.loop (rec_ .busy none)) ∧ W3.heap[w.heap.size]? = some (.deferred (some [])) ∧
          (Instr.endRound L jump).run P W3 = .ok (.bool jump.isNone) (W3.putObj L (.loop (rec_ (if jump.isNone then .ready else .done) jump))) ∧
          (W3.putObj L (.loop (rec_ (if jump.isNone then .ready else .done) jump))).heap[L]? = some (.loop (rec_ (if jump.isNone then .ready else .done) jump)) ∧
          (W3.putObj L (.loop (rec_ (if jump.isNone then .ready else .done) jump))).heap[w.heap.size]? = some (.deferred (some [])) := fun jump W3 hko => by
        have b1 := hko.same _ _ hl2 rfl
        have b2 := hko.same _ _ hk2 rfl
        exact ⟨b1, b2, run_endRound (P := P) jump b1, World.putObj_heap_same (Array.getElem?_eq_some_iff.1 b1).1, (World.putObj_heap_other (by omega)).trans b2⟩
      rintro e a3 W3 hp
      cases e with
      | normal =>
        obtain ⟨hko, hkp, hi3⟩ := hp
        obtain ⟨b1, _, hr, b3, b4⟩ := close none W3 hko
        exact ⟨_, _, hr, Or.inl ⟨rfl, ⟨turn hI _ hi3 b1, b3, b4⟩, ((Kept3.putObj W _ (by omega)).trans hkp).trans (Kept3.putObj W3 _ (by omega))⟩⟩
      | ret =>
        obtain ⟨hko, hi3⟩ := hp
        obtain ⟨b1, _, hr, b3, b4⟩ := close (some .ret) W3 hko
        exact ⟨_, _, hr, Or.inr ⟨rfl, .ret, turn (hIx _) _ hi3 b1, b3, b4⟩⟩
      | exit id =>
        obtain ⟨hko, hi3⟩ := hp
        obtain ⟨b1, _, hr, b3, b4⟩ := close (some (.exit id)) W3 hko
        exact ⟨_, _, hr, Or.inr ⟨rfl, .exit id, turn (hIx _) _ hi3 b1, b3, b4⟩⟩
      | goto t =>
        obtain ⟨hko, hi3⟩ := hp
        obtain ⟨b1, _, hr, b3, b4⟩ := close (some (.goto t)) W3 hko
        exact ⟨_, _, hr, Or.inr ⟨rfl, .goto t, turn (hIx _) _ hi3 b1, b3, b4⟩⟩
      | panic ch => exact hp.elim
      | outgrown => exact hp.elim
    · rintro e W2 ⟨⟨v, rfl⟩, (⟨hi, hl, hk⟩ | ⟨pre, hpre, c, hi, hl, hk⟩)⟩
      · exact ⟨none, _, run_endLoop (P := P) hl (by simp [rec_]), hdone _ _ (Nat.le_refl _) (turn hI _ hi hl) ((World.putObj_heap_other (by omega)).trans hk)⟩
      · exact ⟨some c, _, run_endLoop (P := P) hl (by simp [rec_]), hstop _ c pre _ (Nat.le_refl _) hpre (turn (hIx c) _ hi hl) ((World.putObj_heap_other (by omega)).trans hk)⟩
end Go.Proofs.YtgiclhkoajbgpaaDoor
