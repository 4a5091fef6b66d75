/-
  strings.SplitSeq at a separator of one byte: what the function value does, and its iterator's contract.
-/
import Derived.Test.YtgiclhkoajbgpaaDoorRows
import Derived.Test.YtgiclhkoajbgpaaDoorRf
import Derived.Test.YtgiclhkoajbgpaaDoorSp
import Derived.Test.YtgiclhkoajbgpaaDoorShS
import Derived.WalkSpells
import Derived.WalkLawsBesides
import Derived.Lib.Hide
import Derived.RangeFuncBox
namespace Go.Proofs.YtgiclhkoajbgpaaDoor
open Go.RowKit Go.Shelf

attribute [local go_sem] Oper.semAt_some

set_option maxHeartbeats 1000000 in
theorem splitSeq_in (F : Fence) (n : Nat) (h64 : F.fn 64) (hro : F.round = none) (s sep : ByteArray) (k : Int) (w : World) :
    CallsIn F n Tryd.prog 64 #[.string s, .string sep, .int .i64 k] w fun e w' => e = .returned (.func (.func 80) #[] #[.pointer (some ⟨w.heap.size + 1, 0, none⟩), .pointer (some ⟨w.heap.size, 0, none⟩), .pointer (some ⟨w.heap.size + 2, 0, none⟩)]) ∧
      w' = ((w.alloc (.cells #[.string s] 9)).alloc (.cells #[.string sep] 9)).alloc (.cells #[.int .i64 k] 3) := by
  refine callsIn_of_wp Tryd.func64 rfl h64 ?_ hro
  simp only [Tryd.ntmps64, List.size_toArray, List.length_cons, List.length_nil, Nat.reduceAdd, Nat.reduceSub, Array.replicate_succ, Array.replicate_zero, List.push_toArray, List.append_toArray, List.nil_append, List.cons_append]
  gi_wp2
  go_ret
  exact ⟨rfl, rfl⟩
set_option maxHeartbeats 1000000 in
theorem SplitSeq_in (F : Fence) (n : Nat) (h42 : F.fn 42) (h64 : F.fn 64) (hro : F.round = none) (hn : 1 ≤ n) (s sep : ByteArray) (w : World) :
    CallsIn F n Tryd.prog 42 #[.string s, .string sep] w fun e w' => e = .returned (.func (.func 80) #[] #[.pointer (some ⟨w.heap.size + 1, 0, none⟩), .pointer (some ⟨w.heap.size, 0, none⟩), .pointer (some ⟨w.heap.size + 2, 0, none⟩)]) ∧
      w' = ((w.alloc (.cells #[.string s] 9)).alloc (.cells #[.string sep] 9)).alloc (.cells #[.int .i64 0] 3) := by
  refine callsIn_of_wp Tryd.func42 rfl h42 ?_ hro
  simp only [Tryd.ntmps42, List.size_toArray, List.length_cons, List.length_nil, Nat.reduceAdd, Nat.reduceSub, Array.replicate_succ, Array.replicate_zero, List.push_toArray, List.append_toArray, List.nil_append, List.cons_append]
  gi_wp2_with (gi_at_call 64; refine (splitSeq_in F (n - 1) h64 hro _ _ _ _).mono ?_; rintro e w' ⟨rfl, rfl⟩)
  go_ret
  exact ⟨rfl, rfl⟩

/-- the text that is left to part, read off the memory: for the loop's measure -/
def leftAt (B : Nat) (W : World) : Nat := match W.cell? ⟨B, 0, none⟩ with | some (.string s) => s.size | _ => 0
theorem leftAt_eq {B : Nat} {W : World} {r : List UInt8} (h : W.cell? ⟨B, 0, none⟩ = some (.string ⟨r.toArray⟩)) : leftAt B W = r.length := by
  unfold leftAt; rw [h]; simp [ByteArray.size]

/-- the iterator's three blocks -/
structure ItAt (B : Nat) (c : UInt8) (r : List UInt8) (W : World) : Prop where
  bs : Boxed W B 9 (.string ⟨r.toArray⟩)
  bsep : Boxed W (B + 1) 9 (.string ⟨#[c]⟩)
  bsave : Boxed W (B + 2) 3 (.int .i64 0)
theorem ItAt.s {B : Nat} {c : UInt8} {r : List UInt8} {W : World} (h : ItAt B c r W) : W.cell? ⟨B, 0, none⟩ = some (.string ⟨r.toArray⟩) := h.bs.cell
theorem ItAt.free {B : Nat} {c : UInt8} {r : List UInt8} {W : World} (h : ItAt B c r W) : W.frozen? ⟨B, 0, none⟩ = false := h.bs.frozen
theorem ItAt.sep {B : Nat} {c : UInt8} {r : List UInt8} {W : World} (h : ItAt B c r W) : W.cell? ⟨B + 1, 0, none⟩ = some (.string ⟨#[c]⟩) := h.bsep.cell
theorem ItAt.save {B : Nat} {c : UInt8} {r : List UInt8} {W : World} (h : ItAt B c r W) : W.cell? ⟨B + 2, 0, none⟩ = some (.int .i64 0) := h.bsave.cell
theorem ItAt.kept {B : Nat} {c : UInt8} {r : List UInt8} {W W' : World} (h : ItAt B c r W) (hk : Kept3 B W W') : ItAt B c r W' where
  bs := (hk.same B (Nat.le_refl _) (by omega)).trans h.bs
  bsep := (hk.same (B + 1) (by omega) (by omega)).trans h.bsep
  bsave := (hk.same (B + 2) (by omega) (by omega)).trans h.bsave
theorem ItAt.below {B m : Nat} {c : UInt8} {r : List UInt8} {W W' : World} (h : ItAt B c r W) (hm : B + 3 ≤ m) (hk : Below m W W') : ItAt B c r W' where
  bs := (hk.block B (by omega)).trans h.bs
  bsep := (hk.block (B + 1) (by omega)).trans h.bsep
  bsave := (hk.block (B + 2) (by omega)).trans h.bsave
theorem ItAt.set {B : Nat} {c : UInt8} {r : List UInt8} {W : World} (h : ItAt B c r W) (r' : List UInt8) : ItAt B c r' (W.setCell ⟨B, 0, none⟩ (.string ⟨r'.toArray⟩)) where
  bs := h.bs.set _
  bsep := h.bsep.other (by omega) _
  bsave := h.bsave.other (by omega) _

set_option maxRecDepth 100000 in
set_option maxHeartbeats 2000000 in
theorem split_iter (n : Nat) (l B : Nat) (c : UInt8) (r0 : List UInt8) (hr0 : r0.length ≤ 1000000) (J Jx : Pieces → World → Prop)
    (hJ : ∀ s W W', J s W → W.grownBy W' (some B) → J s W')
    (hY : ∀ pre x W1, J pre W1 → (pre ++ [x]) <+: splitL c r0 → YieldAt Fence.wide (n - 1) Tryd.prog l (pieceV x) W1 fun e W' =>
      (e = .returned (.bool true) ∧ J (pre ++ [x]) W' ∧ Kept3 B W1 W') ∨ (e = .returned (.bool false) ∧ Jx (pre ++ [x]) W'))
    (W : World) (hI : ItAt B c r0 W) (h0 : J [] W) :
    CallsIn Fence.wide n Tryd.prog 80 #[.func (.yield l) #[] #[], .pointer (some ⟨B + 1, 0, none⟩), .pointer (some ⟨B, 0, none⟩), .pointer (some ⟨B + 2, 0, none⟩)] W fun e W' => (∃ v, e = .returned v) ∧ (J (splitL c r0) W' ∨ ∃ pre, pre <+: splitL c r0 ∧ Jx pre W') := by
  refine callsIn_of_wp Tryd.func80 rfl trivial ?_ rfl
  simp only [Tryd.ntmps80, List.size_toArray, List.length_cons, List.length_nil, Nat.reduceAdd, Nat.reduceSub, Array.replicate_succ, Array.replicate_zero, List.push_toArray, List.append_toArray, List.nil_append, List.cons_append]
  have hs := hI.sep
  gi_wp2_with fail
  gi_loopw [7] (fun _ wr => ∃ (pre : Pieces) (r : List UInt8), pre ++ splitL c r = splitL c r0 ∧ r.length ≤ 1000000 ∧ ItAt B c r wr ∧ J pre wr) (fun _ wr => leftAt B wr)
  case atStart => exact ⟨[], r0, rfl, hr0, hI, h0⟩
  case round =>
    obtain ⟨pre, r, hfull, hr, hIt, hJp⟩ := hrel
    have HF := Lib.hid hfull
    clear hfull hs hI
    have hs := hIt.sep
    have h1 := hIt.s
    have h2 := hIt.save
    have hf := hIt.free
    rcases splitL_idx c r with ⟨e1, e2⟩ | ⟨i, hi, e1, e2⟩
    · have E2 := Lib.hid e2
      clear e2
      obtain ⟨fn, tmps, assign, body, hy, hR⟩ := hY pre r wr hJp (by rw [← HF.out, E2.out]; exact List.prefix_refl _)
      gi_wp2_with fail
      refine ⟨trivial, (fun h => by cases h), ?_⟩
      refine (callsIn_wide.2 (Tryd.strings_Index_one _ _ _)).mono ?_
      rintro e w' ⟨rfl, rfl⟩
      gi_wp2_with fail
      refine ⟨(fun h => by cases h), ?_⟩
      refine hR.mono ?_
      rintro e W3 (⟨rfl, hJ3, hk3⟩ | ⟨rfl, hJx3⟩)
      · gi_wp2_with fail
        go_end0
        exact ⟨⟨_, rfl⟩, .inl (by rw [← HF.out, E2.out]; exact hJ3)⟩
      · gi_wp2_with fail
        go_end0
        exact ⟨⟨_, rfl⟩, .inr ⟨pre ++ [r], (by rw [← HF.out, E2.out]; exact List.prefix_refl _), hJx3⟩⟩
    · have E2 := Lib.hid e2
      clear e2
      obtain ⟨fn, tmps, assign, body, hy, hR⟩ := hY pre (r.take i) wr hJp (by rw [← HF.out, E2.out]; exact ⟨splitL c (r.drop (i + 1)), by simp⟩)
      have ex : (⟨r.toArray⟩ : ByteArray).extract 0 i = ⟨(r.take i).toArray⟩ := by
        apply ByteArray.ext; simp
      have ex2 : (⟨r.toArray⟩ : ByteArray).extract (i + 1) r.length = ⟨(r.drop (i + 1)).toArray⟩ := by
        apply ByteArray.ext; simp
        rw [List.take_of_length_le (by simp)]
      have hy : Sem.run Tryd.prog (Instr.yield l #[.string ((⟨r.toArray⟩ : ByteArray).extract 0 i)]) wr = Result.ok (Next.round l fn tmps assign body) wr := by rw [ex]; exact hy
      have hneg : decide ((i : Int) < 0) = false := by simp
      gi_wp2_with fail
      refine ⟨trivial, (fun h => by cases h), ?_⟩
      refine (callsIn_wide.2 (Tryd.strings_Index_one _ _ _)).mono ?_
      rintro e w' ⟨rfl, rfl⟩
      gi_wp2_with fail
      refine ⟨(fun h => by cases h), ?_⟩
      refine hR.mono ?_
      rintro e W3 (⟨rfl, hJ3, hk3⟩ | ⟨rfl, hJx3⟩)
      · have hI3 := hIt.kept hk3
        have hs := hI3.sep
        have h1 := hI3.s
        have hf := hI3.free
        gi_wp2_with fail
        go_roundw
        case rel =>
          exact ⟨pre ++ [r.take i], r.drop (i + 1), (by rw [← HF.out, E2.out]; simp), (by simp; omega), hI3.set _, hJ _ _ _ hJ3 (grownBy_setCell' _ _ _)⟩
        case measure =>
          rw [leftAt_eq hIt.s, leftAt_eq (hI3.set _).s]; simp; omega
      · gi_wp2_with fail
        refine bodyPost_ret (results_none rfl _ _ _) rfl ?_
        exact ⟨⟨_, rfl⟩, .inr ⟨pre ++ [r.take i], (by rw [← HF.out, E2.out]; exact ⟨splitL c (r.drop (i + 1)), by simp⟩), hJx3⟩⟩

/-- SplitSeq's value tells the pieces -/
theorem split_tells (n : Nat) (c : UInt8) (r0 : List UInt8) (hr0 : r0.length ≤ 1000000) (B : Nat) (w : World) (hB : B + 3 ≤ w.heap.size) (hI : ItAt B c r0 w) :
    Tells Fence.wide n Tryd.prog 80 #[.pointer (some ⟨B + 1, 0, none⟩), .pointer (some ⟨B, 0, none⟩), .pointer (some ⟨B + 2, 0, none⟩)] (splitL c r0) B w := fun l J Jx W hW hJ hY h0 =>
  split_iter n l B c r0 hr0 J Jx hJ hY W (hI.below hB hW) h0
theorem itAt_new (c : UInt8) (r : List UInt8) (w : World) : ItAt w.heap.size c r (((w.alloc (.cells #[.string ⟨r.toArray⟩] 9)).alloc (.cells #[.string ⟨#[c]⟩] 9)).alloc (.cells #[.int .i64 0] 3)) where
  bs := ((Boxed.new _ _ _).alloc _).alloc _
  bsep := by
    have := (Boxed.new (w.alloc (.cells #[.string ⟨r.toArray⟩] 9)) 9 (.string ⟨#[c]⟩)).alloc (.cells #[.int .i64 0] 3)
    simpa using this
  bsave := by
    have := Boxed.new ((w.alloc (.cells #[.string ⟨r.toArray⟩] 9)).alloc (.cells #[.string ⟨#[c]⟩] 9)) 3 (.int .i64 0)
    simpa using this
end Go.Proofs.YtgiclhkoajbgpaaDoor
