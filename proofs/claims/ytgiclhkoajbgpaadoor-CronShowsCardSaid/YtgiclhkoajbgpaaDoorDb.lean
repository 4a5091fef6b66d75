/-
  cron: the walk of strings.Cut at one byte, and of item.
-/
import Derived.Test.YtgiclhkoajbgpaaDoorDa
import Derived.Test.YtgiclhkoajbgpaaDoorShS
import Derived.Test.YtgiclhkoajbgpaaDoorSp
namespace Go.Proofs.YtgiclhkoajbgpaaDoor
open Go.RowKit

/-- a text parted at the first byte c -/
def cutL (c : UInt8) (l : List UInt8) : List UInt8 × List UInt8 × Bool :=
  if Lib.indexByte l c = -1 then (l, [], false) else (l.take (Lib.indexByte l c).toNat, l.drop ((Lib.indexByte l c).toNat + 1), true)

set_option maxHeartbeats 1000000 in
theorem cut83 (c : UInt8) (l : List UInt8) (hl : l.length ≤ 1000000) (w : World) :
    Calls Tryd.prog 83 #[.string ⟨l.toArray⟩, .string ⟨#[c]⟩] w fun e w' => e = .returned (.tuple #[.string ⟨(cutL c l).1.toArray⟩, .string ⟨(cutL c l).2.1.toArray⟩, .bool (cutL c l).2.2]) ∧ Below w.heap.size w w' := by
  rcases splitL_idx c l with ⟨e1, _⟩ | ⟨i, hi, e1, _⟩
  · have hr : cutL c l = (l, [], false) := by simp [cutL, e1]
    rw [hr]
    go_enter Tryd.func83, Tryd.ntmps83
    go_wp2_with (go_at_call 93; refine (Tryd.stringslite_Index_one _ _ _).mono ?_; rintro e w' ⟨rfl, rfl⟩)
    exact bodyPost_ret (v := .tuple #[.string ⟨l.toArray⟩, .string ⟨#[]⟩, .bool false]) (by simp [results, Tryd.results83, go_sem]) rfl ⟨rfl, Below.refl _ _⟩
  · have hr : cutL c l = (l.take i, l.drop (i + 1), true) := by
      have : ¬ ((i : Int) = -1) := by omega
      simp [cutL, e1, this]
    rw [hr]
    have ex : (⟨l.toArray⟩ : ByteArray).extract 0 i = ⟨(l.take i).toArray⟩ := by
      apply ByteArray.ext; simp
    have ex2 : (⟨l.toArray⟩ : ByteArray).extract (i + 1) l.length = ⟨(l.drop (i + 1)).toArray⟩ := by
      apply ByteArray.ext; simp
      rw [List.take_of_length_le (by simp)]
    have h0 : decide ((0 : Int) ≤ (i : Int)) = true := by simp
    go_enter Tryd.func83, Tryd.ntmps83
    go_wp2_with (go_at_call 93; refine (Tryd.stringslite_Index_one _ _ _).mono ?_; rintro e w' ⟨rfl, rfl⟩)
    go_quiet (fail)
    go_wp2_with fail
    exact bodyPost_ret (v := .tuple #[.string ⟨(l.take i).toArray⟩, .string ⟨(l.drop (i + 1)).toArray⟩, .bool true]) (by simp [results, Tryd.results83, go_sem]) rfl ⟨rfl, Below.drewN (Below.refl _ _) _⟩

set_option maxHeartbeats 1000000 in
theorem cut_any (c : UInt8) (l : List UInt8) (hl : l.length ≤ 1000000) (w : World) :
    Calls Tryd.prog 68 #[.string ⟨l.toArray⟩, .string ⟨#[c]⟩] w fun e w' => e = .returned (.tuple #[.string ⟨(cutL c l).1.toArray⟩, .string ⟨(cutL c l).2.1.toArray⟩, .bool (cutL c l).2.2]) ∧ Below w.heap.size w w' := by
  go_enter Tryd.func68, Tryd.ntmps68
  go_wp2_with (go_at_call 83; refine (cut83 _ _ hl _).mono ?_; rintro e w' ⟨rfl, hb⟩)
  exact bodyPost_ret (v := .tuple #[.string ⟨(cutL c l).1.toArray⟩, .string ⟨(cutL c l).2.1.toArray⟩, .bool (cutL c l).2.2]) (by simp [results, Tryd.results68, go_sem]) rfl ⟨rfl, hb⟩
theorem cutL_le1 (c : UInt8) (l : List UInt8) : (cutL c l).1.length ≤ l.length := by
  unfold cutL; split <;> simp; omega
theorem cutL_le2 (c : UInt8) (l : List UInt8) : (cutL c l).2.1.length ≤ l.length := by
  unfold cutL; split <;> simp

/-- the numbers of one item, as the code reads it -/
def itemM (field : Nat) (l : List UInt8) : Nat × Int :=
  let span := (cutL 47 l).1; let by' := (cutL 47 l).2.1; let stepped := (cutL 47 l).2.2
  let step : Int := if stepped then numM by' else 1
  if stepped ∧ step < 0 then (0, 20) else
  let star : Bool := span = [42] ∧ stepped
  let ranged := (cutL 45 span).2.2
  let from' : Int := if star then loM field else numM (cutL 45 span).1
  let to : Int := if star then hiM field else if ranged then numM (cutL 45 span).2.1 else from'
  if ¬ star ∧ (from' < 0 ∨ to < 0 ∨ (stepped ∧ ¬ ranged)) then (0, 20) else
  if from' < loM field ∨ hiM field < to ∨ to < from' ∨ step < 1 ∨ 59 < step then (0, 30) else
  (rowM from'.toNat to.toNat step.toNat, 0)

theorem row_int (a b s : Int) (a0 : 0 ≤ a) (ha : a ≤ 1000) (b0 : 0 ≤ b) (hb : b ≤ 63) (hs : 1 ≤ s) (hs2 : s ≤ 64) (w : World) :
    Calls Tryd.prog 67 #[.int .i64 a, .int .i64 b, .int .i64 s] w fun e w' => e = .returned (.int .u64 (rowM a.toNat b.toNat s.toNat : Nat)) ∧ w = w' := by
  have := row_any a.toNat b.toNat s.toNat (by omega) (by omega) (by omega) (by omega) w
  rwa [Int.toNat_of_nonneg a0, Int.toNat_of_nonneg b0, Int.toNat_of_nonneg (by omega : 0 ≤ s)] at this

set_option maxRecDepth 100000 in
set_option maxHeartbeats 4000000 in
theorem item_any (field : Nat) (hf : field < 5) (l : List UInt8) (hl : l.length ≤ 1000000) (w : World) (hB : BoundsIs w) :
    Calls Tryd.prog 46 #[.int .i64 field, .string ⟨l.toArray⟩] w fun e w' => e = .returned (.tuple #[.int .u64 (itemM field l).1, .int .i64 (itemM field l).2]) ∧ Below w.heap.size w w' := by
  have c0 := (hB field hf).1
  have c1 := (hB field hf).2
  have h1 := hiM_le field
  have h2 := loM_le field
  have hl2 := Nat.le_trans (cutL_le1 47 l) hl
  have HB0 : ∀ n, Below w.heap.size w (w.drewN n) := fun n => Below.drewN (Below.refl _ _) n
  go_enter Tryd.func46, Tryd.ntmps46
  go_wp2_with fail
  go_quiet (fail)
  go_wp2_with ((first | (go_at_call 68; refine (cut_any _ _ (by first | exact hl | exact hl2) _).mono ?_; rintro e w' ⟨rfl, hb⟩; first | replace HB := HB.trans (hb.mono HB.size) | have HB := (HB0 _).trans (hb.mono (Nat.le_refl _))) | (go_at_call 69; refine (number_any _ _).mono ?_; rintro e w' ⟨rfl, hb⟩; replace HB := HB.trans (hb.mono HB.size)) | (go_at_call 67; refine (row_int _ _ _ (by omega) (by omega) (by omega) (by omega) (by omega) (by omega) _).mono ?_; rintro e w' ⟨rfl, rfl⟩)))
  all_goals go_ret2
  all_goals refine ⟨?_, HB⟩
  all_goals simp [itemM, *]
  all_goals (repeat' split) <;> first | exact ⟨rfl, rfl⟩ | (exfalso; omega) | (simp <;> omega)
end Go.Proofs.YtgiclhkoajbgpaaDoor
