/-
  The document's digits and Show.
-/
import Derived.Test.YtgiclhkoajbgpaaDoorGd
namespace Go.Proofs.YtgiclhkoajbgpaaDoor
open Go.RowKit

theorem gtwo_nums (a b : Int) (w : World) : (convert 106 9 (.slice (some ⟨w.heap.size, 0, none⟩) 2 2)).run Tryd.prog (w.alloc (.cells #[.int .u8 a, .int .u8 b] 5)) =
    .ok (.string (strOfNums [a, b])) (w.alloc (.cells #[.int .u8 a, .int .u8 b] 5)) := by
  refine run_convert_bytes_arg (P := Tryd.prog) (w.alloc (.cells #[.int .u8 a, .int .u8 b] 5)) 106 5 Tryd.underlying106 Tryd.underlying5 w.heap.size 0 2 2 [a, b] rfl ?_ 9 Tryd.underlying9
  intro i hi
  have : i = 0 ∨ i = 1 := by omega
  rcases this with rfl | rfl <;> simp [go_sem]
theorem gtwo_str (n : Int) (h0 : 0 ≤ n) : strOfNums [48 + n / 10, 48 + n % 10] = ⟨(two n.toNat).toArray⟩ := by
  obtain ⟨k, rfl⟩ := Int.eq_ofNat_of_zero_le h0
  have e1 : (48 + (k : Int) / 10).toNat = 48 + k / 10 := by omega
  have e2 : (48 + (k : Int) % 10).toNat = 48 + k % 10 := by omega
  simp only [strOfNums, two, List.map_cons, List.map_nil, e1, e2, Int.toNat_natCast]

set_option maxRecDepth 100000 in
set_option maxHeartbeats 400000 in
theorem gtwo_any (n : Int) (w : World) (h0 : 0 ≤ n) (h1 : n < 100) :
    Calls Tryd.prog 57 #[.int .i64 n] w fun e w' => e = .returned (.string ⟨(two n.toNat).toArray⟩) ∧ Below w.heap.size w w' := by
  have HT := Lib.hid (gtwo_str n h0)
  have kc := gtwo_nums (48 + n / 10) (48 + n % 10) w
  go_enter Tryd.func57, Tryd.ntmps57
  go_wp2
  go_ret
  exact ⟨congrArg (fun b => Ending.returned (.string b)) HT.out, (Below.refl _ _).alloc (Nat.le_refl _) _⟩

theorem gone_num (a : Int) (w : World) : (convert 106 9 (.slice (some ⟨w.heap.size, 0, none⟩) 1 1)).run Tryd.prog (w.alloc (.cells #[.int .u8 a] 5)) =
    .ok (.string (strOfNums [a])) (w.alloc (.cells #[.int .u8 a] 5)) := by
  refine run_convert_bytes_arg (P := Tryd.prog) (w.alloc (.cells #[.int .u8 a] 5)) 106 5 Tryd.underlying106 Tryd.underlying5 w.heap.size 0 1 1 [a] rfl ?_ 9 Tryd.underlying9
  intro i hi
  have : i = 0 := by omega
  subst this
  simp [go_sem]

theorem gone_str (n : Nat) : strOfNums [48 + (n : Int)] = ⟨[UInt8.ofNat (48 + n)].toArray⟩ := by
  have e1 : (48 + (n : Int)).toNat = 48 + n := by omega
  simp only [strOfNums, List.map_cons, List.map_nil, e1]
set_option maxRecDepth 100000 in
set_option maxHeartbeats 400000 in
theorem digits_one (n : Nat) (hn : n < 10) (w : World) : Calls Tryd.prog 60 #[.int .i64 n] w fun e w' => e = .returned (.string ⟨(numT n).toArray⟩) ∧ Below w.heap.size w w' := by
  have h1 : ((n : Nat) : Int) < 10 := by omega
  have e : strOfNums [48 + (n : Int)] = ⟨(numT n).toArray⟩ := by rw [gone_str]; simp [numT, hn]
  have HT := Lib.hid e
  have kc := gone_num (48 + (n : Int)) w
  clear e
  go_enter Tryd.func60, Tryd.ntmps60
  go_wp2
  go_ret
  exact ⟨congrArg (fun b => Ending.returned (.string b)) HT.out, (Below.refl _ _).alloc (Nat.le_refl _) _⟩
theorem digits_any (n : Int) (h0 : 0 ≤ n) (h1 : n < 100) (w : World) : Calls Tryd.prog 60 #[.int .i64 n] w fun e w' => e = .returned (.string ⟨(numT n.toNat).toArray⟩) ∧ Below w.heap.size w w' := by
  obtain ⟨k, rfl⟩ := Int.eq_ofNat_of_zero_le h0
  by_cases c : k < 10
  · exact digits_one k c w
  · have hc : ¬ ((k : Nat) : Int) < 10 := by omega
    have e : numT k = two k := by simp [numT, two, c]
    have HT := Lib.hid e
    clear e
    go_enter Tryd.func60, Tryd.ntmps60
    go_wp2_with (go_at_call 57; refine (gtwo_any _ _ (by omega) (by omega)).mono ?_; rintro e W ⟨rfl, hb⟩; simp only [Int.toNat_natCast])
    go_ret
    exact ⟨by show Ending.returned (Value.string ⟨(two k).toArray⟩) = Ending.returned (Value.string ⟨(numT k).toArray⟩); rw [HT.out], hb⟩
end Go.Proofs.YtgiclhkoajbgpaaDoor
