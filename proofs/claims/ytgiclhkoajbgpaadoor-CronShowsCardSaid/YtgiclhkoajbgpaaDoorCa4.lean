/-
  The walks of calendar.digits and of Date.Show; the law's own awake.
-/
import Derived.Test.YtgiclhkoajbgpaaDoorCa3
import Derived.Test.YtgiclhkoajbgpaaDoorShI
import Derived.Test.YtgiclhkoajbgpaaDoorSince
import Derived.ShutString
namespace Go.Proofs.YtgiclhkoajbgpaaDoor
open Go.RowKit

theorem ret_str {a b : List UInt8} (h : a = b) : Ending.returned (.string ⟨a.toArray⟩) = .returned (.string ⟨b.toArray⟩) := by rw [h]
/-- two digits -/
def two (n : Nat) : List UInt8 := [UInt8.ofNat (48 + n / 10), UInt8.ofNat (48 + n % 10)]
/-- padded by '0' -/
def pad (c : Nat) (l : List UInt8) : List UInt8 := List.replicate (c - l.length) 48 ++ l

theorem Below.grow {B : Nat} {a w : World} (h : Below B a w) (hB : B ≤ w.heap.size) (os : Array Obj) : Below B a (Go.Sort.grow w os) :=
  h.trans ⟨rfl, rfl, rfl, by simp, fun k hk => by simp [Go.Sort.grow, Array.getElem?_append, show k < w.heap.size by omega]⟩

theorem bytes_app (a b : List UInt8) : (⟨a.toArray⟩ : ByteArray) ++ ⟨b.toArray⟩ = ⟨(a ++ b).toArray⟩ := by
  apply ByteArray.ext
  show (ByteArray.append _ _).data = _
  simp [ByteArray.append]
/-- the length of a string in a slot -/
def szOf : Value → Nat | .string s => s.size | _ => 0
theorem szOf_mk (l : List UInt8) : szOf (.string ⟨l.toArray⟩) = l.length := by simp [szOf, ByteArray.size]

/-- the loop that pads -/
def PadRel (c : Nat) (D : List UInt8) (v : Value) : Prop := ∃ k : Nat, k ≤ c - D.length ∧ v = .string ⟨(List.replicate k 48 ++ D).toArray⟩
theorem pad_next (c : Nat) (D : List UInt8) (k : Nat) (h : k + D.length < c) : PadRel c D (.string ((⟨#[48]⟩ : ByteArray) ++ ⟨(List.replicate k 48 ++ D).toArray⟩)) :=
  ⟨k + 1, by omega, by rw [show (⟨#[48]⟩ : ByteArray) = ⟨[48].toArray⟩ from rfl, bytes_app]; rfl⟩
theorem pad_less (c : Nat) (D : List UInt8) (k : Nat) (h : k + D.length < c) : c - szOf (.string ((⟨#[48]⟩ : ByteArray) ++ ⟨(List.replicate k 48 ++ D).toArray⟩)) < c - szOf (.string ⟨(List.replicate k 48 ++ D).toArray⟩) := by
  rw [show (⟨#[48]⟩ : ByteArray) = ⟨[48].toArray⟩ from rfl, bytes_app, szOf_mk, szOf_mk]
  simp; omega
theorem pad_end (c : Nat) (D : List UInt8) (k : Nat) (hk : k ≤ c - D.length) (h : ¬ k + D.length < c) : List.replicate k 48 ++ D = pad c D := by
  unfold pad; rw [show k = c - D.length by omega]

set_option maxHeartbeats 400000 in
theorem digits_small (n : Nat) (h : n < 100) (c : Nat) (hc : c ≤ 10) (w : World) :
    Calls Tryd.prog 62 #[.int .i64 n, .int .i64 c] w fun e w' => e = .returned (.string ⟨(pad c (Lib.decDigits n)).toArray⟩) ∧ w = w' := by
  go_enter Tryd.func62, Tryd.ntmps62
  go_wp2_with (go_at_call 75; refine (Tryd.strconv_Itoa_small n h _).mono ?_; rintro e w' ⟨rfl, rfl⟩)
  generalize hD : Lib.decDigits n = D
  have HD := Lib.hid hD
  clear hD
  go_loop [5] (fun v => PadRel c D v) (fun v => c - szOf v)
  case atStart => exact ⟨0, by omega, by simp⟩
  case round =>
    obtain ⟨k, hk, rfl⟩ := hrel
    by_cases hlt : k + D.length < c
    · have P1 := Lib.hid (pad_next c D k hlt)
      have P2 := Lib.hid (pad_less c D k hlt)
      go_wp2
      exact ⟨P1.out, P2.out⟩
    · have P1 := Lib.hid (pad_end c D k hk hlt)
      go_wp2
      go_ret
      exact ⟨ret_str (by rw [HD.out]; exact P1.out), rfl⟩

set_option maxHeartbeats 400000 in
theorem digits_big (n : Nat) (h : n < 100000) (c : Nat) (hc : c ≤ 10) (w : World) (htab : Lib.TabIs Tryd.prog w "internal/strconv.uint64pow10" .u64 Lib.pow10Tab) :
    Calls Tryd.prog 62 #[.int .i64 n, .int .i64 c] w fun e w' => e = .returned (.string ⟨(pad c (Lib.decDigits n)).toArray⟩) ∧ Below w.heap.size w w' := by
  go_enter Tryd.func62, Tryd.ntmps62
  go_wp2_with (go_at_call 75; refine (Tryd.strconv_Itoa n (by omega) (by omega) _ htab).mono ?_; rintro e w' ⟨rfl, hw⟩; have HW := Lib.hid hw; clear hw)
  rw [Lib.itoa_nonneg]
  generalize hD : Lib.decDigits n = D
  have HD := Lib.hid hD
  clear hD
  go_loop [5] (fun v => PadRel c D v) (fun v => c - szOf v)
  case atStart => exact ⟨0, by omega, by simp⟩
  case round =>
    obtain ⟨k, hk, rfl⟩ := hrel
    by_cases hlt : k + D.length < c
    · have P1 := Lib.hid (pad_next c D k hlt)
      have P2 := Lib.hid (pad_less c D k hlt)
      go_wp2
      exact ⟨P1.out, P2.out⟩
    · have P1 := Lib.hid (pad_end c D k hk hlt)
      go_wp2
      go_ret
      refine ⟨ret_str (by rw [HD.out]; exact P1.out), ?_⟩
      obtain ⟨m, os, rfl⟩ := HW.out
      exact Below.grow (Below.drewN (Below.refl _ _) _) (Nat.le_refl _) _

theorem pad_two (n : Nat) (h : n < 100) : pad 2 (Lib.decDigits n) = two n := by
  unfold pad two
  by_cases c : n < 10
  · rw [Lib.decDigits_one c]
    have e1 : n / 10 = 0 := by omega
    have e2 : n % 10 = n := by omega
    rw [e1, e2]; rfl
  · rw [Lib.decDigits_two c h]; rfl
theorem pad_four (n : Nat) (h0 : 1000 ≤ n) (h : n < 10000) : pad 4 (Lib.decDigits n) = two (n / 100) ++ two (n % 100) := by
  unfold pad two
  have a : Lib.decDigits n = [UInt8.ofNat (48 + n / 100 / 10), UInt8.ofNat (48 + n / 100 % 10), UInt8.ofNat (48 + n % 100 / 10), UInt8.ofNat (48 + n % 100 % 10)] := by
    rw [Lib.decDigits, dif_neg (by omega), Lib.decDigits, dif_neg (by omega), Lib.decDigits_two (by omega) (by omega)]
    simp only [List.cons_append, List.nil_append, List.cons.injEq, and_true]
    refine ⟨?_, ?_, ?_, ?_⟩ <;> (congr 1; omega)
  rw [a]; rfl

/-- what a date's text is -/
def showL (y m d h i : Nat) : List UInt8 := (two (y / 100) ++ two (y % 100)) ++ [45] ++ two m ++ [45] ++ two d ++ [32] ++ two h ++ [58] ++ two i

set_option maxHeartbeats 400000 in
theorem digits_2 (n : Int) (h0 : 0 ≤ n) (h : n < 100) (w : World) :
    Calls Tryd.prog 62 #[.int .i64 n, .int .i64 2] w fun e w' => e = .returned (.string ⟨(two n.toNat).toArray⟩) ∧ w = w' := by
  obtain ⟨k, rfl⟩ := Int.eq_ofNat_of_zero_le h0
  have := digits_small k (by omega) 2 (by omega) w
  rw [pad_two k (by omega)] at this
  exact this
theorem digits_4 (n : Int) (h0 : 1000 ≤ n) (h : n < 10000) (w : World) (htab : Lib.TabIs Tryd.prog w "internal/strconv.uint64pow10" .u64 Lib.pow10Tab) :
    Calls Tryd.prog 62 #[.int .i64 n, .int .i64 4] w fun e w' => e = .returned (.string ⟨(two (n.toNat / 100) ++ two (n.toNat % 100)).toArray⟩) ∧ Below w.heap.size w w' := by
  obtain ⟨k, rfl⟩ := Int.eq_ofNat_of_zero_le (show 0 ≤ n by omega)
  have := digits_big k (by omega) 4 (by omega) w htab
  rw [pad_four k (by omega) (by omega)] at this
  exact this

/-- the table of powers of ten lies in its variable -/
def PowIs (w : World) : Prop := Lib.TabIs Tryd.prog w "internal/strconv.uint64pow10" .u64 Lib.pow10Tab
theorem gPow : Tryd.prog.globalNamed "internal/strconv.uint64pow10" = some 8 := by kernel_rfl
theorem PowIs.below {B : Nat} {w w' : World} (hP : PowIs w) (hb : Below B w w') (hB : 8 < B) : PowIs w' := by
  exact var?_below hb gPow hB hP
theorem pow_size {w : World} (hP : PowIs w) : 8 < w.heap.size := by
  have h := Lib.TabIs.cell hP gPow 0 (by decide)
  by_cases e : 8 < w.heap.size
  · exact e
  · have : w.heap[8]? = none := by rw [Array.getElem?_eq_none_iff]; omega
    simp [World.cell?, this] at h
/-- what package calendar's functions want of the world -/
structure Glob (w : World) : Prop where
  lens : LensIs w
  pow : PowIs w
theorem Glob.below {w w' : World} (h : Glob w) (hb : Below w.heap.size w w') : Glob w' := ⟨h.lens.below hb (lens_pos h.lens), h.pow.below hb (pow_size h.pow)⟩
theorem Glob.drewN {w : World} (h : Glob w) (n : Nat) : Glob (w.drewN n) := h.below (Below.drewN (Below.refl _ _) _)
theorem Glob.alloc {w : World} (h : Glob w) (o : Obj) : Glob (w.alloc o) := h.below ((Below.refl _ _).alloc (Nat.le_refl _) _)

set_option maxHeartbeats 400000 in
theorem show_none (y m d h i k : Int) (w : World) (hG : Glob w) (g : ¬ DateOk y m d h i k) :
    Calls Tryd.prog 39 #[dateV y m d h i k] w fun e w' => e = .returned (.string ⟨#[]⟩) ∧ Below w.heap.size w w' := by
  go_enter Tryd.func39, Tryd.ntmps39
  go_wp2_with (go_at_call 15; refine (minutes_none _ _ _ _ _ _ _ ((hG.alloc _).lens) g).mono ?_; rintro e w1 ⟨rfl, hb⟩)
  go_ret
  exact ⟨rfl, ((Below.refl _ _).alloc (Nat.le_refl _) _).trans (hb.mono (by simp))⟩
theorem two_len (n : Nat) : (two n).length = 2 := rfl
/-- four digits -/
def four (n : Nat) : List UInt8 := two (n / 100) ++ two (n % 100)
theorem four_len (n : Nat) : (four n).length = 4 := rfl
theorem digits_4' (n : Int) (h0 : 1000 ≤ n) (h : n < 10000) (w : World) (htab : PowIs w) :
    Calls Tryd.prog 62 #[.int .i64 n, .int .i64 4] w fun e w' => e = .returned (.string ⟨(four n.toNat).toArray⟩) ∧ Below w.heap.size w w' := digits_4 n h0 h w htab
theorem show_bytes (y m d h i : Nat) : (⟨(four y).toArray⟩ : ByteArray) ++ ⟨#[45]⟩ ++ ⟨(two m).toArray⟩ ++ ⟨#[45]⟩ ++ ⟨(two d).toArray⟩ ++ ⟨#[32]⟩ ++ ⟨(two h).toArray⟩ ++ ⟨#[58]⟩ ++ ⟨(two i).toArray⟩ = ⟨(showL y m d h i).toArray⟩ := by
  rw [show (⟨#[45]⟩ : ByteArray) = ⟨[45].toArray⟩ from rfl, show (⟨#[32]⟩ : ByteArray) = ⟨[32].toArray⟩ from rfl, show (⟨#[58]⟩ : ByteArray) = ⟨[58].toArray⟩ from rfl]
  simp only [bytes_app]
  rfl
set_option maxHeartbeats 400000 in
theorem show_good (y m d h i k : Int) (w : World) (hG : Glob w) (g : DateOk y m d h i k) :
    Calls Tryd.prog 39 #[dateV y m d h i k] w fun e w' => e = .returned (.string ⟨(showL y.toNat m.toNat d.toNat h.toNat i.toNat).toArray⟩) ∧ Below w.heap.size w w' := by
  have g' := g
  obtain ⟨g1, g2, g3, g4, g5, g6, g7, g8, g9, g10, g11, g12⟩ := g'
  have db := Cal.dim_le y m
  clear g12 g11
  go_enter Tryd.func39, Tryd.ntmps39
  go_wp2_with (go_at_call 15; refine (minutes_good _ _ _ _ _ _ _ ((hG.alloc _).lens) g).mono ?_; rintro e w1 ⟨rfl, hb⟩)
  have HB := Lib.hid (((Below.refl w.heap.size w).alloc (Nat.le_refl _) _).trans (hb.mono (by simp)))
  have G1 := (hG.alloc _).below hb
  have hl2 : w.heap.size ≤ w1.heap.size := by have := hb.size; simp at this; omega
  have c0 := since_cell (show w1.cell? ⟨w.heap.size, 0, none⟩ = some (.int .i64 y) from (hb.cell (p := ⟨w.heap.size, 0, none⟩) (by simp)).trans (by simp [go_sem]))
  have c1 := since_cell (show w1.cell? ⟨w.heap.size, 1, none⟩ = some (.int .i64 m) from (hb.cell (p := ⟨w.heap.size, 1, none⟩) (by simp)).trans (by simp [go_sem]))
  have c2 := since_cell (show w1.cell? ⟨w.heap.size, 2, none⟩ = some (.int .i64 d) from (hb.cell (p := ⟨w.heap.size, 2, none⟩) (by simp)).trans (by simp [go_sem]))
  have c3 := since_cell (show w1.cell? ⟨w.heap.size, 3, none⟩ = some (.int .i64 h) from (hb.cell (p := ⟨w.heap.size, 3, none⟩) (by simp)).trans (by simp [go_sem]))
  have c4 := since_cell (show w1.cell? ⟨w.heap.size, 4, none⟩ = some (.int .i64 i) from (hb.cell (p := ⟨w.heap.size, 4, none⟩) (by simp)).trans (by simp [go_sem]))
  clear hb g
  refine wp_region_since (by kernel_rfl) (by kernel_rfl) ?_
  have t2 := two_len
  have t4 := four_len
  repeat (first | go_big_quiet_step ((first | (go_at_call_of 62 (Value.int .i64 y); exact since_call (digits_4' _ (by omega) (by omega) _ (G1.below (Since.h _)).pow)) | (go_at_call 62; exact since_same (digits_2 _ (by omega) (by omega) _)))) | quiet_step ((first | (go_at_call_of 62 (Value.int .i64 y); exact since_call (digits_4' _ (by omega) (by omega) _ (G1.below (Since.h _)).pow)) | (go_at_call 62; exact since_same (digits_2 _ (by omega) (by omega) _)))))
  refine wpQuiet_nil ?_
  rintro _ ⟨x, rfl⟩
  go_wp2
  go_ret
  exact ⟨congrArg (fun b => Ending.returned (.string b)) (show_bytes _ _ _ _ _), HB.out.trans (x.h.mono hl2)⟩

theorem of_86400 (w : World) (hL : LensIs w) : Calls Tryd.prog 13 #[.int .i64 86400] w fun e w' => e = .returned (.tuple #[dateV 2000 3 1 0 0 3, .int .i64 0]) ∧ Below w.heap.size w w' := by
  have h := of_min 2000 3 1 0 0 w hL (by decide) (by decide) (by decide) (by decide) (by decide) (by decide) (by decide) (by decide) (by decide) (by decide)
  have e : (Cal.ys (2000 - 2000) + Cal.cum 2000 3 + 1 - 1) * 1440 + 0 * 60 + 0 = 86400 := by decide
  have e2 : (Cal.ys (2000 - 2000) + Cal.cum 2000 3 + 1 - 1 + 6) % 7 = 3 := by decide
  rw [e, e2] at h
  exact h
theorem show_86400 (w : World) (hG : Glob w) : Calls Tryd.prog 39 #[dateV 2000 3 1 0 0 3] w fun e w' => e = .returned (.string ⟨#[50, 48, 48, 48, 45, 48, 51, 45, 48, 49, 32, 48, 48, 58, 48, 48]⟩) ∧ Below w.heap.size w w' := by
  have h := show_good 2000 3 1 0 0 3 w hG ⟨by decide, by decide, by decide, by decide, by decide, by decide, by decide, by decide, by decide, by decide, by decide, by decide⟩
  have e : showL (Int.toNat 2000) (Int.toNat 3) (Int.toNat 1) (Int.toNat 0) (Int.toNat 0) = [50, 48, 48, 48, 45, 48, 51, 45, 48, 49, 32, 48, 48, 58, 48, 48] := by decide
  rw [e] at h
  exact h

set_option maxHeartbeats 400000 in
theorem awake_any (w : World) (hG : Glob w) : Calls Tryd.prog 14 #[] w fun e w' => e = .returned (.bool true) ∧ Below w.heap.size w w' := by
  go_enter Tryd.func14, Tryd.ntmps14
  go_wp2_with (first | (go_at_call 13; refine (of_86400 _ hG.lens).mono ?_; rintro e w1 ⟨rfl, hb1⟩; have G1 := hG.below hb1) | (go_at_call 39; refine (show_86400 _ (G1.alloc _)).mono ?_; rintro e w2 ⟨rfl, hb2⟩))
  go_ret
  exact ⟨rfl, ((hb1.alloc hb1.size _).trans (hb2.mono (by simp; have := hb1.size; omega)))⟩
end Go.Proofs.YtgiclhkoajbgpaaDoor
