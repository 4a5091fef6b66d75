/-
  The walks of the reference's Two and Show, and of the law CalendarParses.
-/
import Derived.Test.YtgiclhkoajbgpaaDoorCe2
namespace Go.Proofs.YtgiclhkoajbgpaaDoor
open Go.RowKit

theorem two_nums (a b : Int) (w : World) : (convert 106 9 (.slice (some ⟨w.heap.size, 0, none⟩) 2 2)).run Tryd.prog (w.alloc (.cells #[.int .u8 a, .int .u8 b] 5)) =
    .ok (.string (strOfNums [a, b])) (w.alloc (.cells #[.int .u8 a, .int .u8 b] 5)) := by
  refine run_convert_bytes_arg (P := Tryd.prog) (w.alloc (.cells #[.int .u8 a, .int .u8 b] 5)) 106 5 Tryd.underlying106 Tryd.underlying5 w.heap.size 0 2 2 [a, b] rfl ?_ 9 Tryd.underlying9
  intro i hi
  have : i = 0 ∨ i = 1 := by omega
  rcases this with rfl | rfl <;> simp [go_sem]
theorem two_str (n : Int) (h0 : 0 ≤ n) : strOfNums [48 + n / 10, 48 + n % 10] = ⟨(two n.toNat).toArray⟩ := by
  obtain ⟨k, rfl⟩ := Int.eq_ofNat_of_zero_le h0
  have e1 : (48 + (k : Int) / 10).toNat = 48 + k / 10 := by omega
  have e2 : (48 + (k : Int) % 10).toNat = 48 + k % 10 := by omega
  simp only [strOfNums, two, List.map_cons, List.map_nil, e1, e2, Int.toNat_natCast]

set_option maxRecDepth 100000 in
set_option maxHeartbeats 400000 in
theorem rtwo_any (n : Int) (w : World) (h0 : 0 ≤ n) (h1 : n < 100) :
    Calls Tryd.prog 57 #[.int .i64 n] w fun e w' => e = .returned (.string ⟨(two n.toNat).toArray⟩) ∧ Below w.heap.size w w' := by
  have HT := Lib.hid (two_str n h0)
  have kc := two_nums (48 + n / 10) (48 + n % 10) w
  go_enter Tryd.func57, Tryd.ntmps57
  go_wp2
  go_ret
  exact ⟨congrArg (fun b => Ending.returned (.string b)) HT.out, (Below.refl _ _).alloc (Nat.le_refl _) _⟩

theorem rshow_bytes (y m d h i : Nat) : (⟨(two (y / 100)).toArray⟩ : ByteArray) ++ ⟨(two (y % 100)).toArray⟩ ++ ⟨#[45]⟩ ++ ⟨(two m).toArray⟩ ++ ⟨#[45]⟩ ++ ⟨(two d).toArray⟩ ++ ⟨#[32]⟩ ++ ⟨(two h).toArray⟩ ++ ⟨#[58]⟩ ++ ⟨(two i).toArray⟩ = ⟨(showL y m d h i).toArray⟩ := by
  rw [show (⟨#[45]⟩ : ByteArray) = ⟨[45].toArray⟩ from rfl, show (⟨#[32]⟩ : ByteArray) = ⟨[32].toArray⟩ from rfl, show (⟨#[58]⟩ : ByteArray) = ⟨[58].toArray⟩ from rfl]
  simp only [bytes_app]
  rfl

theorem rshow_ints (y m d h i : Int) (y0 : 0 ≤ y) : (⟨(two (y / 100).toNat).toArray⟩ : ByteArray) ++ ⟨(two (y % 100).toNat).toArray⟩ ++ ⟨#[45]⟩ ++ ⟨(two m.toNat).toArray⟩ ++ ⟨#[45]⟩ ++ ⟨(two d.toNat).toArray⟩ ++ ⟨#[32]⟩ ++ ⟨(two h.toNat).toArray⟩ ++ ⟨#[58]⟩ ++ ⟨(two i.toNat).toArray⟩ = ⟨(showL y.toNat m.toNat d.toNat h.toNat i.toNat).toArray⟩ := by
  obtain ⟨Y, rfl⟩ := Int.eq_ofNat_of_zero_le y0
  rw [show ((Y : Int) / 100).toNat = Y / 100 by omega, show ((Y : Int) % 100).toNat = Y % 100 by omega, Int.toNat_natCast]
  exact rshow_bytes Y m.toNat d.toNat h.toNat i.toNat
set_option maxRecDepth 100000 in
set_option maxHeartbeats 1000000 in
theorem rshow_any (y m d h i k : Int) (w : World) (y0 : 0 ≤ y) (y1 : y < 10000) (m0 : 0 ≤ m) (m1 : m < 100) (d0 : 0 ≤ d) (d1 : d < 100) (h0 : 0 ≤ h) (h1 : h < 100) (i0 : 0 ≤ i) (i1 : i < 100) :
    Calls Tryd.prog 34 #[dateV y m d h i k] w fun e w' => e = .returned (.string ⟨(showL y.toNat m.toNat d.toNat h.toNat i.toNat).toArray⟩) ∧ Below w.heap.size w w' := by
  go_enter Tryd.func34, Tryd.ntmps34
  go_wp2_with fail
  have C0 := since_cell (show (w.alloc (.cells #[.int .i64 y, .int .i64 m, .int .i64 d, .int .i64 h, .int .i64 i, .int .i64 k] 30)).cell? ⟨w.heap.size, 0, none⟩ = some (.int .i64 y) by simp [go_sem])
  have C1 := since_cell (show (w.alloc (.cells #[.int .i64 y, .int .i64 m, .int .i64 d, .int .i64 h, .int .i64 i, .int .i64 k] 30)).cell? ⟨w.heap.size, 1, none⟩ = some (.int .i64 m) by simp [go_sem])
  have C2 := since_cell (show (w.alloc (.cells #[.int .i64 y, .int .i64 m, .int .i64 d, .int .i64 h, .int .i64 i, .int .i64 k] 30)).cell? ⟨w.heap.size, 2, none⟩ = some (.int .i64 d) by simp [go_sem])
  have C3 := since_cell (show (w.alloc (.cells #[.int .i64 y, .int .i64 m, .int .i64 d, .int .i64 h, .int .i64 i, .int .i64 k] 30)).cell? ⟨w.heap.size, 3, none⟩ = some (.int .i64 h) by simp [go_sem])
  have C4 := since_cell (show (w.alloc (.cells #[.int .i64 y, .int .i64 m, .int .i64 d, .int .i64 h, .int .i64 i, .int .i64 k] 30)).cell? ⟨w.heap.size, 4, none⟩ = some (.int .i64 i) by simp [go_sem])
  have t2 := two_len
  refine wp_region_since (by kernel_rfl) (by kernel_rfl) ?_
  repeat (first | go_big_quiet_step ((go_at_call 57; exact since_call (rtwo_any _ _ (by omega) (by omega)))) | quiet_step ((go_at_call 57; exact since_call (rtwo_any _ _ (by omega) (by omega)))))
  refine wpQuiet_nil ?_
  rintro _ ⟨x, rfl⟩
  go_wp2
  go_ret
  exact ⟨congrArg (fun b => Ending.returned (.string b)) (rshow_ints y m d h i y0), ((Below.refl _ _).alloc (Nat.le_refl _) _).trans (x.h.mono (by simp))⟩
theorem parse_any (s : ByteArray) (w : World) (hG : GlobP w) (hs : s.size ≤ 1000) : Calls Tryd.prog 33 #[.string s] w (ParsePost s w) := by
  by_cases h : s.size = 16
  · exact parse_16 s w hG h
  · exact parse_len s w h hs
theorem ok_bd {y m d h i k : Int} (g : DateOk y m d h i k) : 0 ≤ y ∧ y < 10000 ∧ 0 ≤ m ∧ m < 100 ∧ 0 ≤ d ∧ d < 100 ∧ 0 ≤ h ∧ h < 100 ∧ 0 ≤ i ∧ i < 100 := by
  obtain ⟨g1, g2, g3, g4, g5, g6, g7, g8, g9, g10, g11, g12⟩ := g
  have := Cal.dim_le y m
  omega

theorem rshow_ok (y m d h i k : Int) (w : World) (g : DateOk y m d h i k) :
    Calls Tryd.prog 34 #[dateV y m d h i k] w fun e w' => e = .returned (.string ⟨(showL y.toNat m.toNat d.toNat h.toNat i.toNat).toArray⟩) ∧ Below w.heap.size w w' := by
  obtain ⟨a1, a2, a3, a4, a5, a6, a7, a8, a9, a10⟩ := ok_bd g
  exact rshow_any y m d h i k w a1 a2 a3 a4 a5 a6 a7 a8 a9 a10
set_option maxRecDepth 100000 in
set_option maxHeartbeats 1000000 in
theorem lparses_long (s : ByteArray) (w : World) (hG : GlobP w) (h : 100 < s.size) (hm : s.size ≤ 9223372036854775807) :
    Calls Tryd.prog 11 #[.string s] w fun e w' => e = .returned (.bool true) ∧ Below w.heap.size w w' := by
  go_enter Tryd.func11, Tryd.ntmps11
  go_wp2_with (go_at_call 14; refine (awake_any _ hG.g).mono ?_; rintro e w1 ⟨rfl, hb1⟩)
  go_ret
  exact ⟨rfl, hb1⟩

set_option maxRecDepth 100000 in
set_option maxHeartbeats 1000000 in
theorem lparses_short (s : ByteArray) (w : World) (hG : GlobP w) (h : s.size ≤ 100) :
    Calls Tryd.prog 11 #[.string s] w fun e w' => e = .returned (.bool true) ∧ Below w.heap.size w w' := by
  go_enter Tryd.func11, Tryd.ntmps11
  go_wp2_with fail
  refine (parse_any s w hG (by omega)).mono ?_
  rintro e w1 ⟨hb1, (rfl | ⟨y, m, d, hh, i, k, rfl, g, hs⟩)⟩
  · have G1 := (hG.below hb1)
    go_wp2_with (go_at_call 14; refine (awake_any _ (G1.g.alloc _)).mono ?_; rintro e w2 ⟨rfl, hb2⟩)
    go_ret
    exact ⟨rfl, ((hb1.alloc hb1.size _).trans (hb2.mono (by simp; have := hb1.size; omega)))⟩
  · have G1 := (hG.below hb1)
    have hT : (showL y.toNat m.toNat d.toNat hh.toNat i.toNat == s.toList) = true := by
      rw [beq_iff_eq, hs, ByteArray.toList_eq]
    have HG := Lib.hid g
    clear g hs
    go_wp2_with fail
    refine (minutes_good _ _ _ _ _ _ _ (G1.g.alloc _).lens HG.out).mono ?_
    rintro e w2 ⟨rfl, hb2⟩
    obtain ⟨hz, c0, c1, c2, c3, c4, c5⟩ := date_cells hb2
    have G2 := (G1.g.alloc _).below hb2
    have B2 := Lib.hid ((hb1.alloc hb1.size _).trans (hb2.mono (Nat.le_of_lt (Nat.lt_of_le_of_lt hb1.size (by simp)))))
    have hz2 : w.heap.size ≤ w2.heap.size := by have := hb1.size; omega
    have C0 := since_cell c0
    have C1 := since_cell c1
    have C2 := since_cell c2
    have C3 := since_cell c3
    have C4 := since_cell c4
    have C5 := since_cell c5
    clear hb2 c0 c1 c2 c3 c4 c5
    have E6 : ∀ w, (Op.equalIn 10000 30 (dateV y m d hh i k) (dateV y m d hh i k)).run Tryd.prog w = .ok true w := fun w => by rw [run_eq6]; simp
    go_wp2_with fail
    refine wp_region_since (by kernel_rfl) (by kernel_rfl) ?_
    repeat (first | go_big_quiet_step ((first | (go_at_call 17; exact since_call (rof_min _ _ _ _ _ _ _ HG.out)) | (go_at_call 34; exact since_call (rshow_ok _ _ _ _ _ _ _ HG.out)) | (go_at_call 16; exact since_call (ref_any _ _ _ _ _ _ _)) | (go_at_call 14; exact since_call (awake_any _ (G2.below (Since.h _)))))) | quiet_step ((first | (go_at_call 17; exact since_call (rof_min _ _ _ _ _ _ _ HG.out)) | (go_at_call 34; exact since_call (rshow_ok _ _ _ _ _ _ _ HG.out)) | (go_at_call 16; exact since_call (ref_any _ _ _ _ _ _ _)) | (go_at_call 14; exact since_call (awake_any _ (G2.below (Since.h _)))))))
    refine wpQuiet_nil ?_
    rintro _ ⟨x, rfl⟩
    go_wp2
    go_ret
    exact ⟨rfl, B2.out.trans (x.h.mono hz2)⟩
theorem lparses_any (s : ByteArray) (w : World) (hG : GlobP w) (hm : s.size ≤ 9223372036854775807) :
    Calls Tryd.prog 11 #[.string s] w fun e w' => e = .returned (.bool true) ∧ Below w.heap.size w w' := by
  by_cases h : s.size ≤ 100
  · exact lparses_short s w hG h
  · exact lparses_long s w hG (by omega) hm
end Go.Proofs.YtgiclhkoajbgpaaDoor
