/-
  The document's split: a text parted at a byte.
-/
import Derived.Test.YtgiclhkoajbgpaaDoorEj
import Derived.Test.YtgiclhkoajbgpaaDoorFa
namespace Go.Proofs.YtgiclhkoajbgpaaDoor
open Go.RowKit

/-- one byte more -/
theorem split_snoc (c x : UInt8) : ∀ l : List UInt8, ∃ ps p, splitL c l = ps ++ [p] ∧ splitL c (l ++ [x]) = if x = c then ps ++ [p, []] else ps ++ [p ++ [x]]
  | [] => ⟨[], [], rfl, by
      by_cases h : x = c
      · subst h; simp [splitL]
      · have h' : (x == c) = false := by simpa using h
        simp [splitL, h]⟩
  | b :: r => by
    obtain ⟨ps, p, h1, h2⟩ := split_snoc c x r
    by_cases hb : b = c
    · subst hb
      refine ⟨[] :: ps, p, by simp [splitL, h1], ?_⟩
      rw [List.cons_append, splitL, h2]
      by_cases hx : x = b <;> simp [hx]
    · have hb' : (b == c) = false := by simpa using hb
      cases ps with
      | nil =>
        refine ⟨[], b :: p, by simp [splitL, h1, hb], ?_⟩
        rw [List.cons_append, splitL, h2]
        by_cases hx : x = c <;> simp [hx, hb]
      | cons q qs =>
        refine ⟨(b :: q) :: qs, p, by simp [splitL, h1, hb], ?_⟩
        rw [List.cons_append, splitL, h2]
        by_cases hx : x = c <;> simp [hx, hb]
theorem split_head (c : UInt8) (l : List UInt8) : (splitL c l).head? = some [] ↔ (l = [] ∨ l.head? = some c) := by
  cases l with
  | nil => simp [splitL]
  | cons b r =>
    obtain ⟨p, ps, h⟩ := splitL_ne c r
    by_cases hb : b = c
    · subst hb; simp [splitL]
    · simp [splitL, hb, h]
theorem split_last (c : UInt8) (l : List UInt8) : (splitL c l).getLast? = some [] ↔ (l = [] ∨ l.getLast? = some c) := by
  rcases List.eq_nil_or_concat l with rfl | ⟨r, x, rfl⟩
  · simp [splitL]
  · rw [List.concat_eq_append]
    obtain ⟨ps, p, h1, h2⟩ := split_snoc c x r
    rw [h2]
    by_cases hx : x = c
    · simp [hx]
    · simp [hx]
theorem prefix_head (c : UInt8) (l : List UInt8) : Lib.hasPrefix l [c] = true ↔ l.head? = some c := by
  cases l with
  | nil => simp [Lib.hasPrefix]
  | cons b r => simp [Lib.hasPrefix]; exact eq_comm
theorem suffix_last (c : UInt8) (l : List UInt8) : Lib.hasSuffix l [c] = true ↔ l.getLast? = some c := by
  rcases List.eq_nil_or_concat l with rfl | ⟨r, x, rfl⟩
  · simp [Lib.hasSuffix]
  · simp [Lib.hasSuffix]; exact eq_comm

theorem str_one {l : List UInt8} {i : Nat} {x : UInt8} (h : l[i]? = some x) : (⟨l.toArray⟩ : ByteArray).extract i (i + 1) = ⟨[x].toArray⟩ := by
  apply ByteArray.ext
  rw [ByteArray.data_extract]
  have hd : l.drop i = x :: l.drop (i + 1) := by
    obtain ⟨h1, h2⟩ := List.getElem?_eq_some_iff.1 h
    rw [List.drop_eq_getElem_cons h1, h2]
  simp [hd]
theorem str_cat (p : List UInt8) (x : UInt8) : (⟨p.toArray⟩ : ByteArray) ++ (⟨[x].toArray⟩ : ByteArray) = ⟨(p ++ [x]).toArray⟩ := by
  apply ByteArray.ext
  simp
/-- a row of texts of one's own -/
def OwnStrs (W : World) (base : Nat) (v : Value) (L : List (List UInt8)) : Prop := W.ownsRow base 9 1 v L.length (L.map strV)
theorem OwnStrs.below {W W' : World} {base : Nat} {v : Value} {xs : List (List UInt8)} (h : OwnStrs W base v xs) (hb : Below W.heap.size W W') : OwnStrs W' base v xs :=
  World.ownsRow.kept h (row := none) ⟨hb.os, hb.tape, hb.output, hb.size, fun k hk _ => hb.block k hk⟩ (by cases v.ownBlock <;> simp)
theorem strs_form {W : World} {base : Nat} {v : Value} {xs : List (List UInt8)} (h : OwnStrs W base v xs) : ∃ a c, v = .slice a xs.length c := by
  rcases h.2 with ⟨rfl, h0⟩ | ⟨g, cap, _, rfl, _⟩
  · exact ⟨none, 0, by rw [h0]⟩
  · exact ⟨_, _, rfl⟩
theorem strs_cell {W : World} {base : Nat} {a : Option Addr} {cap : Nat} {xs : List (List UInt8)} (h : OwnStrs W base (.slice a xs.length cap) xs) (hx : 0 < xs.length) :
    ∃ g, a = some ⟨g, 0, none⟩ ∧ base ≤ g ∧ g < W.heap.size ∧ (∀ i x, xs[i]? = some x → W.cell? ⟨g, i, none⟩ = some (strV x)) ∧ ∀ i, W.frozen? ⟨g, i, none⟩ = false := by
  rcases h.2 with ⟨h1, h0⟩ | ⟨g, cap', cur, h1, hb, hg, hrest⟩
  · omega
  · cases h1
    refine ⟨g, rfl, hb, (Array.getElem?_eq_some_iff.1 hg).1, fun i x hx => ?_, fun i => by simp [World.frozen?, hg]⟩
    have := World.ownsRow.cells h (g := g) rfl i (strV x) (by simp [hx])
    have hadd : (⟨g, 0, none⟩ : Addr).add i = ⟨g, i, none⟩ := by unfold Addr.add; split <;> simp_all
    rwa [hadd] at this
theorem info9x : (Tryd.prog.info? 9).map (fun i => (i.zero, i.size, i.bytes)) = some (some (.string ⟨#[]⟩), 1, 16) := by kernel_rfl
theorem info9y : ∃ i, Tryd.prog.info? 9 = some i ∧ i.zero = some (.string ⟨#[]⟩) ∧ i.size = 1 ∧ i.bytes = 16 := by
  have h := info9x
  cases e : Tryd.prog.info? 9 with
  | none => rw [e] at h; cases h
  | some i => rw [e] at h; simp at h; exact ⟨i, rfl, h.1, h.2.1, h.2.2⟩

set_option maxRecDepth 100000 in
set_option maxHeartbeats 2000000 in
theorem rsplit_any (c : UInt8) (l : List UInt8) (hl : l.length ≤ 100000) (w : World) :
    Calls Tryd.prog 47 #[.string ⟨l.toArray⟩, .int .u8 (c.toNat : Nat)] w fun e w' => (∃ v, e = .returned v ∧ OwnStrs w' w.heap.size v (splitL c l)) ∧ Below w.heap.size w w' := by
  have hsz : (⟨l.toArray⟩ : ByteArray).size = l.length := by simp [ByteArray.size]
  obtain ⟨i0, hi0, hz0, hz1, hz2⟩ := info9y
  have HI := Lib.hid hi0
  have HZ := Lib.hid hz0
  clear hi0 hz0
  go_enter Tryd.func47, Tryd.ntmps47
  go_wp2_with fail
  have hown0 : OwnStrs (w.alloc (.cells #[strV []] 9)) w.heap.size (.slice (some ⟨w.heap.size, 0, none⟩) 1 1) (splitL c (l.take 0)) := by
    have := World.ownsRow_lit (base := w.heap.size) (e := 9) (size := 1) w #[strV []] 1 (Nat.le_refl _) (by decide) rfl
    simpa [OwnStrs, splitL] using this
  go_loopw [5, 6, 8, 9, 10, 11] (fun x5 x6 x8 x9 x10 x11 wr => ∃ i : Nat, i ≤ l.length ∧ x6 = .int .i64 i ∧ OwnStrs wr w.heap.size x5 (splitL c (l.take i)) ∧ Below w.heap.size w wr) (fun x5 x6 x8 x9 x10 x11 wr => l.length - (intOf x6).toNat)
  case atStart => exact ⟨0, by omega, rfl, hown0, (Below.refl _ _).alloc (Nat.le_refl _) _⟩
  case round =>
    clear hown0
    obtain ⟨i, hi, rfl, hown, hB⟩ := hrel
    by_cases hlt : i < l.length
    · obtain ⟨x, hx⟩ : ∃ x, l[i]? = some x := ⟨_, List.getElem?_eq_getElem hlt⟩
      obtain ⟨ps, p, h1, h2⟩ := split_snoc c x (l.take i)
      have htk : l.take (i + 1) = l.take i ++ [x] := by rw [List.take_add_one, hx]; rfl
      rw [h1] at hown
      rw [← htk] at h2
      have hlen : (ps ++ [p]).length ≤ 100001 := by
        rw [← h1]; have := splitL_len c (l.take i); simp at this; omega
      obtain ⟨ao, cap, rfl⟩ := strs_form hown
      obtain ⟨g, rfl, hg1, hg2, hcells, hfrz⟩ := strs_cell hown (by simp)
      have hcp := hcells ps.length p (by simp)
      have hfp := hfrz ps.length
      have H2 := Lib.hid h2
      have HS := Lib.hid h1
      have HX := Lib.hid hx
      obtain ⟨-, hxi⟩ := str_at hx
      have x256 : (x.toNat : Int) < 256 := by have := x.toNat_lt; omega
      clear hx
      clear h1 h2 hcells hfrz
      have hi0 : (0 : Int) ≤ (i : Nat) := by omega
      by_cases hc : x = c
      · subst hc
        go_wp2_with (at_builtin; refine wpList_append_own _ rfl _ _ 71 rfl w.heap.size 9 i0 (.string ⟨#[]⟩) 1 16 Tryd.underlying71 HI.out HZ.out hz1 hz2 rfl (by decide) _ _ _ rfl (World.ownsRow.alloc hown _) ⟨wr.heap.size, 0, none⟩ 1 1 [strV []] rfl rfl (cell_one_new _ _ _) (by simp [Value.oneCell']) (by unfold maxLen; omega) (by omega) (by have := hB.size; simp; omega) ?_; intro v' w1 hown' hgrow _)
        have hB1 : Below w.heap.size w w1 := Below.grown (hB.alloc hB.size _) hgrow (by have := hB.size; simp; omega) (fun j hj => (World.ownsRow.lt hown _ hj).1)
        have hown3 : OwnStrs w1 w.heap.size v' (ps ++ [p] ++ [[]]) := by unfold OwnStrs; simpa using hown'
        have X : Aside (OwnStrs w1 w.heap.size v' (ps ++ [p] ++ [[]]) ∧ Below w.heap.size w w1) := ⟨hown3, hB1⟩
        clear hown' hgrow hown3 hB1 hown
        go_wp2_with fail
        go_roundw
        case rel => exact ⟨i + 1, by omega, by simp, by rw [H2.out, if_pos rfl]; simpa using X.out.1, X.out.2⟩
        case measure => simp [intOf]; omega
      · have hne : ¬ ((x.toNat : Nat) : Int) = (c.toNat : Nat) := fun e => hc (UInt8.toNat_inj.1 (by omega))
        go_wp2_with fail
        have hcp' : ({ heap := wr.heap, tape := wr.tape, drawn := wr.drawn + 1, os := wr.os, output := wr.output } : World).cell? ⟨g, ps.length, none⟩ = some (strV p) := hcp
        have hii : ((i : Nat) : Int) + 1 ≤ l.length := by omega
        have hip : (0 : Int) ≤ (ps.length : Nat) := by omega
        have hps : ps.length ≤ 100000 := by simp at hlen; omega
        have hw1 : IntKind.i64.wrap ((ps.length : Nat) : Int) = (ps.length : Nat) := by rw [IntKind.wrap_i64]; omega
        have hw2 : IntKind.i64.wrap (((i : Nat) : Int) + 1) = (i : Nat) + 1 := by rw [IntKind.wrap_i64]; omega
        have hpl : ((ps.length : Nat) : Int) < (ps.length : Nat) + 1 := by omega
        have hij : ((i : Nat) : Int) ≤ (i : Nat) + 1 := by omega
        have hsl : ((i : Nat) : Int) + 1 ≤ (({ data := l.toArray } : ByteArray).size : Nat) := by rw [hsz]; omega
        have hse := str_one HX.out
        have hcat : (⟨p.toArray⟩ : ByteArray) ++ (⟨#[x]⟩ : ByteArray) = ⟨(p ++ [x]).toArray⟩ := str_cat p x
        have hpL : p.length ≤ 100000 := by
          have := splitL_le c (l.take i) p (by rw [HS.out]; simp)
          simp at this; omega
        have hps1 : (⟨p.toArray⟩ : ByteArray).size = p.length := by simp [ByteArray.size]
        have hps2 : (⟨#[x]⟩ : ByteArray).size = 1 := rfl
        have hsum : (⟨p.toArray⟩ : ByteArray).size + (⟨#[x]⟩ : ByteArray).size ≤ 9223372036854775807 := by rw [hps1, hps2]; omega
        have hrun := fun W => run_string_add_sum (P := Tryd.prog) W ⟨p.toArray⟩ ⟨#[x]⟩ hsum
        rw [hcat] at hrun
        clear hcat hps1 hps2 hsum hpL
        clear hsz
        go_still_tail 13, (by kernel_rfl)
        change wpList _ _ _ _ _ wr.drew
        have hown3 : OwnStrs (wr.drew.setCell ⟨g, ps.length, none⟩ (strV (p ++ [x]))) w.heap.size (.slice (some ⟨g, 0, none⟩) (ps ++ [p ++ [x]]).length cap) (ps ++ [p ++ [x]]) := by
          have h := (World.ownsRow.stored (World.ownsRow.drew hown) ps.length (strV (p ++ [x]))).1
          have hl1 : (ps ++ [p ++ [x]]).length = (ps ++ [p]).length := by simp
          unfold OwnStrs
          rw [hl1]
          have hset : (List.map strV (ps ++ [p])).set ps.length (strV (p ++ [x])) = List.map strV (ps ++ [p ++ [x]]) := by
            simp only [List.map_append, List.map_cons, List.map_nil]
            have := List.set_append_right (s := List.map strV ps) (t := [strV p]) ps.length (strV (p ++ [x])) (by simp)
            rw [this]; simp
          rw [← hset]
          exact h
        have hB3 : Below w.heap.size w (wr.drew.setCell ⟨g, ps.length, none⟩ (strV (p ++ [x]))) := hB.drew.setCell hg1 _
        have X : Aside (OwnStrs (wr.drew.setCell ⟨g, ps.length, none⟩ (strV (p ++ [x]))) w.heap.size (.slice (some ⟨g, 0, none⟩) (ps ++ [p ++ [x]]).length cap) (ps ++ [p ++ [x]]) ∧ Below w.heap.size w (wr.drew.setCell ⟨g, ps.length, none⟩ (strV (p ++ [x])))) := ⟨hown3, hB3⟩
        clear hown3 hB3 hown hcp'
        have hcd : wr.drew.cell? ⟨g, ps.length, none⟩ = some (strV p) := hcp
        have hfd : wr.drew.frozen? ⟨g, ps.length, none⟩ = false := hfp
        clear hrun hse
        go_wp2_with fail
        go_roundw
        case rel => exact ⟨i + 1, by omega, by simp, by
          rw [H2.out, if_neg hc]
          have h := X.out.1
          simp only [List.length_append, List.length_cons, List.length_nil, Nat.zero_add] at h
          exact h, X.out.2⟩
        case measure => simp [intOf]; omega
    · have e : i = l.length := by omega
      subst e
      rw [List.take_length] at hown
      go_wp2_with fail
      go_ret
      exact ⟨⟨_, rfl, hown⟩, hB⟩
end Go.Proofs.YtgiclhkoajbgpaaDoor
