/-
  The document's Parse.
-/
import Derived.Test.YtgiclhkoajbgpaaDoorFd
namespace Go.Proofs.YtgiclhkoajbgpaaDoor
open Go.RowKit

theorem res25 {tmps : Array Value} {W : World} {b : Nat} {g : Nat → Bool} {c : Value} (hp : tmps.getD 2 undef = .pointer (some ⟨b, 0, none⟩)) (hc : tmps.getD 3 undef = c) (h : W.heap[b]? = some (.cells (cellsF g) 47 (0, 0))) :
    (results Tryd.f25 tmps).run Tryd.prog W = .ok (.tuple #[refV g, c]) W := by
  rw [results_cell_tmp rfl, hp, hc]
  simp [asAddr, Result.andThen, run_loadVar_row W b 47 47 (cellsF g) (0, 0) _ h under47 rfl (by rw [cellsF_size]; exact size47)]
/-- the parts that are not empty -/
def partsL (L : List (List UInt8)) : List (List UInt8) := L.filter (fun x => decide (x ≠ []))
theorem partsL_ne (L : List (List UInt8)) (x : List UInt8) (h : x ≠ []) : partsL (L ++ [x]) = partsL L ++ [x] := by simp [partsL, h]
theorem partsL_nil (L : List (List UInt8)) : partsL (L ++ [[]]) = partsL L := by simp [partsL]
theorem partsL_le (L : List (List UInt8)) : (partsL L).length ≤ L.length := List.length_filter_le _ _
theorem orF_or (g : Nat → Bool) (f a b : Nat) : orF (orF g f a) f b = orF g f (a ||| b) := by
  funext k
  simp only [orF, Nat.testBit_or, Bool.and_or_distrib_left, Bool.or_assoc]
/-- the result's block and the block of none, as they were made -/
structure PE (w W : World) : Prop where
  res : W.heap[w.heap.size]? = some (.cells (cellsF fun _ => false) 47 (0, 0))
  non : W.heap[w.heap.size + 1 + 1]? = some (.cells (cellsF fun _ => false) 47 (0, 0))
  bel : Below w.heap.size w W
theorem PE.step {w W W' : World} (h : PE w W) (hb : Below W.heap.size W W') : PE w W' :=
  ⟨(hb.block _ (Array.getElem?_eq_some_iff.1 h.res).1).trans h.res, (hb.block _ (Array.getElem?_eq_some_iff.1 h.non).1).trans h.non, h.bel.trans (hb.mono h.bel.size)⟩
theorem PE.but {w W W' : World} (h : PE w W) (hb : SameBut [w.heap.size + 1] W.heap.size W W') : PE w W' :=
  ⟨(hb.block _ (Array.getElem?_eq_some_iff.1 h.res).1 (by simp)).trans h.res, (hb.block _ (Array.getElem?_eq_some_iff.1 h.non).1 (by simp)).trans h.non, h.bel.trans (SameBut.below hb h.bel.size (by simp))⟩
theorem OwnStrs.but {W W' : World} {base C : Nat} {v : Value} {xs : List (List UInt8)} (h : OwnStrs W base v xs) (hb : SameBut [C] W.heap.size W W') (hC : C < base) : OwnStrs W' base v xs :=
  World.ownsRow.kept h (row := some C) ⟨hb.os, hb.tape, hb.output, hb.size, fun k hk hne => hb.block k hk (by simp; exact fun e => hne (by rw [e]))⟩ (by
    cases hq : v.ownBlock with
    | none => exact .inl rfl
    | some k => exact .inr (fun e => by
        have := (World.ownsRow.lt h k hq).1
        injection e with e; omega))
theorem wordsOk_ref (s : List UInt8) : wordsOk s = true ↔ ((words s).length = 5 ∧ (splitL 32 s).head? ≠ some [] ∧ (splitL 32 s).getLast? ≠ some []) := by
  by_cases hs : s = []
  · subst hs; simp [wordsOk, words, splitL]
  · have h1 := split_head 32 s
    have h2 := split_last 32 s
    have p1 := prefix_head 32 s
    have p2 := suffix_last 32 s
    simp only [hs, false_or] at h1 h2
    simp only [wordsOk, Bool.and_eq_true, decide_eq_true_eq, Bool.not_eq_true', ne_eq, h1, h2]
    rw [← p1, ← p2]
    simp [and_assoc]
theorem refG_bad {s : List UInt8} (h : parseE s ≠ 0) : cellsF (refG (parseS s) (parseA s)) = cellsF fun _ => false :=
  cellsF_congr fun k _ => by simp [refG, parseS, parseA, h]
/-- what the document's Parse tells -/
def PRet (s : List UInt8) (w : World) (e : Ending) (W : World) : Prop := e = .returned (.tuple #[refV (refG (parseS s) (parseA s)), .int .i64 (parseE s)]) ∧ Below w.heap.size w W
theorem pret_bad {s : List UInt8} {w W : World} {c : Int} (hc : c ≠ 0) (h : parseE s = c) (hb : Below w.heap.size w W) : PRet s w (.returned (.tuple #[refV fun _ => false, .int .i64 c])) W :=
  ⟨by rw [h, refV, refV, refG_bad (by rw [h]; exact hc)], hb⟩
theorem below_row {w W : World} {cs : Array Value} (h : Below w.heap.size w W) : Below w.heap.size w (W.setRow w.heap.size cs) := h.trans (below_setRow W w.heap.size cs (Nat.le_refl _))

set_option maxRecDepth 100000 in
set_option maxHeartbeats 8000000 in
theorem rparse_any (s : List UInt8) (hs : s.length ≤ 100000) (w : World) :
    Calls Tryd.prog 25 #[.string ⟨s.toArray⟩] w (PRet s w) := by
  have hz := zero47
  obtain ⟨i0, hi0, hz0, hz1, hz2⟩ := info9y
  have HI := Lib.hid hi0
  have HZ := Lib.hid hz0
  clear hi0 hz0
  go_enter Tryd.func25, Tryd.ntmps25
  go_wp2_with fail
  have hE0 : PE w (((w.alloc (.cells (cellsF fun _ => false) 47)).alloc (.cells (cellsF fun _ => false) 47)).alloc (.cells (cellsF fun _ => false) 47)) := by
    refine ⟨heap_keep (heap_keep (World.alloc_heap_new w _) _) _, ?_, (((Below.refl _ _).alloc (Nat.le_refl _) _).alloc (by simp) _).alloc (by simp; omega) _⟩
    have := World.alloc_heap_new ((w.alloc (.cells (cellsF fun _ => false) 47)).alloc (.cells (cellsF fun _ => false) 47)) (.cells (cellsF fun _ => false) 47)
    simpa using this
  have hC0 : (((w.alloc (.cells (cellsF fun _ => false) 47)).alloc (.cells (cellsF fun _ => false) 47)).alloc (.cells (cellsF fun _ => false) 47)).heap[w.heap.size + 1]? = some (.cells (cellsF fun _ => false) 47 (0, 0)) := by
    have := World.alloc_heap_new (w.alloc (.cells (cellsF fun _ => false) 47)) (.cells (cellsF fun _ => false) 47)
    rw [World.size_alloc] at this
    exact heap_keep this _
  have hS0 : w.heap.size + 3 = (((w.alloc (.cells (cellsF fun _ => false) 47)).alloc (.cells (cellsF fun _ => false) 47)).alloc (.cells (cellsF fun _ => false) 47)).heap.size := by simp
  generalize ((w.alloc (.cells (cellsF fun _ => false) 47)).alloc (.cells (cellsF fun _ => false) 47)).alloc (.cells (cellsF fun _ => false) 47) = W0 at *
  refine (rsplit_any 32 s hs W0).mono ?_
  rintro e W1 ⟨⟨v6, rfl, own6⟩, hb1⟩
  rw [← hS0] at own6
  have hE1 := hE0.step hb1
  have hC1 := (hb1.block _ (by omega)).trans hC0
  have hs1 := hb1.size
  rw [← hS0] at hs1
  clear hE0 hC0 hb1
  have hLl := splitL_len 32 s
  have hLp := splitL_le 32 s
  have hwd : words s = partsL (splitL 32 s) := rfl
  have hwo := wordsOk_ref s
  generalize hL : splitL 32 s = L at *
  obtain ⟨a6, c6, rfl⟩ := strs_form own6
  have HWD := Lib.hid hwd
  have HWO := Lib.hid hwo
  have HLP := Lib.hid hLp
  have h20 : wordsOk s = false → parseE s = 20 := fun h => by simp [parseE, h]
  have HE20 := Lib.hid h20
  clear hwd hwo hLp h20 hL hS0
  go_wp2_with fail
  go_loopw [7, 8, 16, 17, 18, 19] (fun x7 x8 x16 x17 x18 x19 wr => ∃ i : Nat, i ≤ L.length ∧ x8 = .int .i64 i ∧ OwnStrs wr W1.heap.size x7 (partsL (L.take i)) ∧ Below W1.heap.size W1 wr ∧
      (0 < i → L.head? ≠ some []) ∧ (i = L.length → L.getLast? ≠ some [] ∨ i = 0)) (fun x7 x8 x16 x17 x18 x19 wr => L.length - (intOf x8).toNat)
  case atStart => exact ⟨0, by omega, rfl, World.ownsRow_nil _ _ _ _, Below.refl _ _, fun h => by omega, fun _ => .inr rfl⟩
  case round =>
    obtain ⟨i, hi, rfl, own7, hb, hh, hlst⟩ := hrel
    have HH := Lib.hid hh
    have HLS := Lib.hid hlst
    clear hh hlst
    have hE := hE1.step hb
    by_cases hlt : i < L.length
    · obtain ⟨x, hx⟩ : ∃ x, L[i]? = some x := ⟨_, List.getElem?_eq_getElem hlt⟩
      have own6r := own6.below hb
      obtain ⟨g6, rfl, hg1, hg2, hcells, hfrz⟩ := strs_cell own6r (by omega)
      have hc6 := hcells i x hx
      have hi0 : (0 : Int) ≤ (i : Nat) := by omega
      have hil : ((i : Nat) : Int) < (L.length : Nat) := by omega
      have hi9 : i ≤ 100000 := by omega
      have htk : L.take (i + 1) = L.take i ++ [x] := by rw [List.take_add_one, hx]; rfl
      have hlen7 : (partsL (L.take i)).length ≤ 100001 := Nat.le_trans (partsL_le _) (by simp; omega)
      obtain ⟨a7, c7, rfl⟩ := strs_form own7
      have HT := Lib.hid htk
      have HX := Lib.hid hx
      clear htk hx hcells hfrz own6r
      cases x with
      | cons y u =>
        have hne : ¬ (⟨(y :: u).toArray⟩ : ByteArray) = ⟨#[]⟩ := fun e => by
          have := congrArg ByteArray.size e; simp [ByteArray.size] at this
        go_wp2_with (at_builtin; refine wpList_append_own _ rfl _ _ 71 rfl W1.heap.size 9 i0 (.string ⟨#[]⟩) 1 16 Tryd.underlying71 HI.out HZ.out hz1 hz2 rfl (by decide) _ _ _ rfl (World.ownsRow.alloc own7 _) ⟨wr.heap.size, 0, none⟩ 1 1 [strV (y :: u)] rfl rfl (cell_one_new _ _ _) (by simp [Value.oneCell']) (by unfold maxLen; omega) (by omega) (by have := hb.size; simp; omega) ?_; intro v' w1 hown' hgrow _)
        have hB1 : Below W1.heap.size W1 w1 := Below.grown (hb.alloc hb.size _) hgrow (by have := hb.size; simp; omega) (fun j hj => (World.ownsRow.lt own7 _ hj).1)
        have own7' : OwnStrs w1 W1.heap.size v' (partsL (L.take (i + 1))) := by
          rw [HT.out, partsL_ne _ _ (by simp)]; unfold OwnStrs; simpa using hown'
        go_roundw
        case rel =>
          refine ⟨i + 1, by omega, by simp, own7', hB1, fun _ => ?_, fun e => .inl ?_⟩
          · by_cases e : i = 0
            · subst e
              rw [List.head?_eq_getElem?, HX.out]; simp
            · exact HH.out (by omega)
          · rw [List.getLast?_eq_getElem?, show L.length - 1 = i by omega, HX.out]; simp
        case measure => simp [intOf]; omega
      | nil =>
        by_cases c0 : i = 0
        · have hw : wordsOk s = false := by
            cases h : wordsOk s
            · rfl
            · have := (HWO.out.1 h).2.1
              rw [List.head?_eq_getElem?, ← c0, HX.out] at this
              exact absurd rfl this
          have H20 := Lib.hid (HE20.out hw)
          subst c0
          clear own7
          have hst := run_cells47 hE.res (fun _ => false)
          go_wp2_with fail
          refine wp_load47 _ rfl _ _ rfl hE.non ?_
          go_wp2_with fail
          (try simp only [Exit.inBlock, Exit.then])
          exact bodyPost_ret_by (res25 rfl rfl (setRow_heap _ _ _ _ 47 (0, 0) hE.res)) rfl (pret_bad (by decide) H20.out (below_row hE.bel))
        · by_cases c1 : i = L.length - 1
          · have hw : wordsOk s = false := by
              cases h : wordsOk s
              · rfl
              · have := (HWO.out.1 h).2.2
                rw [List.getLast?_eq_getElem?, ← c1, HX.out] at this
                exact absurd rfl this
            have H20 := Lib.hid (HE20.out hw)
            have c1' : ((((i : Nat) : Int)) == (L.length : Nat) - 1) = true := by simp; omega
            have c0' : ((((i : Nat) : Int)) == 0) = false := by simp; omega
            have hw1 : IntKind.i64.wrap (((L.length : Nat) : Int) - 1) = (L.length : Nat) - 1 := by rw [IntKind.wrap_i64]; omega
            clear own7 c1 c0
            have hst := run_cells47 hE.res (fun _ => false)
            go_wp2_with fail
            refine wp_load47 _ rfl _ _ rfl hE.non ?_
            go_wp2_with fail
            (try simp only [Exit.inBlock, Exit.then])
            exact bodyPost_ret_by (res25 rfl rfl (setRow_heap _ _ _ _ 47 (0, 0) hE.res)) rfl (pret_bad (by decide) H20.out (below_row hE.bel))
          · have c1' : ((((i : Nat) : Int)) == (L.length : Nat) - 1) = false := by simp; omega
            have c0' : ((((i : Nat) : Int)) == 0) = false := by simp; omega
            have hw1 : IntKind.i64.wrap (((L.length : Nat) : Int) - 1) = (L.length : Nat) - 1 := by rw [IntKind.wrap_i64]; omega
            have hl1 : i + 1 < L.length := by omega
            have h0i : 0 < i := by omega
            clear c0 c1
            have own7' : OwnStrs wr W1.heap.size (.slice a7 (partsL (L.take i)).length c7) (partsL (L.take (i + 1))) := by
              rw [HT.out, partsL_nil]; exact own7
            go_wp2_with fail
            go_roundw
            case rel => exact ⟨i + 1, by omega, by simp, own7', hb, fun _ => HH.out h0i, fun e => absurd e (by omega)⟩
            case measure => simp [intOf]; omega
    · have ei : i = L.length := by omega
      subst ei
      rw [List.take_length, ← HWD.out] at own7
      obtain ⟨a7, c7, rfl⟩ := strs_form own7
      by_cases h5 : (words s).length = 5
      · have hw : wordsOk s = true := HWO.out.2 ⟨h5, HH.out (by
            have h := partsL_le L
            rw [← HWD.out, h5] at h; omega), by
            rcases HLS.out rfl with h | h
            · exact h
            · have h' := partsL_le L
              rw [← HWD.out, h5] at h'; omega⟩
        have hpe : parseE s = errOf (partErr s) 0 5 := by simp [parseE, hw]
        have HPE := Lib.hid hpe
        have hpl : ∀ q, q ∈ words s → q.length ≤ 100000 := fun q hq => by
          rw [HWD.out] at hq
          exact Nat.le_trans (HLP.out q (List.mem_filter.1 hq).1) hs
        have HPL := Lib.hid hpl
        have hC := (hb.block _ (by omega)).trans hC1
        rw [h5]
        have own7c := own7
        clear hpe hpl own7 hC1 hE1 own6 hb
        go_wp2_with fail
        have hb1' : w.heap.size + 1 < W1.heap.size := by omega
        generalize hSp : (fun i => (fieldM i ((words s).getD i [])).1) = S' at *
        generalize hAp : (fun i => (fieldM i ((words s).getD i [])).2.1) = A' at *
        have hSf : ∀ i, S' i = (fieldM i ((words s).getD i [])).1 := fun i => by rw [← hSp]
        have hAf : ∀ i, A' i = (fieldM i ((words s).getD i [])).2.1 := fun i => by rw [← hAp]
        have HSF := Lib.hid hSf
        have HAF := Lib.hid hAf
        clear hSf hAf hSp hAp
        generalize hP : words s = P at *
        have HPW := Lib.hid hP
        clear hP
        go_loopw [9, 10, 11, 12, 13, 48, 49] (fun x9 x10 x11 x12 x13 x48 x49 wl => ∃ (f : Nat) (g : Nat → Bool), f ≤ 5 ∧ x9 = .int .i64 f ∧ PE w wl ∧ wl.heap[w.heap.size + 1]? = some (.cells (cellsF g) 47 (0, 0)) ∧ OwnStrs wl W1.heap.size (.slice a7 5 c7) P ∧
            (∀ j, j < f → partErr s j = 0) ∧ ∀ k, g k = (decide (k < f * 65) && refG S' A' k)) (fun x9 x10 x11 x12 x13 x48 x49 wl => 5 - (intOf x9).toNat)
        case atStart => exact ⟨0, fun _ => false, by omega, rfl, hE, hC, by rw [← h5]; exact own7c, fun j hj => by omega, fun k => by simp⟩
        case round =>
          clear hE hC own7c
          obtain ⟨f, g, hf, rfl, hE, hC, own7, herr, hg⟩ := hrel
          have HERR := Lib.hid herr
          have HG := Lib.hid hg
          clear herr hg
          by_cases hf5 : f < 5
          · obtain ⟨q, hq⟩ : ∃ q, P[f]? = some q := ⟨_, List.getElem?_eq_getElem (by omega)⟩
            have hqm : q ∈ P := List.mem_of_getElem? hq
            have hql := HPL.out q hqm
            have own7' : OwnStrs wr W1.heap.size (.slice a7 P.length c7) P := by rw [h5]; exact own7
            obtain ⟨g7, rfl, hg1, hg2, hcells, hfrz⟩ := strs_cell own7' (by omega)
            have hc7 := hcells f q hq
            have hfi : ((f : Nat) : Int) < 5 := by omega
            have hf0 : (0 : Int) ≤ (f : Nat) := by omega
            have hgd : P.getD f [] = q := by rw [List.getD_eq_getElem?_getD, hq]; rfl
            have hpe : partErr s f = (fieldM f q).2.2 := by rw [partErr, HPW.out, hgd]
            have hS1 : S' f = (fieldM f q).1 := by rw [HSF.out, hgd]
            have hA1 : A' f = (fieldM f q).2.1 := by rw [HAF.out, hgd]
            have HPF := Lib.hid hpe
            have HS1 := Lib.hid hS1
            have HA1 := Lib.hid hA1
            clear hq hqm hcells hfrz hgd hpe hS1 hA1 own7'
            by_cases hst : q = [42]
            · subst hst
              have hv : fieldM f [42] = (fullM f, true, 0) := by simp [fieldM]
              rw [hv] at HPF HS1 HA1
              obtain ⟨ca, fa⟩ := fld_cell hC (f * 65 + 64) (by omega)
              clear hv hql
              go_wp2_with (go_at_call 48; refine (low_any f hf5 _).mono ?_; rintro e Wy ⟨rfl, hww⟩; obtain rfl := hww)
              have hE2 : PE w (wr.setCell ⟨w.heap.size + 1, f * 65 + 64, none⟩ (.bool true)) := hE.but (SameBut.set (SameBut.refl _ _ _) _ (Or.inl (by simp)) _)
              have hC2 := fld_set hC (f * 65 + 64) (by omega) true
              have own72 : OwnStrs (wr.setCell ⟨w.heap.size + 1, f * 65 + 64, none⟩ (.bool true)) W1.heap.size (.slice (some ⟨g7, 0, none⟩) 5 c7) P := OwnStrs.but (C := w.heap.size + 1) own7 (SameBut.set (SameBut.refl _ _ _) _ (Or.inl (by simp)) _) (by omega)
              clear hE hC own7 ca fa hc7
              have hlo := loM_le f
              have hhi := hiM_le f
              go_loopw [10, 62, 63, 64, 65] (fun x10 x62 x63 x64 x65 wi => ∃ (jj : Nat) (g2 : Nat → Bool), loM f ≤ jj ∧ jj ≤ hiM f + 1 ∧ x10 = .int .i64 jj ∧ PE w wi ∧ wi.heap[w.heap.size + 1]? = some (.cells (cellsF g2) 47 (0, 0)) ∧ OwnStrs wi W1.heap.size (.slice (some ⟨g7, 0, none⟩) 5 c7) P ∧
                  ∀ k, g2 k = (upd g (f * 65 + 64) true k || decide (k / 65 = f ∧ k % 65 < 64 ∧ loM f ≤ k % 65 ∧ k % 65 < jj))) (fun x10 x62 x63 x64 x65 wi => hiM f + 1 - (intOf x10).toNat)
              case atStart => exact ⟨loM f, _, by omega, by have := lo_hi f; omega, rfl, hE2, hC2, own72, fun k => by rw [decide_eq_false (by omega), Bool.or_false]⟩
              case round =>
                clear hE2 hC2 own72
                obtain ⟨jj, g2, hj0, hj1, rfl, hE, hC, own7, hg2⟩ := hrel
                have HG2 := Lib.hid hg2
                clear hg2
                have hlC : w.heap.size + 1 < wr.heap.size := (Array.getElem?_eq_some_iff.1 hC).1
                by_cases hjh : jj ≤ hiM f
                · have hjhi : ((jj : Nat) : Int) ≤ (hiM f : Nat) := by omega
                  have hj64 : ((jj : Nat) : Int) < 64 := by omega
                  have hj00 : (0 : Int) ≤ (jj : Nat) := by omega
                  go_wp2_with (go_at_call 49; refine (high_any f hf5 _).mono ?_; rintro e Wh ⟨rfl, hbh⟩; have hE := hE.step hbh; have hC := (hbh.block _ hlC).trans hC; have own7 := own7.below hbh; obtain ⟨cn, fn⟩ := fld_cell hC (f * 65 + jj) (by omega))
                  go_roundw
                  case rel =>
                    refine ⟨jj + 1, upd g2 (f * 65 + jj) true, by omega, by omega, by simp, hE.but (SameBut.set (SameBut.refl _ _ _) _ (Or.inl (by simp)) _), fld_set hC _ (by omega) _, OwnStrs.but (C := w.heap.size + 1) own7 (SameBut.set (SameBut.refl _ _ _) _ (Or.inl (by simp)) _) (by omega), fun k => ?_⟩
                    by_cases e : k = f * 65 + jj
                    · subst e
                      have e1 : (f * 65 + jj) % 65 = jj := by omega
                      have e2 : (f * 65 + jj) / 65 = f := by omega
                      rw [e1, e2, decide_eq_true (by refine ⟨rfl, by omega, hj0, by omega⟩), Bool.or_true]
                      simp [upd]
                    · rw [show upd g2 (f * 65 + jj) true k = g2 k by simp [upd, e], HG2.out k]
                      congr 1
                      apply decide_eq_decide.2
                      constructor
                      · rintro ⟨h1, h2, h3, h4⟩; exact ⟨h1, h2, h3, by omega⟩
                      · rintro ⟨h1, h2, h3, h4⟩; exact ⟨h1, h2, h3, by omega⟩
                  case measure => simp [intOf]; omega
                · have hjhi : ¬ ((jj : Nat) : Int) ≤ (hiM f : Nat) := by omega
                  go_wp2_with (go_at_call 49; refine (high_any f hf5 _).mono ?_; rintro e Wh ⟨rfl, hbh⟩; have hE := hE.step hbh; have hC := (hbh.block _ hlC).trans hC; have own7 := own7.below hbh; obtain ⟨cn, fn⟩ := fld_cell hC (f * 65 + jj) (by omega))
                  go_roundw
                  case rel =>
                    refine ⟨f + 1, g2, by omega, by simp, hE, hC, own7, fun j hj => ?_, fun k => ?_⟩
                    · by_cases e : j = f
                      · subst e; exact HPF.out
                      · exact HERR.out j (by omega)
                    · have hS' := HS1.out
                      have hA' := HA1.out
                      rw [HG2.out k, show jj = hiM f + 1 by omega]
                      by_cases ek : k = f * 65 + 64
                      · subst ek
                        rw [ref_any64, hA', decide_eq_true (show f * 65 + 64 < (f + 1) * 65 by omega)]
                        simp [upd]
                      · rw [show upd g (f * 65 + 64) true k = g k by simp [upd, ek], HG.out k]
                        by_cases ef : k / 65 = f
                        · have hk1 : k % 65 < 64 := by omega
                          have hk2 : k = f * 65 + k % 65 := by omega
                          rw [decide_eq_false (show ¬ k < f * 65 by omega), decide_eq_true (show k < (f + 1) * 65 by omega)]
                          rw [show refG S' A' k = refG S' A' (f * 65 + k % 65) by rw [← hk2], ref_at S' A' f _ hk1, hS', full_bit]
                          simp only [Bool.false_and, Bool.false_or, Bool.true_and, inF, ← Bool.decide_and]
                          apply decide_eq_decide.2
                          constructor
                          · rintro ⟨h1, h2, h3, h4⟩; exact ⟨h3, by omega⟩
                          · rintro ⟨h3, h4⟩; exact ⟨ef, hk1, h3, by omega⟩
                        · rw [decide_eq_false (show ¬ (k / 65 = f ∧ k % 65 < 64 ∧ loM f ≤ k % 65 ∧ k % 65 < hiM f + 1) from fun h => ef h.1), Bool.or_false]
                          congr 1
                          apply decide_eq_decide.2
                          omega
                  case measure => simp [intOf]; omega
            · have hv : fieldM f q = ((itemsM f (splitL 44 q) 0).1, false, (itemsM f (splitL 44 q) 0).2) := by simp [fieldM, hst]
              rw [hv] at HPF HS1 HA1
              have hneb : (q == [42]) = false := by simpa using hst
              have hsp := rsplit_any 44 q hql wr
              have hl2 := splitL_len 44 q
              have hp2 := splitL_le 44 q
              have hqs := hql
              clear hv hst
              go_wp2_with fail
              refine hsp.mono ?_
              rintro e W5 ⟨⟨v11, rfl, own11⟩, hb5⟩
              have hbase : w.heap.size + 1 < wr.heap.size := (Array.getElem?_eq_some_iff.1 hC).1
              have hE5 := hE.step hb5
              have hC5 := (hb5.block _ hbase).trans hC
              have own75 := own7.below hb5
              clear hsp hE hC own7 hb5 hc7
              generalize splitL 44 q = L2 at *
              obtain ⟨a11, c11, rfl⟩ := strs_form own11
              have HP2 := Lib.hid hp2
              clear hp2
              generalize wr.heap.size = B11 at *
              go_wp2_with fail
              go_loopw [12, 13, 78, 79, 80, 81] (fun x12 x13 x78 x79 x80 x81 wi => ∃ i : Nat, i ≤ L2.length ∧ x12 = .int .i64 i ∧ PE w wi ∧ wi.heap[w.heap.size + 1]? = some (.cells (cellsF (orF g f (accM f (L2.take i)))) 47 (0, 0)) ∧ OwnStrs wi W1.heap.size (.slice (some ⟨g7, 0, none⟩) 5 c7) P ∧
                  OwnStrs wi B11 (.slice a11 L2.length c11) L2 ∧ ∀ o ∈ L2.take i, (itemM f o).2 = 0) (fun x12 x13 x78 x79 x80 x81 wi => L2.length - (intOf x12).toNat)
              case atStart => exact ⟨0, by omega, rfl, hE5, by rw [List.take_zero, show accM f [] = 0 from rfl, orF_zero]; exact hC5, own75, own11, fun o ho => by simp at ho⟩
              case round =>
                clear hE5 hC5 own75 own11
                obtain ⟨i, hi, rfl, hE, hC, own7, own11, hall⟩ := hrel
                have HALL := Lib.hid hall
                clear hall
                by_cases hlt : i < L2.length
                · obtain ⟨o, ho⟩ : ∃ o, L2[i]? = some o := ⟨_, List.getElem?_eq_getElem hlt⟩
                  have hom : o ∈ L2 := List.mem_of_getElem? ho
                  have hol := HP2.out o hom
                  obtain ⟨g11, rfl, hg3, hg4, hcells, -⟩ := strs_cell own11 (by omega)
                  have hco := hcells i o ho
                  have hco' : ({ heap := wr.heap, tape := wr.tape, drawn := wr.drawn + 1, os := wr.os, output := wr.output } : World).cell? ⟨g11, i, none⟩ = some (strV o) := hco
                  have hi0 : (0 : Int) ≤ (i : Nat) := by omega
                  have hil : ((i : Nat) : Int) < (L2.length : Nat) := by omega
                  have hi9 : i ≤ 100000 := by omega
                  have htk : L2.take (i + 1) = L2.take i ++ [o] := by rw [List.take_add_one, ho]; rfl
                  have hparts : L2 = L2.take i ++ o :: L2.drop (i + 1) := by
                    have hd : L2.drop i = o :: L2.drop (i + 1) := by
                      obtain ⟨h1, h2⟩ := List.getElem?_eq_some_iff.1 ho
                      rw [List.drop_eq_getElem_cons h1, h2]
                    rw [← hd, List.take_append_drop]
                  have HTK := Lib.hid htk
                  have HPT := Lib.hid hparts
                  have hit := ritem_any f hf5 o (by omega) _ (w.heap.size + 1) wr.drew hC
                  have hEd : PE w wr.drew := ⟨hE.res, hE.non, hE.bel.drew⟩
                  have own7d : OwnStrs wr.drew W1.heap.size (.slice (some ⟨g7, 0, none⟩) 5 c7) P := own7
                  have own11d : OwnStrs wr.drew B11 (.slice (some ⟨g11, 0, none⟩) L2.length c11) L2 := own11
                  clear htk hparts ho hom hcells hE hC own7 own11
                  by_cases h0 : (itemM f o).2 = 0
                  · go_wp2_with fail
                    go_still_tail 7, (by kernel_rfl)
                    change wpList _ _ _ _ _ wr.drew
                    clear hco hco'
                    generalize wr.drew = Wd at *
                    go_wp2_with (go_at_call 50; refine hit.mono ?_; rintro e W8 ⟨rfl, hsb, hC8⟩)
                    have hE8 := hEd.but hsb
                    have own78 := OwnStrs.but (C := w.heap.size + 1) own7d hsb (by omega)
                    have own118 := OwnStrs.but (C := w.heap.size + 1) own11d hsb (by omega)
                    clear hsb
                    go_wp2_with fail
                    go_roundw
                    case rel => exact ⟨i + 1, by omega, by simp, hE8, by rw [HTK.out, accM_snoc, ← orF_or]; exact hC8, own78, own118, fun z hz' => by
                      rw [HTK.out] at hz'
                      rcases List.mem_append.1 hz' with h | h
                      · exact HALL.out z h
                      · rw [List.mem_singleton.1 h]; exact h0⟩
                    case measure => simp [intOf]; omega
                  · have hpe : parseE s = (itemM f o).2 := by
                      have h1 := HPF.out
                      rw [HPT.out, itemsM_bad f o _ h0 _ _ HALL.out] at h1
                      have h1' : partErr s f = (itemM f o).2 := h1
                      rw [HPE.out, errOf_at _ 5 0 f (by omega) (by omega) (fun j _ hj => HERR.out j hj) (by rw [h1']; exact h0), h1']
                    have HPx := Lib.hid hpe
                    clear hpe
                    go_wp2_with fail
                    go_still_tail 7, (by kernel_rfl)
                    change wpList _ _ _ _ _ wr.drew
                    clear hco hco'
                    generalize wr.drew = Wd at *
                    go_wp2_with (go_at_call 50; refine hit.mono ?_; rintro e W8 ⟨rfl, hsb, hC8⟩)
                    have hE := hEd.but hsb
                    clear hsb
                    have hst := run_cells47 hE.res (fun _ => false)
                    go_wp2_with fail
                    refine wp_load47 _ rfl _ _ rfl hE.non ?_
                    go_wp2_with fail
                    (try simp only [Exit.inBlock, Exit.then])
                    exact bodyPost_ret_by (res25 rfl rfl (setRow_heap _ _ _ _ 47 (0, 0) hE.res)) rfl (pret_bad h0 HPx.out (below_row hE.bel))
                · have ei : i = L2.length := by omega
                  subst ei
                  rw [List.take_length] at HALL hC
                  have hok := itemsM_ok f L2 0 HALL.out
                  rw [hok] at HPF HS1
                  go_wp2_with fail
                  go_roundw
                  case rel =>
                    refine ⟨f + 1, _, by omega, by simp, hE, hC, own7, fun j hj => ?_, fun k => ?_⟩
                    · by_cases e : j = f
                      · subst e; exact HPF.out
                      · exact HERR.out j (by omega)
                    · have hS' : S' f = accM f L2 := HS1.out
                      have hA' := HA1.out
                      rw [orF, HG.out k]
                      by_cases ef : k / 65 = f
                      · rw [decide_eq_false (show ¬ k < f * 65 by omega), decide_eq_true (show k < (f + 1) * 65 by omega), Bool.false_and, Bool.false_or, Bool.true_and]
                        by_cases ek : k % 65 = 64
                        · rw [show refG S' A' k = refG S' A' (f * 65 + 64) by rw [show k = f * 65 + 64 by omega], ref_any64, hA', decide_eq_false (show ¬ (k / 65 = f ∧ k % 65 < 64) by omega), Bool.false_and]
                        · rw [show refG S' A' k = refG S' A' (f * 65 + k % 65) by rw [show f * 65 + k % 65 = k by omega], ref_at S' A' f _ (by omega), hS', decide_eq_true (show k / 65 = f ∧ k % 65 < 64 by omega), Bool.true_and]
                      · rw [decide_eq_false (show ¬ (k / 65 = f ∧ k % 65 < 64) from fun h => ef h.1), Bool.false_and, Bool.or_false]
                        congr 1
                        apply decide_eq_decide.2
                        omega
                  case measure => simp [intOf]; omega
          · have e5 : f = 5 := by omega
            subst e5
            have hpe0 : parseE s = 0 := by rw [HPE.out]; exact errOf_none _ 5 0 (fun j _ hj => HERR.out j (by omega))
            have hfin : cellsF g = cellsF (refG (parseS s) (parseA s)) := cellsF_congr fun k hk => by
              rw [HG.out k, decide_eq_true (by omega), Bool.true_and]
              simp only [refG, parseS, parseA, hpe0, if_true, HSF.out, HAF.out, HPW.out]
            have hst := run_cells47 hE.res g
            have HF := Lib.hid hfin
            have HP0 := Lib.hid hpe0
            clear hfin hpe0
            go_wp2_with fail
            refine wp_load47 _ rfl _ _ rfl hC ?_
            go_wp2_with fail
            (try simp only [Exit.inBlock, Exit.then])
            exact bodyPost_ret_by (res25 rfl rfl (setRow_heap _ _ _ _ 47 (0, 0) hE.res)) rfl ⟨by rw [HP0.out, show refV (refG (parseS s) (parseA s)) = refV g from congrArg Value.agg HF.out.symm]; rfl, below_row hE.bel⟩
      · have hw : wordsOk s = false := by
          cases h : wordsOk s
          · rfl
          · exact absurd (HWO.out.1 h).1 h5
        have H20 := Lib.hid (HE20.out hw)
        have h5' : ¬ (((words s).length : Nat) : Int) = 5 := by omega
        clear own7 h5
        have hst := run_cells47 hE.res (fun _ => false)
        go_wp2_with fail
        refine wp_load47 _ rfl _ _ rfl hE.non ?_
        go_wp2_with fail
        (try simp only [Exit.inBlock, Exit.then])
        exact bodyPost_ret_by (res25 rfl rfl (setRow_heap _ _ _ _ 47 (0, 0) hE.res)) rfl (pret_bad (by decide) H20.out (below_row hE.bel))
end Go.Proofs.YtgiclhkoajbgpaaDoor
