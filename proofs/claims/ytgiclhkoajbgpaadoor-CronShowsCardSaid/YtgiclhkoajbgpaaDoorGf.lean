/-
  The document's Show of a field.
-/
import Derived.Test.YtgiclhkoajbgpaaDoorGe
namespace Go.Proofs.YtgiclhkoajbgpaaDoor
open Go.RowKit

theorem joinL_snoc (c : UInt8) (x : List UInt8) : ∀ L : List (List UInt8), joinL c (L ++ [x]) = if L = [] then x else joinL c L ++ c :: x
  | [] => rfl
  | [y] => by simp [joinL]
  | y :: z :: t => by
    have ih := joinL_snoc c x (z :: t)
    rw [if_neg (by simp)] at ih ⊢
    rw [List.cons_append, List.cons_append, joinL, ← List.cons_append, ih, joinL]
    simp
theorem cat_run (a b : List UInt8) (h : a.length + b.length ≤ 100000) (W : World) : (Op.stringOp .add ⟨a.toArray⟩ ⟨b.toArray⟩).run Tryd.prog W = .ok (.string ⟨(a ++ b).toArray⟩) W := by
  have e : (⟨a.toArray⟩ : ByteArray) ++ (⟨b.toArray⟩ : ByteArray) = ⟨(a ++ b).toArray⟩ := by apply ByteArray.ext; simp
  rw [← e]
  exact run_string_add_sum W _ _ (by simp [ByteArray.size]; omega)
/-- a field's numbers -/
def hasP (h : Nat → Bool) (j : Nat) : Bool := decide (j < 64) && h j
theorem hasP_out (h : Nat → Bool) : ∀ j, 64 ≤ j → hasP h j = false := fun j hj => by simp [hasP]; omega
/-- the document's Show -/
def rshowT (h : Nat → Bool) : List UInt8 := fieldT (runsA (hasP h) 0) (h 64)

set_option maxRecDepth 100000 in
set_option maxHeartbeats 1000000 in
theorem rshow_star (h : Nat → Bool) (ha : h 64 = true) (w : World) : Calls Tryd.prog 36 #[.agg (cells65 h)] w fun e w' => e = .returned (.string ⟨(rshowT h).toArray⟩) ∧ Below w.heap.size w w' := by
  have c64 := fld65 (World.alloc_heap_new w (.cells (cells65 h) 46)) 64 (by omega)
  rw [ha] at c64
  have e : rshowT h = [42] := by simp [rshowT, fieldT, ha]
  have HT := Lib.hid e
  clear e
  go_enter Tryd.func36, Tryd.ntmps36
  go_wp2_with fail
  go_ret
  exact ⟨by rw [HT.out]; rfl, (Below.refl _ _).alloc (Nat.le_refl _) _⟩
set_option maxRecDepth 100000 in
set_option maxHeartbeats 2000000 in
theorem rshow_runs (h : Nat → Bool) (ha : h 64 = false) (w : World) : Calls Tryd.prog 36 #[.agg (cells65 h)] w fun e w' => e = .returned (.string ⟨(rshowT h).toArray⟩) ∧ Below w.heap.size w w' := by
  have hF0 := World.alloc_heap_new w (.cells (cells65 h) 46)
  have c64 := fld65 hF0 64 (by omega)
  rw [ha] at c64
  have e : rshowT h = joinL 44 ((runsA (hasP h) 0).map runT) := by simp [rshowT, fieldT, ha]
  have HT := Lib.hid e
  have hp := hasP_out h
  have HP := Lib.hid hp
  clear e hp
  go_enter Tryd.func36, Tryd.ntmps36
  go_wp2_with fail
  go_loopw [3, 4, 5, 8, 9] (fun x3 x4 x5 x8 x9 wr => ∃ (n : Nat) (R : List (Nat × Nat)), n ≤ 64 ∧ x4 = .int .i64 n ∧ x3 = .string ⟨(joinL 44 (R.map runT)).toArray⟩ ∧ runsA (hasP h) 0 = R ++ runsA (hasP h) n ∧ R.length ≤ n ∧ Below (w.heap.size + 1) (w.alloc (.cells (cells65 h) 46)) wr)
    (fun x3 x4 x5 x8 x9 wr => 64 - (intOf x4).toNat)
  case atStart => exact ⟨0, [], by omega, rfl, rfl, rfl, by simp, Below.refl _ _⟩
  case round =>
    obtain ⟨n, R, hn, rfl, rfl, hR, hRl, hb⟩ := hrel
    have hB : Below w.heap.size w wr := ((Below.refl _ _).alloc (Nat.le_refl _) _).trans (hb.mono (by omega))
    have hF := (hb.block w.heap.size (by omega)).trans hF0
    by_cases hlt : n < 64
    · have cn := fld65 hF n (by omega)
      have hni : ((n : Nat) : Int) < 64 := by omega
      have hn0 : (0 : Int) ≤ (n : Nat) := by omega
      cases hh : h n
      · have hpn : hasP h n = false := by simp [hasP, hh]
        have hR' := hR.trans (by rw [runsA_no HP.out hlt hpn])
        have HR := Lib.hid hR'
        rw [hh] at cn
        clear hR hR' hpn
        go_wp2_with fail
        go_roundw
        case rel => exact ⟨n + 1, R, by omega, by simp, rfl, HR.out, by omega, hb⟩
        case measure => simp [intOf]; omega
      · have hpn : hasP h n = true := by simp [hasP, hh, hlt]
        obtain ⟨e1, e2, e3, e4⟩ := ext_spec (hasP h) HP.out 64 n hpn (by omega)
        have hRR : runsA (hasP h) 0 = (R ++ [(n, ext (hasP h) 64 n)]) ++ runsA (hasP h) (ext (hasP h) 64 n + 1) := by rw [hR, runsA_yes HP.out hlt hpn]; simp
        have hJ : joinL 44 ((R ++ [(n, ext (hasP h) 64 n)]).map runT) = if R = [] then runT (n, ext (hasP h) 64 n) else joinL 44 (R.map runT) ++ 44 :: runT (n, ext (hasP h) 64 n) := by
          rw [List.map_append, List.map_cons, List.map_nil, joinL_snoc]; simp
        have hRne : R ≠ [] → joinL 44 (R.map runT) ≠ [] := fun hne e => by
          cases hq : R with
          | nil => exact hne hq
          | cons p t =>
            have h1 := (runsA_spec HP.out 64 0 (by omega)).1 p (by rw [hR, hq]; simp)
            obtain ⟨x, u, hx, -⟩ := runT_ne p (by omega)
            rw [hq] at e
            cases t with
            | nil => simp [joinL, hx] at e
            | cons p2 t2 => simp [joinL, hx] at e
        have hlenJ : (joinL 44 (R.map runT)).length ≤ 64 * 6 := by
          have := joinL_len 44 5 (R.map runT) (fun x hx => by
            obtain ⟨p, hp, rfl⟩ := List.mem_map.1 hx
            have h1 := (runsA_spec HP.out 64 0 (by omega)).1 p (by rw [hR]; simp [hp])
            obtain ⟨⟨-, l1⟩, -⟩ := numT_good p.1 (by omega)
            obtain ⟨⟨-, l2⟩, -⟩ := numT_good p.2 (by omega)
            unfold runT
            rw [List.length_append]
            split <;> simp <;> omega)
          rw [List.length_map] at this
          omega
        have hR0 : R = [] → joinL 44 (R.map runT) = [] := fun e => by rw [e]; rfl
        generalize ext (hasP h) 64 n = eL at *
        generalize joinL 44 (R.map runT) = sJ at *
        have HJ := Lib.hid hJ
        have HRR := Lib.hid hRR
        have HE2 := Lib.hid e2
        have HNE := Lib.hid hRne
        have HR0 := Lib.hid hR0
        rw [hh] at cn
        obtain ⟨⟨-, lk⟩, -⟩ := numT_good n (by omega)
        obtain ⟨⟨-, ll⟩, -⟩ := numT_good eL (by omega)
        have hsz : w.heap.size < wr.heap.size := (Array.getElem?_eq_some_iff.1 hF).1
        clear hJ hRR e2 hRne hR hpn hR0
        obtain ⟨wo, hwo⟩ : ∃ wo : World, wo = wr := ⟨_, rfl⟩
        go_wp2_with fail
        go_loopw [5, 18, 19, 20, 21, 22, 23, 24, 25, 26, 27] (fun x5 x18 x19 x20 x21 x22 x23 x24 x25 x26 x27 wi => ∃ j : Nat, n ≤ j ∧ j ≤ eL ∧ x5 = .int .i64 j ∧ wo = wi) (fun x5 x18 x19 x20 x21 x22 x23 x24 x25 x26 x27 wi => 64 - (intOf x5).toNat)
        case atStart => exact ⟨n, by omega, e1, rfl, hwo⟩
        case round =>
          rw [← hwo] at hb hB hF cn hsz
          clear hwo
          obtain ⟨j, hj0, hj1, rfl, rfl⟩ := hrel
          have hji : (0 : Int) ≤ (j : Nat) := by omega
          have hjw : IntKind.i64.wrap (((j : Nat) : Int) + 1) = (j : Nat) + 1 := by rw [IntKind.wrap_i64]; omega
          by_cases hje : j < eL
          · have hj64 : ((j : Nat) : Int) + 1 < 64 := by omega
            have hj0i : (0 : Int) ≤ ((j : Nat) : Int) + 1 := by omega
            have hhj : h (j + 1) = true := by
              have := HE2.out (j + 1) (by omega) (by omega)
              simp only [hasP, Bool.and_eq_true] at this; exact this.2
            have cj := fld65 hF (j + 1) (by omega)
            rw [hhj] at cj
            go_wp2_with fail
            go_roundw
            case rel => exact ⟨j + 1, by omega, by omega, by simp, trivial⟩
            case measure => simp [intOf]; omega
          · have hje2 : j = eL := by omega
            subst hje2
            have hc2 := cat_run [45] (numT j) (by simp; omega)
            simp only [List.cons_append, List.nil_append] at hc2
            have hRd : R = [] ∨ R ≠ [] := Classical.em _
            by_cases hq64 : j + 1 < 64
            · have hq64i : ((j : Nat) : Int) + 1 < 64 := by omega
              have hj0i : (0 : Int) ≤ ((j : Nat) : Int) + 1 := by omega
              have hhj : h (j + 1) = false := by
                have := e3
                simp only [hasP, decide_eq_true hq64, Bool.true_and] at this; exact this
              have cj := fld65 hF (j + 1) (by omega)
              rw [hhj] at cj
              clear e3
              rcases hRd with hRe | hRe
              · have hs0 := HR0.out hRe
                subst hs0
                by_cases hnj : n < j
                · have hnji : ((n : Nat) : Int) < (j : Nat) := by omega
                  have hc1 := cat_run [] (numT n) (by simp; omega)
                  simp only [List.nil_append] at hc1
                  have hc3 := cat_run (numT n) (45 :: numT j) (by simp; omega)
                  have hfin : joinL 44 ((R ++ [(n, j)]).map runT) = numT n ++ 45 :: numT j := by rw [HJ.out, if_pos hRe]; simp [runT, hnj]
                  have HFI := Lib.hid hfin
                  clear hfin hRe
                  go_wp2_with (go_at_call 60; refine (digits_any _ (by omega) (by omega) _).mono ?_; rintro e Wd ⟨rfl, hbd⟩; simp only [Int.toNat_natCast]; have hb := hb.trans (hbd.mono hsz); have hsz := Nat.lt_of_lt_of_le hsz hbd.size)
                  go_roundw
                  case rel => exact ⟨j + 1, R ++ [(n, j)], by omega, by simp, by rw [HFI.out], HRR.out, by simp; omega, hb⟩
                  case measure => simp [intOf]; omega
                · have hnji : ¬ ((n : Nat) : Int) < (j : Nat) := by omega
                  have hc1 := cat_run [] (numT n) (by simp; omega)
                  simp only [List.nil_append] at hc1
                  have hfin : joinL 44 ((R ++ [(n, j)]).map runT) = numT n := by rw [HJ.out, if_pos hRe]; simp [runT, hnj]
                  have HFI := Lib.hid hfin
                  clear hfin hRe
                  go_wp2_with (go_at_call 60; refine (digits_any _ (by omega) (by omega) _).mono ?_; rintro e Wd ⟨rfl, hbd⟩; simp only [Int.toNat_natCast]; have hb := hb.trans (hbd.mono hsz); have hsz := Nat.lt_of_lt_of_le hsz hbd.size)
                  go_roundw
                  case rel => exact ⟨j + 1, R ++ [(n, j)], by omega, by simp, by rw [HFI.out], HRR.out, by simp; omega, hb⟩
                  case measure => simp [intOf]; omega
              · have hsne : (sJ == []) = false := by have := HNE.out hRe; simpa using this
                by_cases hnj : n < j
                · have hnji : ((n : Nat) : Int) < (j : Nat) := by omega
                  have hc0 := cat_run sJ [44] (by simp; omega)
                  have hc1 := cat_run (sJ ++ [44]) (numT n) (by simp; omega)
                  rw [show sJ ++ [44] ++ numT n = sJ ++ 44 :: numT n by simp] at hc1
                  have hc3 := cat_run (sJ ++ 44 :: numT n) (45 :: numT j) (by simp; omega)
                  rw [show sJ ++ 44 :: numT n ++ 45 :: numT j = sJ ++ 44 :: (numT n ++ 45 :: numT j) by simp] at hc3
                  have hfin : joinL 44 ((R ++ [(n, j)]).map runT) = sJ ++ 44 :: (numT n ++ 45 :: numT j) := by rw [HJ.out, if_neg hRe]; simp [runT, hnj]
                  have HFI := Lib.hid hfin
                  clear hfin hRe
                  go_wp2_with (go_at_call 60; refine (digits_any _ (by omega) (by omega) _).mono ?_; rintro e Wd ⟨rfl, hbd⟩; simp only [Int.toNat_natCast]; have hb := hb.trans (hbd.mono hsz); have hsz := Nat.lt_of_lt_of_le hsz hbd.size)
                  go_roundw
                  case rel => exact ⟨j + 1, R ++ [(n, j)], by omega, by simp, by rw [HFI.out], HRR.out, by simp; omega, hb⟩
                  case measure => simp [intOf]; omega
                · have hnji : ¬ ((n : Nat) : Int) < (j : Nat) := by omega
                  have hc0 := cat_run sJ [44] (by simp; omega)
                  have hc1 := cat_run (sJ ++ [44]) (numT n) (by simp; omega)
                  rw [show sJ ++ [44] ++ numT n = sJ ++ 44 :: numT n by simp] at hc1
                  have hfin : joinL 44 ((R ++ [(n, j)]).map runT) = sJ ++ 44 :: numT n := by rw [HJ.out, if_neg hRe]; simp [runT, hnj]
                  have HFI := Lib.hid hfin
                  clear hfin hRe
                  go_wp2_with (go_at_call 60; refine (digits_any _ (by omega) (by omega) _).mono ?_; rintro e Wd ⟨rfl, hbd⟩; simp only [Int.toNat_natCast]; have hb := hb.trans (hbd.mono hsz); have hsz := Nat.lt_of_lt_of_le hsz hbd.size)
                  go_roundw
                  case rel => exact ⟨j + 1, R ++ [(n, j)], by omega, by simp, by rw [HFI.out], HRR.out, by simp; omega, hb⟩
                  case measure => simp [intOf]; omega
            · have hq64i : ¬ ((j : Nat) : Int) + 1 < 64 := by omega
              clear e3
              rcases hRd with hRe | hRe
              · have hs0 := HR0.out hRe
                subst hs0
                by_cases hnj : n < j
                · have hnji : ((n : Nat) : Int) < (j : Nat) := by omega
                  have hc1 := cat_run [] (numT n) (by simp; omega)
                  simp only [List.nil_append] at hc1
                  have hc3 := cat_run (numT n) (45 :: numT j) (by simp; omega)
                  have hfin : joinL 44 ((R ++ [(n, j)]).map runT) = numT n ++ 45 :: numT j := by rw [HJ.out, if_pos hRe]; simp [runT, hnj]
                  have HFI := Lib.hid hfin
                  clear hfin hRe
                  go_wp2_with (go_at_call 60; refine (digits_any _ (by omega) (by omega) _).mono ?_; rintro e Wd ⟨rfl, hbd⟩; simp only [Int.toNat_natCast]; have hb := hb.trans (hbd.mono hsz); have hsz := Nat.lt_of_lt_of_le hsz hbd.size)
                  go_roundw
                  case rel => exact ⟨j + 1, R ++ [(n, j)], by omega, by simp, by rw [HFI.out], HRR.out, by simp; omega, hb⟩
                  case measure => simp [intOf]; omega
                · have hnji : ¬ ((n : Nat) : Int) < (j : Nat) := by omega
                  have hc1 := cat_run [] (numT n) (by simp; omega)
                  simp only [List.nil_append] at hc1
                  have hfin : joinL 44 ((R ++ [(n, j)]).map runT) = numT n := by rw [HJ.out, if_pos hRe]; simp [runT, hnj]
                  have HFI := Lib.hid hfin
                  clear hfin hRe
                  go_wp2_with (go_at_call 60; refine (digits_any _ (by omega) (by omega) _).mono ?_; rintro e Wd ⟨rfl, hbd⟩; simp only [Int.toNat_natCast]; have hb := hb.trans (hbd.mono hsz); have hsz := Nat.lt_of_lt_of_le hsz hbd.size)
                  go_roundw
                  case rel => exact ⟨j + 1, R ++ [(n, j)], by omega, by simp, by rw [HFI.out], HRR.out, by simp; omega, hb⟩
                  case measure => simp [intOf]; omega
              · have hsne : (sJ == []) = false := by have := HNE.out hRe; simpa using this
                by_cases hnj : n < j
                · have hnji : ((n : Nat) : Int) < (j : Nat) := by omega
                  have hc0 := cat_run sJ [44] (by simp; omega)
                  have hc1 := cat_run (sJ ++ [44]) (numT n) (by simp; omega)
                  rw [show sJ ++ [44] ++ numT n = sJ ++ 44 :: numT n by simp] at hc1
                  have hc3 := cat_run (sJ ++ 44 :: numT n) (45 :: numT j) (by simp; omega)
                  rw [show sJ ++ 44 :: numT n ++ 45 :: numT j = sJ ++ 44 :: (numT n ++ 45 :: numT j) by simp] at hc3
                  have hfin : joinL 44 ((R ++ [(n, j)]).map runT) = sJ ++ 44 :: (numT n ++ 45 :: numT j) := by rw [HJ.out, if_neg hRe]; simp [runT, hnj]
                  have HFI := Lib.hid hfin
                  clear hfin hRe
                  go_wp2_with (go_at_call 60; refine (digits_any _ (by omega) (by omega) _).mono ?_; rintro e Wd ⟨rfl, hbd⟩; simp only [Int.toNat_natCast]; have hb := hb.trans (hbd.mono hsz); have hsz := Nat.lt_of_lt_of_le hsz hbd.size)
                  go_roundw
                  case rel => exact ⟨j + 1, R ++ [(n, j)], by omega, by simp, by rw [HFI.out], HRR.out, by simp; omega, hb⟩
                  case measure => simp [intOf]; omega
                · have hnji : ¬ ((n : Nat) : Int) < (j : Nat) := by omega
                  have hc0 := cat_run sJ [44] (by simp; omega)
                  have hc1 := cat_run (sJ ++ [44]) (numT n) (by simp; omega)
                  rw [show sJ ++ [44] ++ numT n = sJ ++ 44 :: numT n by simp] at hc1
                  have hfin : joinL 44 ((R ++ [(n, j)]).map runT) = sJ ++ 44 :: numT n := by rw [HJ.out, if_neg hRe]; simp [runT, hnj]
                  have HFI := Lib.hid hfin
                  clear hfin hRe
                  go_wp2_with (go_at_call 60; refine (digits_any _ (by omega) (by omega) _).mono ?_; rintro e Wd ⟨rfl, hbd⟩; simp only [Int.toNat_natCast]; have hb := hb.trans (hbd.mono hsz); have hsz := Nat.lt_of_lt_of_le hsz hbd.size)
                  go_roundw
                  case rel => exact ⟨j + 1, R ++ [(n, j)], by omega, by simp, by rw [HFI.out], HRR.out, by simp; omega, hb⟩
                  case measure => simp [intOf]; omega
    · have e : n = 64 := by omega
      subst e
      rw [runsA_end (Nat.le_refl _), List.append_nil] at hR
      have HR := Lib.hid hR
      clear hR
      go_wp2_with fail
      go_ret
      exact ⟨by rw [HT.out, HR.out]; rfl, hB⟩
end Go.Proofs.YtgiclhkoajbgpaaDoor
