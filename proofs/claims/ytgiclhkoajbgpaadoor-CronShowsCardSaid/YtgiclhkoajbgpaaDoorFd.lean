/-
  The document's item: it puts an item's numbers into a field. (Printed by gen_fd.py.)
-/
import Derived.Test.YtgiclhkoajbgpaaDoorFc
namespace Go.Proofs.YtgiclhkoajbgpaaDoor
open Go.RowKit

/-- a field's numbers joined to a row of 325 -/
def orF (g : Nat → Bool) (f s : Nat) : Nat → Bool := fun k => g k || (decide (k / 65 = f ∧ k % 65 < 64) && s.testBit (k % 65))
theorem orF_zero (g : Nat → Bool) (f : Nat) : orF g f 0 = g := by funext k; simp [orF]
def RItem (f : Nat) (l : List UInt8) (g : Nat → Bool) (C : Nat) (W : World) (e : Ending) (W' : World) : Prop :=
  e = .returned (.int .i64 (itemM f l).2) ∧ SameBut [C] W.heap.size W W' ∧ W'.heap[C]? = some (.cells (cellsF (orF g f (itemM f l).1)) 47 (0, 0))
theorem ritem_bad {f : Nat} {l : List UInt8} {g : Nat → Bool} {C : Nat} {W W' : World} {c : Int} (h : itemM f l = (0, c)) (hC : W.heap[C]? = some (.cells (cellsF g) 47 (0, 0))) (hb : Below W.heap.size W W') : RItem f l g C W (.returned (.int .i64 c)) W' :=
  ⟨by rw [h], SameBut.of_below hb (Nat.le_refl _), by rw [h, orF_zero]; exact (hb.block C (Array.getElem?_eq_some_iff.1 hC).1).trans hC⟩
theorem rn_cnt (l : List UInt8) : (rnumL l).2 ≤ l.length ∧ ((rnumL l).2 ≠ 0 → 0 ≤ (rnumL l).1 ∧ (rnumL l).1 ≤ 99) := by
  match l with
  | [] => simp [rnumL]
  | a :: t =>
    cases ca : isDig a
    · simp [rnumL, ca]
    · obtain ⟨d1, d2⟩ := dig_yes ca
      match t with
      | [] => simp [rnumL, ca, numM]; omega
      | b :: u =>
        cases cb : isDig b
        · simp [rnumL, ca, cb, numM]; omega
        · obtain ⟨d3, d4⟩ := dig_yes cb
          match u with
          | [] => simp [rnumL, ca, cb, numM]; omega
          | c :: v => cases cc : isDig c <;> simp [rnumL, ca, cb, cc, numM] <;> omega
theorem rn_some {l : List UInt8} {at_ : Nat} {v : Int} {r : List UInt8} (ha : at_ ≤ l.length) (h : rn (l.drop at_) = some (v, r)) :
    ∃ (n e : Nat), v = n ∧ n ≤ 99 ∧ rnumN l at_ = n ∧ rnumE l at_ = e ∧ at_ < e ∧ e ≤ l.length ∧ l.drop e = r := by
  unfold rn at h
  by_cases c : (rnumL (l.drop at_)).2 = 0
  · rw [if_pos c] at h; cases h
  · rw [if_neg c] at h
    injection h with h
    injection h with h1 h2
    obtain ⟨c1, c2⟩ := rn_cnt (l.drop at_)
    obtain ⟨c3, c4⟩ := c2 c
    rw [List.length_drop] at c1
    rw [h1] at c3 c4
    obtain ⟨n, rfl⟩ := Int.eq_ofNat_of_zero_le c3
    refine ⟨n, at_ + (rnumL (l.drop at_)).2, rfl, by omega, h1, by simp [rnumE, c], by omega, by omega, ?_⟩
    rw [← h2, List.drop_drop]
theorem rn_none {l : List UInt8} {at_ : Nat} (h : rn (l.drop at_) = none) : rnumE l at_ = -1 := by
  unfold rn at h
  by_cases c : (rnumL (l.drop at_)).2 = 0
  · simp [rnumE, c]
  · rw [if_neg c] at h; cases h
theorem num_int (l : List UInt8) (hl : l.length ≤ 1000000) (a : Int) (h0 : 0 ≤ a) (h1 : a ≤ l.length) (W : World) :
    Calls Tryd.prog 70 #[.string ⟨l.toArray⟩, .int .i64 a] W fun e w' => e = .returned (.tuple #[.int .i64 (rnumN l a.toNat), .int .i64 (rnumE l a.toNat)]) ∧ W = w' := by
  obtain ⟨n, rfl⟩ := Int.eq_ofNat_of_zero_le h0
  exact rnumber_any l n hl (by omega) W
/-- the byte at a place -/
theorem byte_at {l : List UInt8} {i : Nat} {x : UInt8} {t : List UInt8} (h : l.drop i = x :: t) : i < l.length ∧ l.drop (i + 1) = t ∧ ∀ hi, ((⟨l.toArray⟩ : ByteArray)[i]'hi).toNat = x.toNat := by
  have g0 : l[i]? = some x := by have := congrArg (·[0]?) h; simpa using this
  obtain ⟨h1, h2⟩ := str_at g0
  refine ⟨h1, ?_, fun hi => by rw [h2 hi]⟩
  have := congrArg (List.drop 1) h
  simpa using this
theorem drop_nil {l : List UInt8} {i : Nat} (hi : i ≤ l.length) (h : l.drop i = []) : i = l.length := by
  have := congrArg List.length h; simp at this; omega
theorem drop_ne {l : List UInt8} {i : Nat} {x : UInt8} {t : List UInt8} (h : l.drop i = x :: t) : i < l.length := (byte_at h).1
theorem ne_int {x : UInt8} {n : Nat} (_ : n < 256) (h : x ≠ UInt8.ofNat n) : ¬ ((x.toNat : Nat) : Int) = (n : Nat) := fun e => h (by
  have : x.toNat = n := by omega
  rw [← this]; simp)
theorem row_or {g g' : Nat → Bool} {f a b s : Nat} (hs : 1 ≤ s) (hb : b ≤ 63) (h : ∀ k, g' k = (g k || decide (k / 65 = f ∧ k % 65 < 64 ∧ a ≤ k % 65 ∧ k % 65 < b + 1 ∧ (k % 65 - a) % s = 0))) : cellsF g' = cellsF (orF g f (rowM a b s)) := by
  apply cellsF_congr
  intro k _
  rw [h k, orF, rowM_bit _ _ _ _ hs hb, ← Bool.decide_and]
  congr 1
  apply decide_eq_decide.2
  constructor
  · rintro ⟨h1, h2, h3, h4, h5⟩; exact ⟨⟨h1, h2⟩, h3, by omega, h5⟩
  · rintro ⟨⟨h1, h2⟩, h3, h4, h5⟩; exact ⟨h1, h2, h3, by omega, h5⟩

set_option maxRecDepth 100000 in
set_option maxHeartbeats 4000000 in
theorem ritem_none (f : Nat) (hf : f < 5) (g : Nat → Bool) (C : Nat) (W : World) (hC : W.heap[C]? = some (.cells (cellsF g) 47 (0, 0))) :
    Calls Tryd.prog 50 #[.int .i64 f, .string ⟨([] : List UInt8).toArray⟩, .pointer (some ⟨C, f * 65, none⟩)] W (RItem f [] g C W) := by
  have H20 : Hid (itemM f [] = (0, 20)) := Lib.hid (by rw [itemM_ref]; rfl)
  have hBW : Below W.heap.size W W := Below.refl _ _
  have hnum := num_int [] (by simp) 0 (by omega) (by simp)
  have z1 : rnumN [] ((0 : Int)).toNat = 0 := rfl
  have z2 : rnumE [] ((0 : Int)).toNat = -1 := rfl
  go_enter Tryd.func50, Tryd.ntmps50
  go_wp2_with (first | (go_at_call 48; refine (low_any f hf _).mono ?_; rintro e Wy ⟨rfl, hww⟩; obtain rfl := hww) | (go_at_call 49; refine (high_any f hf _).mono ?_; rintro e Wh ⟨rfl, hbh⟩; have hBW := hBW.trans (hbh.mono hBW.size)) | (go_at_call 70; refine (hnum _).mono ?_; rintro e Wn ⟨rfl, hwn⟩; obtain rfl := hwn; simp only [z1, z2]))
  go_ret
  exact ritem_bad H20.out hC hBW

set_option maxRecDepth 100000 in
set_option maxHeartbeats 4000000 in
theorem ritem_star (f : Nat) (hf : f < 5) (l : List UInt8) (hl : l.length ≤ 1000000) (g : Nat → Bool) (C : Nat) (W : World) (hC : W.heap[C]? = some (.cells (cellsF g) 47 (0, 0))) (t : List UInt8) (ht : l = 42 :: t) :
    Calls Tryd.prog 50 #[.int .i64 f, .string ⟨l.toArray⟩, .pointer (some ⟨C, f * 65, none⟩)] W (RItem f l g C W) := by
  have hsz : (⟨l.toArray⟩ : ByteArray).size = l.length := by simp [ByteArray.size]
  have hIr := itemM_ref f l
  have hlo := loM_le f
  have hhi := hiM_le f
  have hBW : Below W.heap.size W W := Below.refl _ _
  have hd0 : l.drop 0 = 42 :: t := ht
  obtain ⟨k0, hd1, x0⟩ := byte_at hd0
  rw [show (42 : UInt8).toNat = 42 from rfl] at x0
  have k0' : (0 : Int) < l.length := by omega
  rw [Nat.zero_add] at hd1
  by_cases h7 : ∃ u, t = 47 :: u
  · obtain ⟨u, rfl⟩ := h7
    obtain ⟨k1, hd2, x1⟩ := byte_at hd1
    rw [show (47 : UInt8).toNat = 47 from rfl] at x1
    have k1' : (1 : Int) < l.length := by omega
    have hT : ritemT (loM f) (hiM f) l = (rn u).bind fun p => if p.2 = [] then some ((loM f : Int), (hiM f : Int), p.1) else none := by rw [ht]; rfl
    rw [hT] at hIr
    clear hT ht hd0
    cases hr : rn u with
    | none =>
      rw [hr] at hIr
      have H20 : Hid (itemM f l = (0, 20)) := Lib.hid hIr
      have zE := rn_none (l := l) (at_ := 2) (by rw [← hr]; exact congrArg rn hd2)
      have z2 : rnumE l (2 : Int).toNat = -1 := zE
      clear hIr hd1 hd2 zE
      go_enter Tryd.func50, Tryd.ntmps50
      go_wp2_with (first | (go_at_call 48; refine (low_any f hf _).mono ?_; rintro e Wy ⟨rfl, hww⟩; obtain rfl := hww) | (go_at_call 49; refine (high_any f hf _).mono ?_; rintro e Wh ⟨rfl, hbh⟩; have hBW := hBW.trans (hbh.mono hBW.size)) | (go_at_call 70; refine (num_int l hl _ (by omega) (by omega) _).mono ?_; rintro e Wn ⟨rfl, hwn⟩; obtain rfl := hwn; simp only [z2]))
      go_ret
      exact ritem_bad H20.out hC hBW
    | some p =>
      obtain ⟨v, r⟩ := p
      rw [hr] at hIr
      obtain ⟨n, e, rfl, hn, zn, ze, he0, he1, hde⟩ := rn_some (l := l) (at_ := 2) (by omega) (by rw [← hr]; exact congrArg rn hd2)
      have z1 : rnumN l (2 : Int).toNat = n := zn
      have z2 : rnumE l (2 : Int).toNat = e := ze
      have he1' : ((e : Nat) : Int) ≤ l.length := by omega
      clear hd1 hd2 zn ze
      cases r with
      | nil =>
        have hee := drop_nil he1 hde
        rw [Option.bind_some, if_pos rfl] at hIr
        have HI := Lib.hid hIr
        clear hIr hde
        go_enter Tryd.func50, Tryd.ntmps50
        go_upto_region 22 with (first | (go_at_call 48; refine (low_any f hf _).mono ?_; rintro e Wy ⟨rfl, hww⟩; obtain rfl := hww) | (go_at_call 49; refine (high_any f hf _).mono ?_; rintro e Wh ⟨rfl, hbh⟩; have hBW := hBW.trans (hbh.mono hBW.size)) | (go_at_call 70; refine (num_int l hl _ (by omega) (by omega) _).mono ?_; rintro e Wn ⟨rfl, hwn⟩; obtain rfl := hwn; simp only [z1, z2]))
        by_cases r1 : ((loM f : Nat) : Int) < (loM f : Nat)
        · first | (exfalso; omega) | (
            have H30 : Hid (itemM f l = (0, 30)) := Lib.hid (by rw [HI.out, itemOut]; rw [if_pos (by omega)])
            go_wp2_with (first | (go_at_call 48; refine (low_any f hf _).mono ?_; rintro e Wy ⟨rfl, hww⟩; obtain rfl := hww) | (go_at_call 49; refine (high_any f hf _).mono ?_; rintro e Wh ⟨rfl, hbh⟩; have hBW := hBW.trans (hbh.mono hBW.size)))
            go_ret
            exact ritem_bad H30.out hC hBW)
        · skip
          by_cases r2 : ((hiM f : Nat) : Int) < (hiM f : Nat)
          · first | (exfalso; omega) | (
              have H30 : Hid (itemM f l = (0, 30)) := Lib.hid (by rw [HI.out, itemOut]; rw [if_pos (by omega)])
              go_wp2_with (first | (go_at_call 48; refine (low_any f hf _).mono ?_; rintro e Wy ⟨rfl, hww⟩; obtain rfl := hww) | (go_at_call 49; refine (high_any f hf _).mono ?_; rintro e Wh ⟨rfl, hbh⟩; have hBW := hBW.trans (hbh.mono hBW.size)))
              go_ret
              exact ritem_bad H30.out hC hBW)
          · skip
            by_cases r3 : ((hiM f : Nat) : Int) < (loM f : Nat)
            · first | (exfalso; omega) | (
                have H30 : Hid (itemM f l = (0, 30)) := Lib.hid (by rw [HI.out, itemOut]; rw [if_pos (by omega)])
                go_wp2_with (first | (go_at_call 48; refine (low_any f hf _).mono ?_; rintro e Wy ⟨rfl, hww⟩; obtain rfl := hww) | (go_at_call 49; refine (high_any f hf _).mono ?_; rintro e Wh ⟨rfl, hbh⟩; have hBW := hBW.trans (hbh.mono hBW.size)))
                go_ret
                exact ritem_bad H30.out hC hBW)
            · skip
              by_cases r4 : ((n : Nat) : Int) < 1
              · first | (exfalso; omega) | (
                  have H30 : Hid (itemM f l = (0, 30)) := Lib.hid (by rw [HI.out, itemOut]; rw [if_pos (by omega)])
                  go_wp2_with (first | (go_at_call 48; refine (low_any f hf _).mono ?_; rintro e Wy ⟨rfl, hww⟩; obtain rfl := hww) | (go_at_call 49; refine (high_any f hf _).mono ?_; rintro e Wh ⟨rfl, hbh⟩; have hBW := hBW.trans (hbh.mono hBW.size)))
                  go_ret
                  exact ritem_bad H30.out hC hBW)
              · skip
                by_cases r5 : (59 : Int) < (n : Nat)
                · first | (exfalso; omega) | (
                    have H30 : Hid (itemM f l = (0, 30)) := Lib.hid (by rw [HI.out, itemOut]; rw [if_pos (by omega)])
                    go_wp2_with (first | (go_at_call 48; refine (low_any f hf _).mono ?_; rintro e Wy ⟨rfl, hww⟩; obtain rfl := hww) | (go_at_call 49; refine (high_any f hf _).mono ?_; rintro e Wh ⟨rfl, hbh⟩; have hBW := hBW.trans (hbh.mono hBW.size)))
                    go_ret
                    exact ritem_bad H30.out hC hBW)
                · skip
                  have HG : Hid (itemM f l = (rowM (loM f) (hiM f) (n), 0)) := Lib.hid (by rw [HI.out, itemOut]; rw [if_neg (by omega)]; simp)
                  have hb63 : hiM f ≤ 63 := by have := hiM_le f; omega
                  go_wp2_with (first | (go_at_call 48; refine (low_any f hf _).mono ?_; rintro e Wy ⟨rfl, hww⟩; obtain rfl := hww) | (go_at_call 49; refine (high_any f hf _).mono ?_; rintro e Wh ⟨rfl, hbh⟩; have hBW := hBW.trans (hbh.mono hBW.size)))
                  have hlC : C < W.heap.size := (Array.getElem?_eq_some_iff.1 hC).1
                  have hC1 := (hBW.block C hlC).trans hC
                  have hS1 : SameBut [C] W.heap.size W _ := SameBut.of_below hBW (Nat.le_refl _)
                  go_loopw [13, 115, 116, 117] (fun x13 x115 x116 x117 wr => ∃ (jj : Nat) (g' : Nat → Bool), loM f ≤ jj ∧ jj ≤ hiM f + 1 ∧ x13 = .int .i64 jj ∧ SameBut [C] W.heap.size W wr ∧ wr.heap[C]? = some (.cells (cellsF g') 47 (0, 0)) ∧
                      ∀ k, g' k = (g k || decide (k / 65 = f ∧ k % 65 < 64 ∧ loM f ≤ k % 65 ∧ k % 65 < jj ∧ (k % 65 - loM f) % n = 0))) (fun x13 x115 x116 x117 wr => hiM f + 1 - (intOf x13).toNat)
                  case atStart => exact ⟨loM f, g, by omega, by omega, rfl, hS1, hC1, fun k => by rw [decide_eq_false (by omega), Bool.or_false]⟩
                  case round =>
                    clear hC1 hS1
                    obtain ⟨jj, g', hj0, hj1, rfl, hS, hCn, hg⟩ := hrel
                    have HQ := Lib.hid hg
                    clear hg
                    by_cases hnb : jj ≤ hiM f
                    · have hni : ((jj : Nat) : Int) ≤ (hiM f : Nat) := by omega
                      have hn64 : ((jj : Nat) : Int) < 64 := by omega
                      have hn0i : (0 : Int) ≤ (jj : Nat) := by omega
                      have hcast : ((jj : Nat) : Int) - (loM f : Nat) = ((jj - loM f : Nat) : Int) := by omega
                      by_cases hm : (jj - loM f) % n = 0
                      · have hmi : (((jj : Nat) : Int) - (loM f : Nat)) % (n : Nat) = 0 := by rw [hcast]; omega
                        obtain ⟨cn, fn⟩ := fld_cell hCn (f * 65 + jj) (by omega)
                        clear hcast
                        go_wp2_with fail
                        go_roundw
                        case rel =>
                          refine ⟨jj + 1, upd g' (f * 65 + jj) true, by omega, by omega, by simp, hS.set _ (Or.inl (by simp)) _, fld_set hCn _ (by omega) _, fun k => ?_⟩
                          simp only [upd]
                          split
                          · rename_i e; subst e
                            have e1 : (f * 65 + jj) % 65 = jj := by omega
                            have e2 : (f * 65 + jj) / 65 = f := by omega
                            rw [e1, e2, decide_eq_true (by refine ⟨rfl, by omega, hj0, by omega, hm⟩), Bool.or_true]
                          · rename_i e
                            rw [HQ.out k]
                            congr 1
                            apply decide_eq_decide.2
                            constructor
                            · rintro ⟨h1, h2, h3, h4, h5⟩; exact ⟨h1, h2, h3, by omega, h5⟩
                            · rintro ⟨h1, h2, h3, h4, h5⟩; exact ⟨h1, h2, h3, by omega, h5⟩
                        case measure => simp [intOf]; omega
                      · first | (exfalso; omega) | (
                          have hmi : ¬ (((jj : Nat) : Int) - (loM f : Nat)) % (n : Nat) = 0 := by rw [hcast]; omega
                          clear hcast
                          go_wp2_with fail
                          go_roundw
                          case rel =>
                            refine ⟨jj + 1, g', by omega, by omega, by simp, hS, hCn, fun k => ?_⟩
                            rw [HQ.out k]
                            congr 1
                            apply decide_eq_decide.2
                            constructor
                            · rintro ⟨h1, h2, h3, h4, h5⟩; exact ⟨h1, h2, h3, by omega, h5⟩
                            · rintro ⟨h1, h2, h3, h4, h5⟩
                              refine ⟨h1, h2, h3, Nat.lt_of_le_of_ne (by omega) (fun e => hm (by rw [← e]; exact h5)), h5⟩
                          case measure => simp [intOf]; omega)
                    · have e : jj = hiM f + 1 := by omega
                      subst e
                      go_wp2_with fail
                      go_ret
                      exact ⟨by rw [HG.out]; rfl, hS, by rw [HG.out, ← row_or (by omega) hb63 HQ.out]; exact hCn⟩
      | cons y w' =>
        have hne := drop_ne hde
        rw [Option.bind_some, if_neg (by simp)] at hIr
        have H20 : Hid (itemM f l = (0, 20)) := Lib.hid hIr
        have hneq : ¬ ((e : Nat) : Int) = (l.length : Nat) := by omega
        clear hIr hde
        go_enter Tryd.func50, Tryd.ntmps50
        go_wp2_with (first | (go_at_call 48; refine (low_any f hf _).mono ?_; rintro e Wy ⟨rfl, hww⟩; obtain rfl := hww) | (go_at_call 49; refine (high_any f hf _).mono ?_; rintro e Wh ⟨rfl, hbh⟩; have hBW := hBW.trans (hbh.mono hBW.size)) | (go_at_call 70; refine (num_int l hl _ (by omega) (by omega) _).mono ?_; rintro e Wn ⟨rfl, hwn⟩; obtain rfl := hwn; simp only [z1, z2]))
        go_ret
        exact ritem_bad H20.out hC hBW
  · have hT : ritemT (loM f) (hiM f) l = none := by
      rw [ht]
      unfold ritemT
      split
      · rename_i t' e; injection e with e1 e2; subst e2
        split
        · rename_i u' e; exact absurd ⟨_, rfl⟩ h7
        · rfl
      · rename_i h; exact absurd rfl (h _)
    rw [hT] at hIr
    have H20 : Hid (itemM f l = (0, 20)) := Lib.hid hIr
    have hlen : l.length = t.length + 1 := by rw [ht]; rfl
    clear hIr hT ht hd0
    cases t with
    | nil =>
      have hl1 : l.length = 1 := by simpa using hlen
      clear h7 hd1 hlen
      go_enter Tryd.func50, Tryd.ntmps50
      go_wp2_with (first | (go_at_call 48; refine (low_any f hf _).mono ?_; rintro e Wy ⟨rfl, hww⟩; obtain rfl := hww) | (go_at_call 49; refine (high_any f hf _).mono ?_; rintro e Wh ⟨rfl, hbh⟩; have hBW := hBW.trans (hbh.mono hBW.size)))
      go_ret
      exact ritem_bad H20.out hC hBW
    | cons y u =>
      obtain ⟨k1, -, x1⟩ := byte_at hd1
      have k1' : (1 : Int) < l.length := by omega
      have y7 : y ≠ UInt8.ofNat 47 := fun e => h7 ⟨u, by rw [e]; rfl⟩
      have yi := ne_int (by omega) y7
      have y256 : (y.toNat : Int) < 256 := by have := y.toNat_lt; omega
      have h1n : ¬ (1 : Int) = (l.length : Nat) := by omega
      clear h7 hd1 hlen y7
      go_enter Tryd.func50, Tryd.ntmps50
      go_wp2_with (first | (go_at_call 48; refine (low_any f hf _).mono ?_; rintro e Wy ⟨rfl, hww⟩; obtain rfl := hww) | (go_at_call 49; refine (high_any f hf _).mono ?_; rintro e Wh ⟨rfl, hbh⟩; have hBW := hBW.trans (hbh.mono hBW.size)))
      go_ret
      exact ritem_bad H20.out hC hBW

set_option maxRecDepth 100000 in
set_option maxHeartbeats 4000000 in
theorem ritem_plain (f : Nat) (hf : f < 5) (l : List UInt8) (hl : l.length ≤ 1000000) (g : Nat → Bool) (C : Nat) (W : World) (hC : W.heap[C]? = some (.cells (cellsF g) 47 (0, 0))) (x0 : UInt8) (t0 : List UInt8) (ht : l = x0 :: t0) (h42 : x0 ≠ 42) :
    Calls Tryd.prog 50 #[.int .i64 f, .string ⟨l.toArray⟩, .pointer (some ⟨C, f * 65, none⟩)] W (RItem f l g C W) := by
  have hsz : (⟨l.toArray⟩ : ByteArray).size = l.length := by simp [ByteArray.size]
  have hIr := itemM_ref f l
  have hlo := loM_le f
  have hhi := hiM_le f
  have hBW : Below W.heap.size W W := Below.refl _ _
  have hd0 : l.drop 0 = x0 :: t0 := ht
  obtain ⟨k0, -, b0⟩ := byte_at hd0
  have k0' : (0 : Int) < l.length := by omega
  have i42 := ne_int (n := 42) (by omega) h42
  have x256 : (x0.toNat : Int) < 256 := by have := x0.toNat_lt; omega
  have hT : ritemT (loM f) (hiM f) l = ritemG l := ritemT_no _ _ _ (fun t e => by rw [ht] at e; injection e with e1 e2; exact h42 e1)
  rw [hT, ritemG] at hIr
  clear hT ht hd0 h42
  cases hr : rn l with
  | none =>
    rw [hr] at hIr
    have H20 : Hid (itemM f l = (0, 20)) := Lib.hid hIr
    have zE := rn_none (l := l) (at_ := 0) hr
    have z2 : rnumE l ((0 : Int)).toNat = -1 := zE
    clear hIr zE
    go_enter Tryd.func50, Tryd.ntmps50
    go_wp2_with (first | (go_at_call 48; refine (low_any f hf _).mono ?_; rintro e Wy ⟨rfl, hww⟩; obtain rfl := hww) | (go_at_call 49; refine (high_any f hf _).mono ?_; rintro e Wh ⟨rfl, hbh⟩; have hBW := hBW.trans (hbh.mono hBW.size)) | (go_at_call 70; refine (num_int l hl _ (by omega) (by omega) _).mono ?_; rintro e Wn ⟨rfl, hwn⟩; obtain rfl := hwn; simp only [z2]))
    go_ret
    exact ritem_bad H20.out hC hBW
  | some p =>
    obtain ⟨v, r⟩ := p
    rw [hr, Option.bind_some] at hIr
    obtain ⟨n, e, rfl, hn, zn, ze, he0, he1, hde⟩ := rn_some (l := l) (at_ := 0) (by omega) hr
    have z1 : rnumN l ((0 : Int)).toNat = n := zn
    have z2 : rnumE l ((0 : Int)).toNat = e := ze
    have he1' : ((e : Nat) : Int) ≤ l.length := by omega
    clear zn ze
    cases r with
    | nil =>
      have hee := drop_nil he1 hde
      have HI : Hid (itemM f l = itemOut f (some ((n : Int), (n : Int), ((1 : Nat) : Int)))) := Lib.hid hIr
      clear hIr hde
      go_enter Tryd.func50, Tryd.ntmps50
      go_upto_region 22 with (first | (go_at_call 48; refine (low_any f hf _).mono ?_; rintro e Wy ⟨rfl, hww⟩; obtain rfl := hww) | (go_at_call 49; refine (high_any f hf _).mono ?_; rintro e Wh ⟨rfl, hbh⟩; have hBW := hBW.trans (hbh.mono hBW.size)) | (go_at_call 70; refine (num_int l hl _ (by omega) (by omega) _).mono ?_; rintro e Wn ⟨rfl, hwn⟩; obtain rfl := hwn; simp only [z1, z2]))
      by_cases r1 : ((n : Nat) : Int) < (loM f : Nat)
      · first | (exfalso; omega) | (
          have H30 : Hid (itemM f l = (0, 30)) := Lib.hid (by rw [HI.out, itemOut]; rw [if_pos (by omega)])
          go_wp2_with (first | (go_at_call 48; refine (low_any f hf _).mono ?_; rintro e Wy ⟨rfl, hww⟩; obtain rfl := hww) | (go_at_call 49; refine (high_any f hf _).mono ?_; rintro e Wh ⟨rfl, hbh⟩; have hBW := hBW.trans (hbh.mono hBW.size)))
          go_ret
          exact ritem_bad H30.out hC hBW)
      · skip
        by_cases r2 : ((hiM f : Nat) : Int) < (n : Nat)
        · first | (exfalso; omega) | (
            have H30 : Hid (itemM f l = (0, 30)) := Lib.hid (by rw [HI.out, itemOut]; rw [if_pos (by omega)])
            go_wp2_with (first | (go_at_call 48; refine (low_any f hf _).mono ?_; rintro e Wy ⟨rfl, hww⟩; obtain rfl := hww) | (go_at_call 49; refine (high_any f hf _).mono ?_; rintro e Wh ⟨rfl, hbh⟩; have hBW := hBW.trans (hbh.mono hBW.size)))
            go_ret
            exact ritem_bad H30.out hC hBW)
        · skip
          by_cases r3 : ((n : Nat) : Int) < (n : Nat)
          · first | (exfalso; omega) | (
              have H30 : Hid (itemM f l = (0, 30)) := Lib.hid (by rw [HI.out, itemOut]; rw [if_pos (by omega)])
              go_wp2_with (first | (go_at_call 48; refine (low_any f hf _).mono ?_; rintro e Wy ⟨rfl, hww⟩; obtain rfl := hww) | (go_at_call 49; refine (high_any f hf _).mono ?_; rintro e Wh ⟨rfl, hbh⟩; have hBW := hBW.trans (hbh.mono hBW.size)))
              go_ret
              exact ritem_bad H30.out hC hBW)
          · skip
            by_cases r4 : ((1 : Nat) : Int) < 1
            · first | (exfalso; omega) | (
                have H30 : Hid (itemM f l = (0, 30)) := Lib.hid (by rw [HI.out, itemOut]; rw [if_pos (by omega)])
                go_wp2_with (first | (go_at_call 48; refine (low_any f hf _).mono ?_; rintro e Wy ⟨rfl, hww⟩; obtain rfl := hww) | (go_at_call 49; refine (high_any f hf _).mono ?_; rintro e Wh ⟨rfl, hbh⟩; have hBW := hBW.trans (hbh.mono hBW.size)))
                go_ret
                exact ritem_bad H30.out hC hBW)
            · skip
              by_cases r5 : (59 : Int) < (1 : Nat)
              · first | (exfalso; omega) | (
                  have H30 : Hid (itemM f l = (0, 30)) := Lib.hid (by rw [HI.out, itemOut]; rw [if_pos (by omega)])
                  go_wp2_with (first | (go_at_call 48; refine (low_any f hf _).mono ?_; rintro e Wy ⟨rfl, hww⟩; obtain rfl := hww) | (go_at_call 49; refine (high_any f hf _).mono ?_; rintro e Wh ⟨rfl, hbh⟩; have hBW := hBW.trans (hbh.mono hBW.size)))
                  go_ret
                  exact ritem_bad H30.out hC hBW)
              · skip
                have HG : Hid (itemM f l = (rowM (n) (n) (1), 0)) := Lib.hid (by rw [HI.out, itemOut]; rw [if_neg (by omega)]; simp)
                have hb63 : n ≤ 63 := by have := hiM_le f; omega
                go_wp2_with (first | (go_at_call 48; refine (low_any f hf _).mono ?_; rintro e Wy ⟨rfl, hww⟩; obtain rfl := hww) | (go_at_call 49; refine (high_any f hf _).mono ?_; rintro e Wh ⟨rfl, hbh⟩; have hBW := hBW.trans (hbh.mono hBW.size)))
                have hlC : C < W.heap.size := (Array.getElem?_eq_some_iff.1 hC).1
                have hC1 := (hBW.block C hlC).trans hC
                have hS1 : SameBut [C] W.heap.size W _ := SameBut.of_below hBW (Nat.le_refl _)
                go_loopw [13, 115, 116, 117] (fun x13 x115 x116 x117 wr => ∃ (jj : Nat) (g' : Nat → Bool), n ≤ jj ∧ jj ≤ n + 1 ∧ x13 = .int .i64 jj ∧ SameBut [C] W.heap.size W wr ∧ wr.heap[C]? = some (.cells (cellsF g') 47 (0, 0)) ∧
                    ∀ k, g' k = (g k || decide (k / 65 = f ∧ k % 65 < 64 ∧ n ≤ k % 65 ∧ k % 65 < jj ∧ (k % 65 - n) % 1 = 0))) (fun x13 x115 x116 x117 wr => n + 1 - (intOf x13).toNat)
                case atStart => exact ⟨n, g, by omega, by omega, rfl, hS1, hC1, fun k => by rw [decide_eq_false (by omega), Bool.or_false]⟩
                case round =>
                  clear hC1 hS1
                  obtain ⟨jj, g', hj0, hj1, rfl, hS, hCn, hg⟩ := hrel
                  have HQ := Lib.hid hg
                  clear hg
                  by_cases hnb : jj ≤ n
                  · have hni : ((jj : Nat) : Int) ≤ (n : Nat) := by omega
                    have hn64 : ((jj : Nat) : Int) < 64 := by omega
                    have hn0i : (0 : Int) ≤ (jj : Nat) := by omega
                    have hcast : ((jj : Nat) : Int) - (n : Nat) = ((jj - n : Nat) : Int) := by omega
                    by_cases hm : (jj - n) % 1 = 0
                    · have hmi : (((jj : Nat) : Int) - (n : Nat)) % (1 : Nat) = 0 := by rw [hcast]; omega
                      obtain ⟨cn, fn⟩ := fld_cell hCn (f * 65 + jj) (by omega)
                      clear hcast
                      go_wp2_with fail
                      go_roundw
                      case rel =>
                        refine ⟨jj + 1, upd g' (f * 65 + jj) true, by omega, by omega, by simp, hS.set _ (Or.inl (by simp)) _, fld_set hCn _ (by omega) _, fun k => ?_⟩
                        simp only [upd]
                        split
                        · rename_i e; subst e
                          have e1 : (f * 65 + jj) % 65 = jj := by omega
                          have e2 : (f * 65 + jj) / 65 = f := by omega
                          rw [e1, e2, decide_eq_true (by refine ⟨rfl, by omega, hj0, by omega, hm⟩), Bool.or_true]
                        · rename_i e
                          rw [HQ.out k]
                          congr 1
                          apply decide_eq_decide.2
                          constructor
                          · rintro ⟨h1, h2, h3, h4, h5⟩; exact ⟨h1, h2, h3, by omega, h5⟩
                          · rintro ⟨h1, h2, h3, h4, h5⟩; exact ⟨h1, h2, h3, by omega, h5⟩
                      case measure => simp [intOf]; omega
                    · first | (exfalso; omega) | (
                        have hmi : ¬ (((jj : Nat) : Int) - (n : Nat)) % (1 : Nat) = 0 := by rw [hcast]; omega
                        clear hcast
                        go_wp2_with fail
                        go_roundw
                        case rel =>
                          refine ⟨jj + 1, g', by omega, by omega, by simp, hS, hCn, fun k => ?_⟩
                          rw [HQ.out k]
                          congr 1
                          apply decide_eq_decide.2
                          constructor
                          · rintro ⟨h1, h2, h3, h4, h5⟩; exact ⟨h1, h2, h3, by omega, h5⟩
                          · rintro ⟨h1, h2, h3, h4, h5⟩
                            refine ⟨h1, h2, h3, Nat.lt_of_le_of_ne (by omega) (fun e => hm (by rw [← e]; exact h5)), h5⟩
                        case measure => simp [intOf]; omega)
                  · have e : jj = n + 1 := by omega
                    subst e
                    go_wp2_with fail
                    go_ret
                    exact ⟨by rw [HG.out]; rfl, hS, by rw [HG.out, ← row_or (by omega) hb63 HQ.out]; exact hCn⟩
    | cons y u =>
      obtain ⟨ky, hdy, by_⟩ := byte_at hde
      have ky' : ((e : Nat) : Int) < l.length := by omega
      have y256 : (y.toNat : Int) < 256 := by have := y.toNat_lt; omega
      have hneq : ¬ ((e : Nat) : Int) = (l.length : Nat) := by omega
      by_cases y7 : y = 47
      · subst y7
        rw [show (47 : UInt8).toNat = 47 from rfl] at by_
        have H20 : Hid (itemM f l = (0, 20)) := Lib.hid hIr
        clear hIr
        cases hr2 : rn u with
        | none =>
          have zE := rn_none (l := l) (at_ := e + 1) (by rw [← hr2]; exact congrArg rn hdy)
          have z4 : rnumE l (((e : Nat) : Int) + 1).toNat = -1 := zE
          clear zE hde hdy
          go_enter Tryd.func50, Tryd.ntmps50
          go_wp2_with (first | (go_at_call 48; refine (low_any f hf _).mono ?_; rintro e Wy ⟨rfl, hww⟩; obtain rfl := hww) | (go_at_call 49; refine (high_any f hf _).mono ?_; rintro e Wh ⟨rfl, hbh⟩; have hBW := hBW.trans (hbh.mono hBW.size)) | (go_at_call 70; refine (num_int l hl _ (by omega) (by omega) _).mono ?_; rintro e Wn ⟨rfl, hwn⟩; obtain rfl := hwn; simp only [z1, z2, z4]))
          go_ret
          exact ritem_bad H20.out hC hBW
        | some p2 =>
          obtain ⟨v2, r2⟩ := p2
          obtain ⟨n2, e2, rfl, hn2, zn2, ze2, he20, he21, hde2⟩ := rn_some (l := l) (at_ := e + 1) (by omega) (by rw [← hr2]; exact congrArg rn hdy)
          have z3 : rnumN l (((e : Nat) : Int) + 1).toNat = n2 := zn2
          have z4 : rnumE l (((e : Nat) : Int) + 1).toNat = e2 := ze2
          clear zn2 ze2 hde hdy hde2
          go_enter Tryd.func50, Tryd.ntmps50
          go_wp2_with (first | (go_at_call 48; refine (low_any f hf _).mono ?_; rintro e Wy ⟨rfl, hww⟩; obtain rfl := hww) | (go_at_call 49; refine (high_any f hf _).mono ?_; rintro e Wh ⟨rfl, hbh⟩; have hBW := hBW.trans (hbh.mono hBW.size)) | (go_at_call 70; refine (num_int l hl _ (by omega) (by omega) _).mono ?_; rintro e Wn ⟨rfl, hwn⟩; obtain rfl := hwn; simp only [z1, z2, z3, z4]))
          go_ret
          exact ritem_bad H20.out hC hBW
      · have i47 := ne_int (n := 47) (by omega) y7
        by_cases y5 : y = 45
        · subst y5
          rw [show (45 : UInt8).toNat = 45 from rfl] at by_
          clear i47
          cases hr2 : rn u with
          | none =>
            simp only [] at hIr
            rw [hr2, Option.bind_none] at hIr
            have H20 : Hid (itemM f l = (0, 20)) := Lib.hid hIr
            have zE := rn_none (l := l) (at_ := e + 1) (by rw [← hr2]; exact congrArg rn hdy)
            have z4 : rnumE l (((e : Nat) : Int) + 1).toNat = -1 := zE
            clear zE hde hdy hIr
            go_enter Tryd.func50, Tryd.ntmps50
            go_wp2_with (first | (go_at_call 48; refine (low_any f hf _).mono ?_; rintro e Wy ⟨rfl, hww⟩; obtain rfl := hww) | (go_at_call 49; refine (high_any f hf _).mono ?_; rintro e Wh ⟨rfl, hbh⟩; have hBW := hBW.trans (hbh.mono hBW.size)) | (go_at_call 70; refine (num_int l hl _ (by omega) (by omega) _).mono ?_; rintro e Wn ⟨rfl, hwn⟩; obtain rfl := hwn; simp only [z1, z2, z4]))
            go_ret
            exact ritem_bad H20.out hC hBW
          | some p2 =>
            obtain ⟨v2, r2⟩ := p2
            simp only [] at hIr
            rw [hr2, Option.bind_some] at hIr
            obtain ⟨n2, e2, rfl, hn2, zn2, ze2, he20, he21, hde2⟩ := rn_some (l := l) (at_ := e + 1) (by omega) (by rw [← hr2]; exact congrArg rn hdy)
            have z3 : rnumN l (((e : Nat) : Int) + 1).toNat = n2 := zn2
            have z4 : rnumE l (((e : Nat) : Int) + 1).toNat = e2 := ze2
            have he21' : ((e2 : Nat) : Int) ≤ l.length := by omega
            clear zn2 ze2 hde hdy
            cases r2 with
            | nil =>
              have hee := drop_nil he21 hde2
              have HI : Hid (itemM f l = itemOut f (some ((n : Int), (n2 : Int), ((1 : Nat) : Int)))) := Lib.hid hIr
              clear hIr hde2
              go_enter Tryd.func50, Tryd.ntmps50
              go_upto_region 22 with (first | (go_at_call 48; refine (low_any f hf _).mono ?_; rintro e Wy ⟨rfl, hww⟩; obtain rfl := hww) | (go_at_call 49; refine (high_any f hf _).mono ?_; rintro e Wh ⟨rfl, hbh⟩; have hBW := hBW.trans (hbh.mono hBW.size)) | (go_at_call 70; refine (num_int l hl _ (by omega) (by omega) _).mono ?_; rintro e Wn ⟨rfl, hwn⟩; obtain rfl := hwn; simp only [z1, z2, z3, z4]))
              by_cases r1 : ((n : Nat) : Int) < (loM f : Nat)
              · first | (exfalso; omega) | (
                  have H30 : Hid (itemM f l = (0, 30)) := Lib.hid (by rw [HI.out, itemOut]; rw [if_pos (by omega)])
                  go_wp2_with (first | (go_at_call 48; refine (low_any f hf _).mono ?_; rintro e Wy ⟨rfl, hww⟩; obtain rfl := hww) | (go_at_call 49; refine (high_any f hf _).mono ?_; rintro e Wh ⟨rfl, hbh⟩; have hBW := hBW.trans (hbh.mono hBW.size)))
                  go_ret
                  exact ritem_bad H30.out hC hBW)
              · skip
                by_cases r2 : ((hiM f : Nat) : Int) < (n2 : Nat)
                · first | (exfalso; omega) | (
                    have H30 : Hid (itemM f l = (0, 30)) := Lib.hid (by rw [HI.out, itemOut]; rw [if_pos (by omega)])
                    go_wp2_with (first | (go_at_call 48; refine (low_any f hf _).mono ?_; rintro e Wy ⟨rfl, hww⟩; obtain rfl := hww) | (go_at_call 49; refine (high_any f hf _).mono ?_; rintro e Wh ⟨rfl, hbh⟩; have hBW := hBW.trans (hbh.mono hBW.size)))
                    go_ret
                    exact ritem_bad H30.out hC hBW)
                · skip
                  by_cases r3 : ((n2 : Nat) : Int) < (n : Nat)
                  · first | (exfalso; omega) | (
                      have H30 : Hid (itemM f l = (0, 30)) := Lib.hid (by rw [HI.out, itemOut]; rw [if_pos (by omega)])
                      go_wp2_with (first | (go_at_call 48; refine (low_any f hf _).mono ?_; rintro e Wy ⟨rfl, hww⟩; obtain rfl := hww) | (go_at_call 49; refine (high_any f hf _).mono ?_; rintro e Wh ⟨rfl, hbh⟩; have hBW := hBW.trans (hbh.mono hBW.size)))
                      go_ret
                      exact ritem_bad H30.out hC hBW)
                  · skip
                    by_cases r4 : ((1 : Nat) : Int) < 1
                    · first | (exfalso; omega) | (
                        have H30 : Hid (itemM f l = (0, 30)) := Lib.hid (by rw [HI.out, itemOut]; rw [if_pos (by omega)])
                        go_wp2_with (first | (go_at_call 48; refine (low_any f hf _).mono ?_; rintro e Wy ⟨rfl, hww⟩; obtain rfl := hww) | (go_at_call 49; refine (high_any f hf _).mono ?_; rintro e Wh ⟨rfl, hbh⟩; have hBW := hBW.trans (hbh.mono hBW.size)))
                        go_ret
                        exact ritem_bad H30.out hC hBW)
                    · skip
                      by_cases r5 : (59 : Int) < (1 : Nat)
                      · first | (exfalso; omega) | (
                          have H30 : Hid (itemM f l = (0, 30)) := Lib.hid (by rw [HI.out, itemOut]; rw [if_pos (by omega)])
                          go_wp2_with (first | (go_at_call 48; refine (low_any f hf _).mono ?_; rintro e Wy ⟨rfl, hww⟩; obtain rfl := hww) | (go_at_call 49; refine (high_any f hf _).mono ?_; rintro e Wh ⟨rfl, hbh⟩; have hBW := hBW.trans (hbh.mono hBW.size)))
                          go_ret
                          exact ritem_bad H30.out hC hBW)
                      · skip
                        have HG : Hid (itemM f l = (rowM (n) (n2) (1), 0)) := Lib.hid (by rw [HI.out, itemOut]; rw [if_neg (by omega)]; simp)
                        have hb63 : n2 ≤ 63 := by have := hiM_le f; omega
                        go_wp2_with (first | (go_at_call 48; refine (low_any f hf _).mono ?_; rintro e Wy ⟨rfl, hww⟩; obtain rfl := hww) | (go_at_call 49; refine (high_any f hf _).mono ?_; rintro e Wh ⟨rfl, hbh⟩; have hBW := hBW.trans (hbh.mono hBW.size)))
                        have hlC : C < W.heap.size := (Array.getElem?_eq_some_iff.1 hC).1
                        have hC1 := (hBW.block C hlC).trans hC
                        have hS1 : SameBut [C] W.heap.size W _ := SameBut.of_below hBW (Nat.le_refl _)
                        go_loopw [13, 115, 116, 117] (fun x13 x115 x116 x117 wr => ∃ (jj : Nat) (g' : Nat → Bool), n ≤ jj ∧ jj ≤ n2 + 1 ∧ x13 = .int .i64 jj ∧ SameBut [C] W.heap.size W wr ∧ wr.heap[C]? = some (.cells (cellsF g') 47 (0, 0)) ∧
                            ∀ k, g' k = (g k || decide (k / 65 = f ∧ k % 65 < 64 ∧ n ≤ k % 65 ∧ k % 65 < jj ∧ (k % 65 - n) % 1 = 0))) (fun x13 x115 x116 x117 wr => n2 + 1 - (intOf x13).toNat)
                        case atStart => exact ⟨n, g, by omega, by omega, rfl, hS1, hC1, fun k => by rw [decide_eq_false (by omega), Bool.or_false]⟩
                        case round =>
                          clear hC1 hS1
                          obtain ⟨jj, g', hj0, hj1, rfl, hS, hCn, hg⟩ := hrel
                          have HQ := Lib.hid hg
                          clear hg
                          by_cases hnb : jj ≤ n2
                          · have hni : ((jj : Nat) : Int) ≤ (n2 : Nat) := by omega
                            have hn64 : ((jj : Nat) : Int) < 64 := by omega
                            have hn0i : (0 : Int) ≤ (jj : Nat) := by omega
                            have hcast : ((jj : Nat) : Int) - (n : Nat) = ((jj - n : Nat) : Int) := by omega
                            by_cases hm : (jj - n) % 1 = 0
                            · have hmi : (((jj : Nat) : Int) - (n : Nat)) % (1 : Nat) = 0 := by rw [hcast]; omega
                              obtain ⟨cn, fn⟩ := fld_cell hCn (f * 65 + jj) (by omega)
                              clear hcast
                              go_wp2_with fail
                              go_roundw
                              case rel =>
                                refine ⟨jj + 1, upd g' (f * 65 + jj) true, by omega, by omega, by simp, hS.set _ (Or.inl (by simp)) _, fld_set hCn _ (by omega) _, fun k => ?_⟩
                                simp only [upd]
                                split
                                · rename_i e; subst e
                                  have e1 : (f * 65 + jj) % 65 = jj := by omega
                                  have e2 : (f * 65 + jj) / 65 = f := by omega
                                  rw [e1, e2, decide_eq_true (by refine ⟨rfl, by omega, hj0, by omega, hm⟩), Bool.or_true]
                                · rename_i e
                                  rw [HQ.out k]
                                  congr 1
                                  apply decide_eq_decide.2
                                  constructor
                                  · rintro ⟨h1, h2, h3, h4, h5⟩; exact ⟨h1, h2, h3, by omega, h5⟩
                                  · rintro ⟨h1, h2, h3, h4, h5⟩; exact ⟨h1, h2, h3, by omega, h5⟩
                              case measure => simp [intOf]; omega
                            · first | (exfalso; omega) | (
                                have hmi : ¬ (((jj : Nat) : Int) - (n : Nat)) % (1 : Nat) = 0 := by rw [hcast]; omega
                                clear hcast
                                go_wp2_with fail
                                go_roundw
                                case rel =>
                                  refine ⟨jj + 1, g', by omega, by omega, by simp, hS, hCn, fun k => ?_⟩
                                  rw [HQ.out k]
                                  congr 1
                                  apply decide_eq_decide.2
                                  constructor
                                  · rintro ⟨h1, h2, h3, h4, h5⟩; exact ⟨h1, h2, h3, by omega, h5⟩
                                  · rintro ⟨h1, h2, h3, h4, h5⟩
                                    refine ⟨h1, h2, h3, Nat.lt_of_le_of_ne (by omega) (fun e => hm (by rw [← e]; exact h5)), h5⟩
                                case measure => simp [intOf]; omega)
                          · have e : jj = n2 + 1 := by omega
                            subst e
                            go_wp2_with fail
                            go_ret
                            exact ⟨by rw [HG.out]; rfl, hS, by rw [HG.out, ← row_or (by omega) hb63 HQ.out]; exact hCn⟩
            | cons y2 u2 =>
              obtain ⟨ky2, hdy2, by2⟩ := byte_at hde2
              have ky2' : ((e2 : Nat) : Int) < l.length := by omega
              have y2256 : (y2.toNat : Int) < 256 := by have := y2.toNat_lt; omega
              have hneq2 : ¬ ((e2 : Nat) : Int) = (l.length : Nat) := by omega
              by_cases y27 : y2 = 47
              · subst y27
                rw [show (47 : UInt8).toNat = 47 from rfl] at by2
                simp only [] at hIr
                cases hr3 : rn u2 with
                | none =>
                  rw [hr3, Option.bind_none] at hIr
                  have H20 : Hid (itemM f l = (0, 20)) := Lib.hid hIr
                  have zE := rn_none (l := l) (at_ := e2 + 1) (by rw [← hr3]; exact congrArg rn hdy2)
                  have z6 : rnumE l (((e2 : Nat) : Int) + 1).toNat = -1 := zE
                  clear zE hde2 hdy2 hIr
                  go_enter Tryd.func50, Tryd.ntmps50
                  go_wp2_with (first | (go_at_call 48; refine (low_any f hf _).mono ?_; rintro e Wy ⟨rfl, hww⟩; obtain rfl := hww) | (go_at_call 49; refine (high_any f hf _).mono ?_; rintro e Wh ⟨rfl, hbh⟩; have hBW := hBW.trans (hbh.mono hBW.size)) | (go_at_call 70; refine (num_int l hl _ (by omega) (by omega) _).mono ?_; rintro e Wn ⟨rfl, hwn⟩; obtain rfl := hwn; simp only [z1, z2, z3, z4, z6]))
                  go_ret
                  exact ritem_bad H20.out hC hBW
                | some p3 =>
                  obtain ⟨v3, r3⟩ := p3
                  rw [hr3, Option.bind_some] at hIr
                  obtain ⟨n3, e3, rfl, hn3, zn3, ze3, he30, he31, hde3⟩ := rn_some (l := l) (at_ := e2 + 1) (by omega) (by rw [← hr3]; exact congrArg rn hdy2)
                  have z5 : rnumN l (((e2 : Nat) : Int) + 1).toNat = n3 := zn3
                  have z6 : rnumE l (((e2 : Nat) : Int) + 1).toNat = e3 := ze3
                  have he31' : ((e3 : Nat) : Int) ≤ l.length := by omega
                  clear zn3 ze3 hde2 hdy2
                  cases r3 with
                  | nil =>
                    have hee := drop_nil he31 hde3
                    rw [if_pos rfl] at hIr
                    have HI := Lib.hid hIr
                    clear hIr hde3
                    go_enter Tryd.func50, Tryd.ntmps50
                    go_upto_region 22 with (first | (go_at_call 48; refine (low_any f hf _).mono ?_; rintro e Wy ⟨rfl, hww⟩; obtain rfl := hww) | (go_at_call 49; refine (high_any f hf _).mono ?_; rintro e Wh ⟨rfl, hbh⟩; have hBW := hBW.trans (hbh.mono hBW.size)) | (go_at_call 70; refine (num_int l hl _ (by omega) (by omega) _).mono ?_; rintro e Wn ⟨rfl, hwn⟩; obtain rfl := hwn; simp only [z1, z2, z3, z4, z5, z6]))
                    by_cases r1 : ((n : Nat) : Int) < (loM f : Nat)
                    · first | (exfalso; omega) | (
                        have H30 : Hid (itemM f l = (0, 30)) := Lib.hid (by rw [HI.out, itemOut]; rw [if_pos (by omega)])
                        go_wp2_with (first | (go_at_call 48; refine (low_any f hf _).mono ?_; rintro e Wy ⟨rfl, hww⟩; obtain rfl := hww) | (go_at_call 49; refine (high_any f hf _).mono ?_; rintro e Wh ⟨rfl, hbh⟩; have hBW := hBW.trans (hbh.mono hBW.size)))
                        go_ret
                        exact ritem_bad H30.out hC hBW)
                    · skip
                      by_cases r2 : ((hiM f : Nat) : Int) < (n2 : Nat)
                      · first | (exfalso; omega) | (
                          have H30 : Hid (itemM f l = (0, 30)) := Lib.hid (by rw [HI.out, itemOut]; rw [if_pos (by omega)])
                          go_wp2_with (first | (go_at_call 48; refine (low_any f hf _).mono ?_; rintro e Wy ⟨rfl, hww⟩; obtain rfl := hww) | (go_at_call 49; refine (high_any f hf _).mono ?_; rintro e Wh ⟨rfl, hbh⟩; have hBW := hBW.trans (hbh.mono hBW.size)))
                          go_ret
                          exact ritem_bad H30.out hC hBW)
                      · skip
                        by_cases r3 : ((n2 : Nat) : Int) < (n : Nat)
                        · first | (exfalso; omega) | (
                            have H30 : Hid (itemM f l = (0, 30)) := Lib.hid (by rw [HI.out, itemOut]; rw [if_pos (by omega)])
                            go_wp2_with (first | (go_at_call 48; refine (low_any f hf _).mono ?_; rintro e Wy ⟨rfl, hww⟩; obtain rfl := hww) | (go_at_call 49; refine (high_any f hf _).mono ?_; rintro e Wh ⟨rfl, hbh⟩; have hBW := hBW.trans (hbh.mono hBW.size)))
                            go_ret
                            exact ritem_bad H30.out hC hBW)
                        · skip
                          by_cases r4 : ((n3 : Nat) : Int) < 1
                          · first | (exfalso; omega) | (
                              have H30 : Hid (itemM f l = (0, 30)) := Lib.hid (by rw [HI.out, itemOut]; rw [if_pos (by omega)])
                              go_wp2_with (first | (go_at_call 48; refine (low_any f hf _).mono ?_; rintro e Wy ⟨rfl, hww⟩; obtain rfl := hww) | (go_at_call 49; refine (high_any f hf _).mono ?_; rintro e Wh ⟨rfl, hbh⟩; have hBW := hBW.trans (hbh.mono hBW.size)))
                              go_ret
                              exact ritem_bad H30.out hC hBW)
                          · skip
                            by_cases r5 : (59 : Int) < (n3 : Nat)
                            · first | (exfalso; omega) | (
                                have H30 : Hid (itemM f l = (0, 30)) := Lib.hid (by rw [HI.out, itemOut]; rw [if_pos (by omega)])
                                go_wp2_with (first | (go_at_call 48; refine (low_any f hf _).mono ?_; rintro e Wy ⟨rfl, hww⟩; obtain rfl := hww) | (go_at_call 49; refine (high_any f hf _).mono ?_; rintro e Wh ⟨rfl, hbh⟩; have hBW := hBW.trans (hbh.mono hBW.size)))
                                go_ret
                                exact ritem_bad H30.out hC hBW)
                            · skip
                              have HG : Hid (itemM f l = (rowM (n) (n2) (n3), 0)) := Lib.hid (by rw [HI.out, itemOut]; rw [if_neg (by omega)]; simp)
                              have hb63 : n2 ≤ 63 := by have := hiM_le f; omega
                              go_wp2_with (first | (go_at_call 48; refine (low_any f hf _).mono ?_; rintro e Wy ⟨rfl, hww⟩; obtain rfl := hww) | (go_at_call 49; refine (high_any f hf _).mono ?_; rintro e Wh ⟨rfl, hbh⟩; have hBW := hBW.trans (hbh.mono hBW.size)))
                              have hlC : C < W.heap.size := (Array.getElem?_eq_some_iff.1 hC).1
                              have hC1 := (hBW.block C hlC).trans hC
                              have hS1 : SameBut [C] W.heap.size W _ := SameBut.of_below hBW (Nat.le_refl _)
                              go_loopw [13, 115, 116, 117] (fun x13 x115 x116 x117 wr => ∃ (jj : Nat) (g' : Nat → Bool), n ≤ jj ∧ jj ≤ n2 + 1 ∧ x13 = .int .i64 jj ∧ SameBut [C] W.heap.size W wr ∧ wr.heap[C]? = some (.cells (cellsF g') 47 (0, 0)) ∧
                                  ∀ k, g' k = (g k || decide (k / 65 = f ∧ k % 65 < 64 ∧ n ≤ k % 65 ∧ k % 65 < jj ∧ (k % 65 - n) % n3 = 0))) (fun x13 x115 x116 x117 wr => n2 + 1 - (intOf x13).toNat)
                              case atStart => exact ⟨n, g, by omega, by omega, rfl, hS1, hC1, fun k => by rw [decide_eq_false (by omega), Bool.or_false]⟩
                              case round =>
                                clear hC1 hS1
                                obtain ⟨jj, g', hj0, hj1, rfl, hS, hCn, hg⟩ := hrel
                                have HQ := Lib.hid hg
                                clear hg
                                by_cases hnb : jj ≤ n2
                                · have hni : ((jj : Nat) : Int) ≤ (n2 : Nat) := by omega
                                  have hn64 : ((jj : Nat) : Int) < 64 := by omega
                                  have hn0i : (0 : Int) ≤ (jj : Nat) := by omega
                                  have hcast : ((jj : Nat) : Int) - (n : Nat) = ((jj - n : Nat) : Int) := by omega
                                  by_cases hm : (jj - n) % n3 = 0
                                  · have hmi : (((jj : Nat) : Int) - (n : Nat)) % (n3 : Nat) = 0 := by rw [hcast]; omega
                                    obtain ⟨cn, fn⟩ := fld_cell hCn (f * 65 + jj) (by omega)
                                    clear hcast
                                    go_wp2_with fail
                                    go_roundw
                                    case rel =>
                                      refine ⟨jj + 1, upd g' (f * 65 + jj) true, by omega, by omega, by simp, hS.set _ (Or.inl (by simp)) _, fld_set hCn _ (by omega) _, fun k => ?_⟩
                                      simp only [upd]
                                      split
                                      · rename_i e; subst e
                                        have e1 : (f * 65 + jj) % 65 = jj := by omega
                                        have e2 : (f * 65 + jj) / 65 = f := by omega
                                        rw [e1, e2, decide_eq_true (by refine ⟨rfl, by omega, hj0, by omega, hm⟩), Bool.or_true]
                                      · rename_i e
                                        rw [HQ.out k]
                                        congr 1
                                        apply decide_eq_decide.2
                                        constructor
                                        · rintro ⟨h1, h2, h3, h4, h5⟩; exact ⟨h1, h2, h3, by omega, h5⟩
                                        · rintro ⟨h1, h2, h3, h4, h5⟩; exact ⟨h1, h2, h3, by omega, h5⟩
                                    case measure => simp [intOf]; omega
                                  · first | (exfalso; omega) | (
                                      have hmi : ¬ (((jj : Nat) : Int) - (n : Nat)) % (n3 : Nat) = 0 := by rw [hcast]; omega
                                      clear hcast
                                      go_wp2_with fail
                                      go_roundw
                                      case rel =>
                                        refine ⟨jj + 1, g', by omega, by omega, by simp, hS, hCn, fun k => ?_⟩
                                        rw [HQ.out k]
                                        congr 1
                                        apply decide_eq_decide.2
                                        constructor
                                        · rintro ⟨h1, h2, h3, h4, h5⟩; exact ⟨h1, h2, h3, by omega, h5⟩
                                        · rintro ⟨h1, h2, h3, h4, h5⟩
                                          refine ⟨h1, h2, h3, Nat.lt_of_le_of_ne (by omega) (fun e => hm (by rw [← e]; exact h5)), h5⟩
                                      case measure => simp [intOf]; omega)
                                · have e : jj = n2 + 1 := by omega
                                  subst e
                                  go_wp2_with fail
                                  go_ret
                                  exact ⟨by rw [HG.out]; rfl, hS, by rw [HG.out, ← row_or (by omega) hb63 HQ.out]; exact hCn⟩
                  | cons y3 u3 =>
                    have hne3 := drop_ne hde3
                    rw [if_neg (by simp)] at hIr
                    have H20 : Hid (itemM f l = (0, 20)) := Lib.hid hIr
                    have hneq3 : ¬ ((e3 : Nat) : Int) = (l.length : Nat) := by omega
                    clear hIr hde3
                    go_enter Tryd.func50, Tryd.ntmps50
                    go_wp2_with (first | (go_at_call 48; refine (low_any f hf _).mono ?_; rintro e Wy ⟨rfl, hww⟩; obtain rfl := hww) | (go_at_call 49; refine (high_any f hf _).mono ?_; rintro e Wh ⟨rfl, hbh⟩; have hBW := hBW.trans (hbh.mono hBW.size)) | (go_at_call 70; refine (num_int l hl _ (by omega) (by omega) _).mono ?_; rintro e Wn ⟨rfl, hwn⟩; obtain rfl := hwn; simp only [z1, z2, z3, z4, z5, z6]))
                    go_ret
                    exact ritem_bad H20.out hC hBW
              · have j47 := ne_int (n := 47) (by omega) y27
                have H20 : Hid (itemM f l = (0, 20)) := Lib.hid (by
                  rw [hIr]
                  have : (match y2 :: u2 with
                    | [] => some ((n : Int), (n2 : Int), (1 : Int))
                    | 47 :: x => (rn x).bind fun s => if s.2 = [] then some ((n : Int), (n2 : Int), s.1) else none
                    | _ => none) = none := by
                    split
                    · rename_i e; cases e
                    · rename_i e; injection e with e1 e2; exact absurd e1 y27
                    · rfl
                  exact congrArg (itemOut f) this)
                clear hIr hde2 hdy2
                go_enter Tryd.func50, Tryd.ntmps50
                go_wp2_with (first | (go_at_call 48; refine (low_any f hf _).mono ?_; rintro e Wy ⟨rfl, hww⟩; obtain rfl := hww) | (go_at_call 49; refine (high_any f hf _).mono ?_; rintro e Wh ⟨rfl, hbh⟩; have hBW := hBW.trans (hbh.mono hBW.size)) | (go_at_call 70; refine (num_int l hl _ (by omega) (by omega) _).mono ?_; rintro e Wn ⟨rfl, hwn⟩; obtain rfl := hwn; simp only [z1, z2, z3, z4]))
                go_ret
                exact ritem_bad H20.out hC hBW
        · have i45 := ne_int (n := 45) (by omega) y5
          have H20 : Hid (itemM f l = (0, 20)) := Lib.hid (by
            rw [hIr]
            refine congrArg (itemOut f) (?_ : _ = none)
            split
            · rename_i e; cases e
            · rename_i e; injection e with e1 e2; exact absurd e1 y5
            · rfl)
          clear hIr hde hdy
          go_enter Tryd.func50, Tryd.ntmps50
          go_wp2_with (first | (go_at_call 48; refine (low_any f hf _).mono ?_; rintro e Wy ⟨rfl, hww⟩; obtain rfl := hww) | (go_at_call 49; refine (high_any f hf _).mono ?_; rintro e Wh ⟨rfl, hbh⟩; have hBW := hBW.trans (hbh.mono hBW.size)) | (go_at_call 70; refine (num_int l hl _ (by omega) (by omega) _).mono ?_; rintro e Wn ⟨rfl, hwn⟩; obtain rfl := hwn; simp only [z1, z2]))
          go_ret
          exact ritem_bad H20.out hC hBW

theorem ritem_any (f : Nat) (hf : f < 5) (l : List UInt8) (hl : l.length ≤ 1000000) (g : Nat → Bool) (C : Nat) (W : World) (hC : W.heap[C]? = some (.cells (cellsF g) 47 (0, 0))) :
    Calls Tryd.prog 50 #[.int .i64 f, .string ⟨l.toArray⟩, .pointer (some ⟨C, f * 65, none⟩)] W (RItem f l g C W) := by
  cases hlc : l with
  | nil =>
    subst hlc
    exact ritem_none f hf g C W hC
  | cons x t =>
    rw [← hlc]
    by_cases h : x = 42
    · exact ritem_star f hf l hl g C W hC t (by rw [hlc, h])
    · exact ritem_plain f hf l hl g C W hC x t hlc h
end Go.Proofs.YtgiclhkoajbgpaaDoor
