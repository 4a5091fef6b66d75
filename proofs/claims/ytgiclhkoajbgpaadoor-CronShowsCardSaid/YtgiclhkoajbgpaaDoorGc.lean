/-
  cron: items.
-/
import Derived.Test.YtgiclhkoajbgpaaDoorGb
import Derived.Test.YtgiclhkoajbgpaaDoorShI
import Derived.Test.YtgiclhkoajbgpaaDoorShJ
namespace Go.Proofs.YtgiclhkoajbgpaaDoor
open Go.RowKit

theorem dec_num : ∀ i, i < 100 → Lib.decDigits i = numT i := by decide +kernel
theorem itoa_num (i : Nat) (hi : i < 100) (w : World) : Calls Tryd.prog 75 #[.int .i64 i] w fun e w' => e = .returned (.string ⟨(numT i).toArray⟩) ∧ w = w' := by
  have h := Tryd.strconv_Itoa_small i hi w
  rw [dec_num i hi] at h
  exact h.mono fun e w' ⟨h1, h2⟩ => ⟨h1, h2.symm⟩
theorem join_lib (c : UInt8) : ∀ L : List (List UInt8), Lib.join L [c] = joinL c L
  | [] => rfl
  | [x] => Lib.join_one x [c]
  | x :: y :: t => by
    have ih := join_lib c (y :: t)
    rw [Lib.join_cons] at ih
    rw [Lib.join_cons, joinL, ← ih]
    simp [Lib.joinTail]
theorem joinL_len (c : UInt8) (m : Nat) : ∀ L : List (List UInt8), (∀ x ∈ L, x.length ≤ m) → (joinL c L).length ≤ L.length * (m + 1)
  | [], _ => by simp [joinL]
  | [x], h => by have := h x (by simp); simp [joinL]; omega
  | x :: y :: t, h => by
    have ih := joinL_len c m (y :: t) (fun z hz => h z (List.mem_cons_of_mem _ hz))
    have hx := h x (by simp)
    rw [joinL, List.length_append, List.length_cons]
    simp only [List.length_cons] at ih ⊢
    rw [Nat.add_mul (t.length + 1) 1]
    omega
/-- strings.Join at one byte, of a row of texts of one's own -/
theorem join_own (c : UInt8) (L : List (List UInt8)) (hl : L.length ≤ 1000) (hm : ∀ x ∈ L, x.length ≤ 1000000) (w : World) (base : Nat) (v : Value) (h : OwnStrs w base v L) :
    Calls Tryd.prog 59 #[v, .string ⟨#[c]⟩] w fun e w' => e = .returned (.string ⟨(joinL c L).toArray⟩) ∧ Below w.heap.size w w' := by
  obtain ⟨a, cp, rfl⟩ := strs_form h
  by_cases hn : L = []
  · subst hn
    exact (Tryd.strings_Join_none a cp ⟨#[c]⟩ w).mono fun e w' ⟨h1, h2⟩ => ⟨h1, by rw [h2]; exact Below.refl _ _⟩
  · obtain ⟨g, rfl, hg1, hg2, hcells, -⟩ := strs_cell h (List.length_pos_iff.2 hn)
    have hcap : L.length ≤ cp := by
      rcases h.2 with ⟨h1, h0⟩ | ⟨g', cap', cur, h1, hb, hg, hnc, hrest⟩
      · cases h1
      · cases h1; exact hnc
    have hmap : (L.map fun l => (⟨l.toArray⟩ : ByteArray)).map (·.data.toList) = L := by rw [List.map_map]; simp [Function.comp_def]
    have hj := Tryd.strings_Join g 0 cp (L.map fun l => (⟨l.toArray⟩ : ByteArray)) ⟨#[c]⟩ w (fun j x hx => by
        rw [List.getElem?_map] at hx
        obtain ⟨l, hl', rfl⟩ := Option.map_eq_some_iff.1 hx
        rw [Nat.zero_add]; exact hcells j l hl') hg2 (by simp; omega) (by simpa using hcap)
        (by
          rw [hmap, show (⟨#[c]⟩ : ByteArray).data.toList = [c] from rfl, join_lib]
          have := joinL_len c 1000000 L hm
          have h2 : L.length * (1000000 + 1) ≤ 1000 * (1000000 + 1) := Nat.mul_le_mul_right _ hl
          omega)
    rw [hmap, show (⟨#[c]⟩ : ByteArray).data.toList = [c] from rfl, join_lib] at hj
    simpa using hj

theorem itoa_int (a : Int) (h0 : 0 ≤ a) (h1 : a < 100) (w : World) : Calls Tryd.prog 75 #[.int .i64 a] w fun e w' => e = .returned (.string ⟨(numT a.toNat).toArray⟩) ∧ w = w' := by
  obtain ⟨n, rfl⟩ := Int.eq_ofNat_of_zero_le h0
  exact itoa_num n (by omega) w
theorem xor_max (y : Nat) (hy : y < 18446744073709551616) : bits BinOp.xor IntKind.u64 IntKind.u64.max (y : Int) = ((18446744073709551615 - y : Nat) : Int) := by
  have h2 : (BitVec.ofInt 64 (y : Int)).toNat = y := by
    rw [BitVec.ofInt_natCast, BitVec.toNat_ofNat]; exact Nat.mod_eq_of_lt (by omega)
  have hx : BitVec.ofInt 64 IntKind.u64.max ^^^ BitVec.ofInt 64 (y : Int) = ~~~ BitVec.ofInt 64 (y : Int) := by
    rw [show BitVec.ofInt 64 IntKind.u64.max = BitVec.allOnes 64 by decide, BitVec.allOnes_xor]
  show IntKind.u64.wrap ((BitVec.ofInt 64 IntKind.u64.max ^^^ BitVec.ofInt 64 (y : Int)).toNat : Int) = _
  rw [hx, BitVec.toNat_not, h2, IntKind.wrap_u64]
  omega
/-- the length of the run at the lowest bit -/
theorem run_len {S T n k : Nat} (hb : ∀ m, S.testBit m = true → m < 60) (hT : ∀ m, T.testBit m = (decide (n ≤ m) && S.testBit m)) (hTl : T < 2 ^ 64) (hk : T.testBit k = true) :
    18446744073709551615 - T / 2 ^ k < 18446744073709551616 ∧ 1 ≤ Lib.ctz 64 (18446744073709551615 - T / 2 ^ k) ∧ k + Lib.ctz 64 (18446744073709551615 - T / 2 ^ k) - 1 = ext S.testBit 64 k ∧ ext S.testBit 64 k < 60 := by
  have hp : ∀ j, 64 ≤ j → S.testBit j = false := fun j hj => by
    cases c : S.testBit j
    · rfl
    · have := hb j c; omega
  have hkS : n ≤ k ∧ S.testBit k = true := by
    rw [hT] at hk; simpa using hk
  have hy : T / 2 ^ k < 2 ^ 64 := Nat.lt_of_le_of_lt (Nat.div_le_self _ _) hTl
  have hbit : ∀ j, (18446744073709551615 - T / 2 ^ k).testBit j = (decide (j < 64) && !T.testBit (k + j)) := fun j => by
    rw [show 18446744073709551615 - T / 2 ^ k = 2 ^ 64 - (T / 2 ^ k + 1) by omega, Nat.testBit_two_pow_sub_succ hy, Nat.testBit_div_two_pow, Nat.add_comm]
  have hTS : ∀ j, T.testBit (k + j) = S.testBit (k + j) := fun j => by rw [hT, decide_eq_true (by omega), Bool.true_and]
  have h63 : (18446744073709551615 - T / 2 ^ k).testBit 63 = true := by
    rw [hbit, hTS]
    cases c : S.testBit (k + 63)
    · rfl
    · have := hb _ c; omega
  obtain ⟨c1, c2, c3⟩ := ctz_bit (ne_of_bit h63) (Nat.lt_of_le_of_lt (Nat.sub_le _ _) (by decide))
  generalize Lib.ctz 64 (18446744073709551615 - T / 2 ^ k) = c at *
  obtain ⟨e1, e2, e3, e4⟩ := ext_spec S.testBit hp 64 k hkS.2 (by omega)
  have e5 := hb _ (e2 _ e1 (Nat.le_refl _))
  have f1 : S.testBit (k + c) = false := by
    rw [hbit, hTS] at c1; simpa using (Bool.and_eq_true_iff.1 c1).2
  have f2 : ∀ j, j < c → S.testBit (k + j) = true := fun j hj => by
    have := c2 j hj
    rw [hbit, hTS, decide_eq_true (by omega), Bool.true_and] at this
    simpa using this
  have hc1 : 1 ≤ c := by
    rcases Nat.eq_zero_or_pos c with h | h
    · rw [h, Nat.add_zero, hkS.2] at f1; cases f1
    · exact h
  refine ⟨Nat.lt_of_le_of_lt (Nat.sub_le _ _) (by decide), hc1, ?_, e5⟩
  have g1 : ¬ (ext S.testBit 64 k < k + c - 1) := fun h => by
    have := f2 (ext S.testBit 64 k + 1 - k) (by omega)
    rw [show k + (ext S.testBit 64 k + 1 - k) = ext S.testBit 64 k + 1 by omega, e3] at this; cases this
  have g2 : ¬ (k + c - 1 < ext S.testBit 64 k) := fun h => by
    have := e2 (k + c) (by omega) (by omega)
    rw [f1] at this; cases this
  omega

set_option maxRecDepth 100000 in
set_option maxHeartbeats 1000000 in
theorem items_any (S : Nat) (hb : ∀ n, S.testBit n = true → n < 60) (w : World) (hT : TabT w) :
    Calls Tryd.prog 58 #[.int .u64 S] w fun e w' => e = .returned (.string ⟨(joinL 44 ((runsA S.testBit 0).map runT)).toArray⟩) ∧ Below w.heap.size w w' := by
  have hp : ∀ j, 64 ≤ j → S.testBit j = false := fun j hj => by
    cases c : S.testBit j
    · rfl
    · have := hb j c; omega
  have hS : S < 2 ^ 64 := Nat.lt_pow_two_of_testBit S (fun j hj => hp j hj)
  obtain ⟨i0, hi0, hz0, hz1, hz2⟩ := info9y
  have HI := Lib.hid hi0
  have HZ := Lib.hid hz0
  clear hi0 hz0
  go_enter Tryd.func58, Tryd.ntmps58
  go_wp2_with fail
  go_loopw [0, 3, 4, 5, 6, 7, 8] (fun x0 x3 x4 x5 x6 x7 x8 wr => ∃ (n T : Nat) (R : List (Nat × Nat)), n ≤ 64 ∧ x0 = .int .u64 (T : Nat) ∧ (∀ m, T.testBit m = (decide (n ≤ m) && S.testBit m)) ∧ runsA S.testBit 0 = R ++ runsA S.testBit n ∧ R.length ≤ n ∧ OwnStrs wr w.heap.size x3 (R.map runT) ∧ Below w.heap.size w wr)
    (fun x0 x3 x4 x5 x6 x7 x8 wr => (intOf x0).toNat)
  case atStart => exact ⟨0, S, [], by omega, rfl, fun m => by simp, by simp, by simp, World.ownsRow_nil _ _ _ _, Below.refl _ _⟩
  case round =>
    obtain ⟨n, T, R, hn, rfl, hT2, hR, hRl, own3, hB⟩ := hrel
    have hTl : T < 2 ^ 64 := Nat.lt_pow_two_of_testBit T (fun j hj => by rw [hT2, hp j hj, Bool.and_false])
    have hTw := hT.below hB hT.pos
    obtain ⟨a3, c3, rfl⟩ := strs_form own3
    by_cases h0 : T = 0
    · subst h0
      have hend : runsA S.testBit n = [] := by
        rw [runsA_skip hp (64 - n) n 64 (by omega) (by omega) (fun j h1 h2 => by
          have := hT2 j
          rw [Nat.zero_testBit, decide_eq_true h1, Bool.true_and] at this; exact this.symm), runsA_end (by omega)]
      rw [hend, List.append_nil] at hR
      have hin := runsA_spec hp 64 0 (by omega)
      have hj := join_own 44 (R.map runT) (by simp; omega) (fun x hx => by
        obtain ⟨p, hpm, rfl⟩ := List.mem_map.1 hx
        have := (hin.1 p (by rw [hR]; exact hpm))
        obtain ⟨⟨-, l1⟩, -⟩ := numT_good p.1 (by omega)
        obtain ⟨⟨-, l2⟩, -⟩ := numT_good p.2 (by omega)
        unfold runT
        rw [List.length_append]
        split <;> simp <;> omega) wr w.heap.size _ own3
      have HR := Lib.hid hR
      simp only [List.length_map] at hj
      clear hR hend hin hT2 own3 hb hp hS hTl
      go_wp2_with (go_at_call 59; refine hj.mono ?_; rintro e W ⟨rfl, hb9⟩)
      go_ret
      exact ⟨by rw [HR.out]; rfl, hB.trans (hb9.mono hB.size)⟩
    · obtain ⟨k1, k2, k3⟩ := ctz_bit h0 hTl
      have tz1 := tz_any T (by omega) wr hTw
      generalize Lib.ctz 64 T = k at *
      go_wp2_with fail
      refine tz1.mono ?_
      rintro e Wy ⟨rfl, hww⟩
      obtain rfl := hww
      have hk0 : (0 : Int) ≤ (k : Nat) := by omega
      obtain ⟨r1, r2, r3, r4⟩ := run_len hb hT2 hTl k1
      have hkS : n ≤ k ∧ S.testBit k = true := by
        have := k1; rw [hT2] at this; simpa using this
      have hdiv : ((T : Nat) : Int) / 2 ^ k = ((T / 2 ^ k : Nat) : Int) := by simp
      have tz2 := tz_any _ r1 wr hTw
      rw [← xor_max (T / 2 ^ k) (Nat.lt_of_le_of_lt (Nat.div_le_self _ _) hTl), ← hdiv] at tz2
      generalize Lib.ctz 64 (18446744073709551615 - T / 2 ^ k) = c at *
      have hRn : runsA S.testBit n = (k, ext S.testBit 64 k) :: runsA S.testBit (ext S.testBit 64 k + 1) := by
        rw [runsA_skip hp (k - n) n k (by omega) (by omega) (fun j h1 h2 => by
          have := k2 j h2
          rw [hT2, decide_eq_true h1, Bool.true_and] at this; exact this), runsA_yes hp (by omega) hkS.2]
      have hR' : runsA S.testBit 0 = (R ++ [(k, ext S.testBit 64 k)]) ++ runsA S.testBit (ext S.testBit 64 k + 1) := by rw [hR, hRn]; simp
      have hlast := r3
      generalize ext S.testBit 64 k = last at *
      have hkl : k ≤ last := by omega
      have HR' := Lib.hid hR'
      have HT2 := Lib.hid hT2
      have HB60 := Lib.hid hb
      have hlow : ∀ m, n ≤ m → m < k → S.testBit m = false := fun m h1 h2 => by
        have := k2 m h2
        rw [hT2, decide_eq_true h1, Bool.true_and] at this; exact this
      have HLOW := Lib.hid hlow
      clear hR' hRn hR hT2 k1 k2 hp hb hdiv r1 tz1 hlow
      go_wp2_with fail
      refine tz2.mono ?_
      rintro e Wy ⟨rfl, hww⟩
      obtain rfl := hww
      clear tz2 hTw
      rw [List.length_map] at own3
      have hl60 : last < 60 := r4
      have hc60 : c ≤ 60 := by omega
      have hci : ((k : Nat) : Int) + (c : Nat) - 1 = (last : Nat) := by omega
      have tl : (((k : Nat) : Int) + (c : Nat) - 1).toNat = last := by omega
      have tk : ((k : Nat) : Int).toNat = k := rfl
      have hrow := row_int (k : Nat) (last : Nat) 1 (by omega) (by omega) (by omega) (by omega) (by omega) (by omega)
      simp only [Int.toNat_natCast, show (1 : Int).toNat = 1 from rfl] at hrow
      have hrl : rowM k last 1 < 2 ^ 64 := rowM_lt _ _ _ (by omega)
      have han : bits BinOp.andNot IntKind.u64 ((T : Nat) : Int) ((rowM k last 1 : Nat) : Int) = ((T &&& (18446744073709551615 - rowM k last 1) : Nat) : Int) := u64_andNot_nat _ _ hTl hrl
      obtain ⟨⟨-, lk⟩, -⟩ := numT_good k (by omega)
      obtain ⟨⟨-, ll⟩, -⟩ := numT_good last (by omega)
      have hcat1 : (⟨#[45]⟩ : ByteArray) ++ (⟨(numT last).toArray⟩ : ByteArray) = ⟨(45 :: numT last).toArray⟩ := by apply ByteArray.ext; simp
      have hcat2 : (⟨(numT k).toArray⟩ : ByteArray) ++ (⟨(45 :: numT last).toArray⟩ : ByteArray) = ⟨(numT k ++ 45 :: numT last).toArray⟩ := by apply ByteArray.ext; simp
      have hs1 := fun W => run_string_add_sum (P := Tryd.prog) W ⟨#[45]⟩ ⟨(numT last).toArray⟩ (by simp [ByteArray.size]; omega)
      have hs2 := fun W => run_string_add_sum (P := Tryd.prog) W ⟨(numT k).toArray⟩ ⟨(45 :: numT last).toArray⟩ (by simp [ByteArray.size]; omega)
      rw [hcat1] at hs1
      rw [hcat2] at hs2
      have hTnew : ∀ m, (T &&& (18446744073709551615 - rowM k last 1)).testBit m = (decide (last + 1 ≤ m) && S.testBit m) := fun m => by
        rw [Nat.testBit_and, show 18446744073709551615 - rowM k last 1 = 2 ^ 64 - (rowM k last 1 + 1) by omega, Nat.testBit_two_pow_sub_succ hrl, rowM_bit _ _ _ _ (by omega) (by omega), HT2.out]
        cases cS : S.testBit m
        · simp
        · have hm60 := HB60.out m cS
          simp only [Bool.and_true, decide_eq_true (show m < 64 by omega), Bool.true_and, Nat.mod_one, and_true]
          cases cn : decide (n ≤ m)
          · simp at cn; simp; omega
          · simp at cn
            have := HLOW.out m cn
            simp only [Bool.true_and]
            rw [Bool.eq_iff_iff]
            simp
            constructor
            · rintro (h | h)
              · rw [this h] at cS; cases cS
              · exact h
            · intro h; exact .inr h
      have hnk := hkS.1
      have hmeas : (T &&& (18446744073709551615 - rowM k last 1)) < T := Nat.lt_of_le_of_ne Nat.and_le_left (fun e => by
        have h1 := hTnew k
        rw [e, HT2.out k, decide_eq_true hnk, decide_eq_false (by omega), hkS.2] at h1
        cases h1)
      have HM := Lib.hid hmeas
      have HTN := Lib.hid hTnew
      clear hmeas
      clear hTnew hcat1 hcat2 hkS
      by_cases c1 : 1 < c
      · have c1i : (1 : Int) < (c : Nat) := by omega
        go_wp2_with (first
          | (go_at_call 75; refine (itoa_int _ (by omega) (by omega) _).mono ?_; rintro e Wi ⟨rfl, hwi⟩; obtain rfl := hwi; simp only [Int.toNat_natCast])
          | (go_at_call 67; refine (row_int _ _ _ (by omega) (by omega) (by omega) (by omega) (by omega) (by omega) _).mono ?_; rintro e Wi ⟨rfl, hwi⟩; obtain rfl := hwi; simp only [Int.toNat_natCast, show (1 : Int).toNat = 1 from rfl])
          | (at_builtin; refine wpList_append_own _ rfl _ _ 71 rfl w.heap.size 9 i0 (.string ⟨#[]⟩) 1 16 Tryd.underlying71 HI.out HZ.out hz1 hz2 rfl (by decide) _ _ _ rfl (World.ownsRow.alloc own3 _) ⟨wr.heap.size, 0, none⟩ 1 1 [strV (numT k ++ 45 :: numT last)] rfl rfl (cell_one_new _ _ _) (by simp [Value.oneCell']) (by unfold maxLen; simp; omega) (by simp; omega) (by have := hB.size; simp; omega) ?_; intro v' w1 hown' hgrow _
             have hB1 : Below w.heap.size w w1 := Below.grown (hB.alloc hB.size _) hgrow (by have := hB.size; simp; omega) (fun j hj => (World.ownsRow.lt own3 _ hj).1)
             have hown3 : OwnStrs w1 w.heap.size v' ((R ++ [(k, last)]).map runT) := by
               have e : runT (k, last) = numT k ++ 45 :: numT last := by simp [runT]; omega
               unfold OwnStrs; rw [List.map_append, List.map_cons, List.map_nil, e]; simpa using hown'
             have X : Aside (OwnStrs w1 w.heap.size v' ((R ++ [(k, last)]).map runT) ∧ Below w.heap.size w w1) := ⟨hown3, hB1⟩
             clear hown' hgrow hown3 hB1))
        go_roundw
        case rel => exact ⟨last + 1, _, R ++ [(k, last)], by omega, rfl, HTN.out, HR'.out, by simp; omega, X.out.1, X.out.2⟩
        case measure =>
          have := HM.out
          simpa [intOf] using this
      · have c1i : ¬ (1 : Int) < (c : Nat) := by omega
        go_wp2_with (first
          | (go_at_call 75; refine (itoa_int _ (by omega) (by omega) _).mono ?_; rintro e Wi ⟨rfl, hwi⟩; obtain rfl := hwi; simp only [Int.toNat_natCast])
          | (go_at_call 67; refine (row_int _ _ _ (by omega) (by omega) (by omega) (by omega) (by omega) (by omega) _).mono ?_; rintro e Wi ⟨rfl, hwi⟩; obtain rfl := hwi; simp only [Int.toNat_natCast, show (1 : Int).toNat = 1 from rfl])
          | (at_builtin; refine wpList_append_own _ rfl _ _ 71 rfl w.heap.size 9 i0 (.string ⟨#[]⟩) 1 16 Tryd.underlying71 HI.out HZ.out hz1 hz2 rfl (by decide) _ _ _ rfl (World.ownsRow.alloc own3 _) ⟨wr.heap.size, 0, none⟩ 1 1 [strV (numT k)] rfl rfl (cell_one_new _ _ _) (by simp [Value.oneCell']) (by unfold maxLen; simp; omega) (by simp; omega) (by have := hB.size; simp; omega) ?_; intro v' w1 hown' hgrow _
             have hB1 : Below w.heap.size w w1 := Below.grown (hB.alloc hB.size _) hgrow (by have := hB.size; simp; omega) (fun j hj => (World.ownsRow.lt own3 _ hj).1)
             have hown3 : OwnStrs w1 w.heap.size v' ((R ++ [(k, last)]).map runT) := by
               have e : runT (k, last) = numT k := by simp [runT]; omega
               unfold OwnStrs; rw [List.map_append, List.map_cons, List.map_nil, e]; simpa using hown'
             have X : Aside (OwnStrs w1 w.heap.size v' ((R ++ [(k, last)]).map runT) ∧ Below w.heap.size w w1) := ⟨hown3, hB1⟩
             clear hown' hgrow hown3 hB1))
        go_roundw
        case rel => exact ⟨last + 1, _, R ++ [(k, last)], by omega, rfl, HTN.out, HR'.out, by simp; omega, X.out.1, X.out.2⟩
        case measure =>
          have := HM.out
          simpa [intOf] using this
end Go.Proofs.YtgiclhkoajbgpaaDoor
