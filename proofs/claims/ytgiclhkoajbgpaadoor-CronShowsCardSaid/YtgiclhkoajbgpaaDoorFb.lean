/-
  An item by the document is an item by the program: the plain law.
-/
import Derived.Test.YtgiclhkoajbgpaaDoorDb
namespace Go.Proofs.YtgiclhkoajbgpaaDoor
open Go.RowKit

/-- the number at the head of a text, and how many bytes it takes; 0: there is none -/
def rnumL : List UInt8 → Int × Nat
  | [] => (0, 0)
  | a :: t => if isDig a then (match t with
      | [] => (numM [a], 1)
      | b :: u => if isDig b then (match u with
          | [] => (numM [a, b], 2)
          | c :: _ => if isDig c then (0, 0) else (numM [a, b], 2))
        else (numM [a], 1)) else (0, 0)
/-- a number at the head of a text, and what stands behind it -/
def rn (l : List UInt8) : Option (Int × List UInt8) := if (rnumL l).2 = 0 then none else some ((rnumL l).1, l.drop (rnumL l).2)
/-- the document's item: from, to, step; none: a wrong form -/
def ritemT (lo hi : Int) (l : List UInt8) : Option (Int × Int × Int) :=
  match l with
  | 42 :: t => match t with
    | 47 :: u => (rn u).bind fun p => if p.2 = [] then some (lo, hi, p.1) else none
    | _ => none
  | l => (rn l).bind fun p => match p.2 with
    | [] => some (p.1, p.1, 1)
    | 45 :: u => (rn u).bind fun q => match q.2 with
      | [] => some (p.1, q.1, 1)
      | 47 :: x => (rn x).bind fun s => if s.2 = [] then some (p.1, q.1, s.1) else none
      | _ => none
    | _ => none
/-- digits, and then none -/
structure Dig (l ds r : List UInt8) : Prop where
  eq : l = ds ++ r
  dig : ∀ x ∈ ds, isDig x = true
  hd : ∀ x t, r = x :: t → isDig x = false
theorem dig_ex : ∀ l : List UInt8, ∃ ds r, Dig l ds r
  | [] => ⟨[], [], rfl, fun _ h => (by cases h), fun _ _ h => (by cases h)⟩
  | x :: t => by
    cases h : isDig x
    · exact ⟨[], x :: t, rfl, fun _ h => (by cases h), fun y u e => by cases e; exact h⟩
    · obtain ⟨ds, r, e, h1, h2⟩ := dig_ex t
      exact ⟨x :: ds, r, by rw [e]; rfl, fun y hy => (List.mem_cons.1 hy).elim (fun e => e ▸ h) (h1 y), h2⟩
theorem numM_bad {l : List UInt8} {x : UInt8} (hx : x ∈ l) (h : isDig x = false) : numM l = -1 := by
  match l with
  | [a] => rcases List.mem_singleton.1 hx with rfl; simp [numM, h]
  | [a, b] =>
    simp only [List.mem_cons, List.not_mem_nil, or_false] at hx
    rcases hx with rfl | rfl
    · simp [numM, h]
    · simp [numM, h]
  | [] => rfl
  | a :: b :: c :: t => rfl
theorem numM_ge {ds : List UInt8} (hd : ∀ x ∈ ds, isDig x = true) (h : ds.length = 1 ∨ ds.length = 2) : 0 ≤ numM ds := by
  match ds, h with
  | [a], _ =>
    have ha := hd a (by simp)
    have h1 : 48 ≤ a.toNat := by simp [isDig] at ha; exact ha.1
    simp only [numM, ha, if_true]; omega
  | [a, b], _ =>
    have ha := hd a (by simp)
    have hb := hd b (by simp)
    have h1 : 48 ≤ a.toNat := by simp [isDig] at ha; exact ha.1
    have h2 : 48 ≤ b.toNat := by simp [isDig] at hb; exact hb.1
    simp only [numM, ha, hb, if_true]; omega
theorem numM_len {ds : List UInt8} (h : ¬ (ds.length = 1 ∨ ds.length = 2)) : numM ds = -1 := by
  match ds with
  | [] => rfl
  | [a] => simp at h
  | [a, b] => simp at h
  | a :: b :: c :: t => rfl
theorem rn_dig {l ds r : List UInt8} (h : Dig l ds r) : rn l = if ds.length = 1 ∨ ds.length = 2 then some (numM ds, r) else none := by
  obtain ⟨rfl, hd, hr⟩ := h
  match ds with
  | [] =>
    cases r with
    | nil => rfl
    | cons x t => simp [rn, rnumL, hr x t rfl]
  | [a] =>
    have ha := hd a (by simp)
    cases r with
    | nil => simp [rn, rnumL, ha]
    | cons x t => simp [rn, rnumL, ha, hr x t rfl]
  | [a, b] =>
    have ha := hd a (by simp)
    have hb := hd b (by simp)
    cases r with
    | nil => simp [rn, rnumL, ha, hb]
    | cons x t => simp [rn, rnumL, ha, hb, hr x t rfl]
  | a :: b :: c :: u =>
    have ha := hd a (by simp)
    have hb := hd b (by simp)
    have hc := hd c (by simp)
    simp [rn, rnumL, ha, hb, hc]
theorem cutL_nil (c : UInt8) : cutL c [] = ([], [], false) := rfl
theorem cutL_cons (c x : UInt8) (t : List UInt8) : cutL c (x :: t) = if x = c then ([], t, true) else (x :: (cutL c t).1, (cutL c t).2.1, (cutL c t).2.2) := by
  by_cases h : x = c
  · subst h; simp [cutL, Lib.indexByte]
  · rw [if_neg h]
    have h' : (x == c) = false := by simpa using h
    by_cases e : Lib.indexByte t c = -1
    · have : Lib.indexByte (x :: t) c = -1 := by simp [Lib.indexByte, h', e]
      simp [cutL, this, e]
    · have hge : 0 ≤ Lib.indexByte t c := by
        clear h h'
        induction t with
        | nil => exact absurd rfl e
        | cons y u ih =>
          simp only [Lib.indexByte] at e ⊢
          split
          · omega
          · split
            · rename_i h1 h2; simp [h1, h2] at e
            · rename_i h1 h2
              have := ih (by simpa using h2)
              omega
      have h2 : (Lib.indexByte t c == -1) = false := by simpa using e
      have e1 : Lib.indexByte (x :: t) c = Lib.indexByte t c + 1 := by simp [Lib.indexByte, h', h2]
      have e2 : ¬ (Lib.indexByte t c + 1 = -1) := by omega
      have e3 : (Lib.indexByte t c + 1).toNat = (Lib.indexByte t c).toNat + 1 := by omega
      simp [cutL, e1, e2, e3, e]
theorem cutL_dig (c : UInt8) (hc : isDig c = false) (ds r : List UInt8) (hd : ∀ x ∈ ds, isDig x = true) : cutL c (ds ++ r) = (ds ++ (cutL c r).1, (cutL c r).2.1, (cutL c r).2.2) := by
  induction ds with
  | nil => rfl
  | cons x t ih =>
    have hx : x ≠ c := fun e => by rw [← e, hd x (by simp)] at hc; cases hc
    rw [List.cons_append, cutL_cons, if_neg hx, ih (fun y hy => hd y (by simp [hy]))]
    rfl

/-- from, to and step of an item whose star is none -/
def ritemG (l : List UInt8) : Option (Int × Int × Int) :=
  (rn l).bind fun p => match p.2 with
    | [] => some (p.1, p.1, 1)
    | 45 :: u => (rn u).bind fun q => match q.2 with
      | [] => some (p.1, q.1, 1)
      | 47 :: x => (rn x).bind fun s => if s.2 = [] then some (p.1, q.1, s.1) else none
      | _ => none
    | _ => none
theorem ritemT_no (lo hi : Int) (l : List UInt8) (h : ∀ t, l ≠ 42 :: t) : ritemT lo hi l = ritemG l := by
  unfold ritemT ritemG
  split
  · rename_i t; exact absurd rfl (h t)
  · rfl
theorem rn_whole (u : List UInt8) (g : Int → Int × Int × Int) : ((rn u).bind fun p => if p.2 = [] then some (g p.1) else none) = if 0 ≤ numM u then some (g (numM u)) else none := by
  obtain ⟨ds, r, h⟩ := dig_ex u
  rw [rn_dig h]
  obtain ⟨rfl, hd, hr⟩ := h
  cases r with
  | nil =>
    rw [List.append_nil]
    by_cases c : ds.length = 1 ∨ ds.length = 2
    · rw [if_pos c, if_pos (numM_ge hd c)]; simp
    · rw [if_neg c, numM_len c]; simp
  | cons x t =>
    rw [numM_bad (l := ds ++ x :: t) (x := x) (by simp) (hr x t rfl)]
    by_cases c : ds.length = 1 ∨ ds.length = 2
    · rw [if_pos c]; simp
    · rw [if_neg c]; simp
theorem item_bad (f : Nat) (l : List UInt8) (hs : ¬ ((cutL 47 l).1 = [42] ∧ (cutL 47 l).2.2 = true))
    (h : numM (cutL 45 (cutL 47 l).1).1 < 0 ∨ ((cutL 45 (cutL 47 l).1).2.2 = true ∧ numM (cutL 45 (cutL 47 l).1).2.1 < 0) ∨ ((cutL 47 l).2.2 = true ∧ (cutL 45 (cutL 47 l).1).2.2 = false)) : itemM f l = (0, 20) := by
  unfold itemM
  generalize cutL 47 l = c at *
  obtain ⟨span, by', stepped⟩ := c
  simp only at hs h ⊢
  generalize cutL 45 span = d at *
  obtain ⟨a, b, ranged⟩ := d
  simp only at hs h ⊢
  have hst : decide (span = [42] ∧ stepped = true) = false := decide_eq_false hs
  rw [hst]
  cases stepped <;> cases ranged <;> simp at h ⊢ <;> (try split) <;> simp_all <;> omega
/-- the numbers that an item stands for -/
def itemOut (f : Nat) : Option (Int × Int × Int) → Nat × Int
  | none => (0, 20)
  | some (a, b, s) => if a < loM f ∨ hiM f < b ∨ b < a ∨ s < 1 ∨ 59 < s then (0, 30) else (rowM a.toNat b.toNat s.toNat, 0)
theorem d42 : isDig 42 = false := by decide
theorem d45 : isDig 45 = false := by decide
theorem d47 : isDig 47 = false := by decide
theorem cutL_own (c : UInt8) (hc : isDig c = false) (ds : List UInt8) (hd : ∀ x ∈ ds, isDig x = true) : cutL c ds = (ds, [], false) := by
  have := cutL_dig c hc ds [] hd
  rw [List.append_nil] at this
  rw [this, cutL_nil, List.append_nil]
theorem cutL_at (c : UInt8) (hc : isDig c = false) (ds t : List UInt8) (hd : ∀ x ∈ ds, isDig x = true) : cutL c (ds ++ c :: t) = (ds, t, true) := by
  rw [cutL_dig c hc ds _ hd, cutL_cons, if_pos rfl, List.append_nil]
theorem cutL_past (c : UInt8) (hc : isDig c = false) (ds : List UInt8) (x : UInt8) (t : List UInt8) (hd : ∀ y ∈ ds, isDig y = true) (hx : x ≠ c) : cutL c (ds ++ x :: t) = (ds ++ x :: (cutL c t).1, (cutL c t).2.1, (cutL c t).2.2) := by
  rw [cutL_dig c hc ds _ hd, cutL_cons, if_neg hx]

theorem itemM_ref (f : Nat) (l : List UInt8) : itemM f l = itemOut f (ritemT (loM f) (hiM f) l) := by
  by_cases hstar : ∃ t, l = 42 :: t
  · obtain ⟨t, rfl⟩ := hstar
    have h42 : cutL 47 (42 :: t) = (42 :: (cutL 47 t).1, (cutL 47 t).2.1, (cutL 47 t).2.2) := by rw [cutL_cons, if_neg (by decide)]
    cases t with
    | nil => 
      rw [item_bad f [42] (by rw [h42, cutL_nil]; simp) (by rw [h42, cutL_nil]; left; decide)]
      rfl
    | cons x u =>
      by_cases hx : x = 47
      · subst hx
        have e : cutL 47 (42 :: 47 :: u) = ([42], u, true) := by rw [h42, cutL_cons, if_pos rfl]
        have er : ritemT (loM f) (hiM f) (42 :: 47 :: u) = if 0 ≤ numM u then some ((loM f : Int), (hiM f : Int), numM u) else none := rn_whole u fun z => ((loM f : Int), (hiM f : Int), z)
        rw [er]
        unfold itemM
        rw [e]
        by_cases c : 0 ≤ numM u
        · rw [if_pos c]
          have c' : ¬ numM u < 0 := by omega
          simp [itemOut, c']
        · rw [if_neg c]
          have c' : numM u < 0 := by omega
          simp [itemOut, c']
      · have er : ritemT (loM f) (hiM f) (42 :: x :: u) = none := by
          unfold ritemT
          split
          · rename_i t' e; injection e with e1 e2; subst e2
            split
            · rename_i u' e; injection e with e1 e2; exact absurd e1 hx
            · rfl
          · rename_i h; exact absurd rfl (h _)
        have e : cutL 47 (42 :: x :: u) = (42 :: x :: (cutL 47 u).1, (cutL 47 u).2.1, (cutL 47 u).2.2) := by rw [h42, cutL_cons, if_neg hx]
        rw [er, item_bad f _ (by rw [e]; simp) (by rw [e, cutL_cons, if_neg (by decide)]; left; rw [numM_bad (x := 42) (by simp) d42]; decide)]
        rfl
  · have hno : ∀ t, l ≠ 42 :: t := fun t e => hstar ⟨t, e⟩
    rw [ritemT_no _ _ _ hno]
    obtain ⟨ds, r, hD⟩ := dig_ex l
    have hrn := rn_dig hD
    obtain ⟨rfl, hd, hr⟩ := hD
    have hds : ds ≠ [42] := fun e => by have := hd 42 (by rw [e]; simp); rw [d42] at this; cases this
    cases r with
    | nil =>
      rw [List.append_nil] at hrn ⊢
      have e7 := cutL_own 47 d47 ds hd
      have e5 := cutL_own 45 d45 ds hd
      by_cases c : ds.length = 1 ∨ ds.length = 2
      · have hg := numM_ge hd c
        unfold ritemG
        rw [hrn, if_pos c]
        unfold itemM
        rw [e7]
        simp only []
        rw [e5]
        have hg' : ¬ numM ds < 0 := by omega
        simp [itemOut, hds, hg']
      · rw [item_bad f ds (by rw [e7]; simp) (by rw [e7, e5, numM_len c]; left; decide)]
        unfold ritemG
        rw [hrn, if_neg c]
        rfl
    | cons x t =>
      have hx := hr x t rfl
      by_cases h7 : x = 47
      · subst h7
        have e7 := cutL_at 47 d47 ds t hd
        have e5 := cutL_own 45 d45 ds hd
        rw [item_bad f _ (by rw [e7]; simp [hds]) (by rw [e7, e5]; right; right; simp)]
        unfold ritemG
        rw [hrn]
        by_cases c : ds.length = 1 ∨ ds.length = 2
        · rw [if_pos c]; rfl
        · rw [if_neg c]; rfl
      · by_cases h5 : x = 45
        · subst h5
          obtain ⟨ds2, r2, hD2⟩ := dig_ex t
          have hrn2 := rn_dig hD2
          obtain ⟨rfl, hd2, hr2⟩ := hD2
          have e7' := cutL_past 47 d47 ds 45 (ds2 ++ r2) hd (by decide)
          have hsp : ∀ z : List UInt8, ds ++ 45 :: z ≠ [42] := fun z e => by
            cases ds with
            | nil => simp at e
            | cons y u => simp at e
          have e5' : ∀ z, cutL 45 (ds ++ 45 :: z) = (ds, z, true) := fun z => cutL_at 45 d45 ds z hd
          cases r2 with
          | nil =>
            have e7 : cutL 47 (ds ++ 45 :: (ds2 ++ [])) = (ds ++ 45 :: ds2, [], false) := by rw [e7', List.append_nil, cutL_own 47 d47 ds2 hd2]
            rw [List.append_nil] at *
            by_cases c : ds.length = 1 ∨ ds.length = 2
            · by_cases c2 : ds2.length = 1 ∨ ds2.length = 2
              · have hg := numM_ge hd c
                have hg2 := numM_ge hd2 c2
                have hg' : ¬ numM ds < 0 := by omega
                have hg2' : ¬ numM ds2 < 0 := by omega
                unfold ritemG
                rw [hrn, if_pos c]
                simp only [Option.bind_some]
                rw [hrn2, if_pos c2]
                unfold itemM
                rw [e7]
                simp only []
                rw [e5']
                simp [itemOut, hg', hg2']
              · rw [item_bad f _ (by rw [e7]; simp) (by rw [e7]; simp only []; rw [e5', numM_len c2]; right; left; simp)]
                unfold ritemG
                rw [hrn, if_pos c]
                simp only [Option.bind_some]
                rw [hrn2, if_neg c2]
                rfl
            · rw [item_bad f _ (by rw [e7]; simp) (by rw [e7]; simp only []; rw [e5', numM_len c]; left; simp)]
              unfold ritemG
              rw [hrn, if_neg c]
              rfl
          | cons y u =>
            have hy := hr2 y u rfl
            by_cases y7 : y = 47
            · subst y7
              have e7 : cutL 47 (ds ++ 45 :: (ds2 ++ 47 :: u)) = (ds ++ 45 :: ds2, u, true) := by rw [e7', cutL_at 47 d47 ds2 u hd2]
              by_cases c : ds.length = 1 ∨ ds.length = 2
              · by_cases c2 : ds2.length = 1 ∨ ds2.length = 2
                · have hg := numM_ge hd c
                  have hg2 := numM_ge hd2 c2
                  have hg' : ¬ numM ds < 0 := by omega
                  have hg2' : ¬ numM ds2 < 0 := by omega
                  have hw := rn_whole u fun z => (numM ds, numM ds2, z)
                  unfold ritemG
                  rw [hrn, if_pos c]
                  simp only [Option.bind_some]
                  rw [hrn2, if_pos c2]
                  simp only [Option.bind_some]
                  rw [hw]
                  unfold itemM
                  rw [e7]
                  simp only []
                  rw [e5']
                  by_cases cu : 0 ≤ numM u
                  · have cu' : ¬ numM u < 0 := by omega
                    simp [itemOut, hg', hg2', cu, cu', hsp]
                  · have cu' : numM u < 0 := by omega
                    simp [itemOut, cu, cu']
                · rw [item_bad f _ (by rw [e7]; simp [hsp]) (by rw [e7]; simp only []; rw [e5', numM_len c2]; right; left; simp)]
                  unfold ritemG
                  rw [hrn, if_pos c]
                  simp only [Option.bind_some]
                  rw [hrn2, if_neg c2]
                  rfl
              · rw [item_bad f _ (by rw [e7]; simp [hsp]) (by rw [e7]; simp only []; rw [e5', numM_len c]; left; simp)]
                unfold ritemG
                rw [hrn, if_neg c]
                rfl
            · have e7 : cutL 47 (ds ++ 45 :: (ds2 ++ y :: u)) = (ds ++ 45 :: (ds2 ++ y :: (cutL 47 u).1), (cutL 47 u).2.1, (cutL 47 u).2.2) := by rw [e7', cutL_past 47 d47 ds2 y u hd2 y7]
              rw [item_bad f _ (by rw [e7]; simp [hsp]) (by rw [e7]; simp only []; rw [e5']; right; left; exact ⟨rfl, by rw [numM_bad (l := ds2 ++ y :: (cutL 47 u).1) (x := y) (by simp) hy]; decide⟩)]
              unfold ritemG
              rw [hrn]
              by_cases c : ds.length = 1 ∨ ds.length = 2
              · rw [if_pos c]
                simp only [Option.bind_some]
                rw [hrn2]
                by_cases c2 : ds2.length = 1 ∨ ds2.length = 2
                · rw [if_pos c2]
                  simp only [Option.bind_some]
                  split
                  · rename_i e; cases e
                  · rename_i e; injection e with e1 e2; exact absurd e1 y7
                  · rfl
                · rw [if_neg c2]; rfl
              · rw [if_neg c]; rfl
        · have e7 := cutL_past 47 d47 ds x t hd h7
          have hsp : ∀ z : List UInt8, ds ++ x :: z ≠ [42] := fun z e => by
            cases ds with
            | nil => simp at e; exact hno t (by rw [e.1]; rfl)
            | cons y u => simp at e
          have e5 := cutL_past 45 d45 ds x (cutL 47 t).1 hd h5
          rw [item_bad f _ (by rw [e7]; simp [hsp]) (by rw [e7]; simp only []; rw [e5, numM_bad (x := x) (by simp) hx]; left; simp)]
          unfold ritemG
          rw [hrn]
          by_cases c : ds.length = 1 ∨ ds.length = 2
          · rw [if_pos c]
            simp only [Option.bind_some]
            split
            · rename_i e; cases e
            · rename_i e; injection e with e1 e2; exact absurd e1 h5
            · rfl
          · rw [if_neg c]; rfl
end Go.Proofs.YtgiclhkoajbgpaaDoor
