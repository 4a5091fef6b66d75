/-
  The document's number: one or two digits at a place of a text.
-/
import Derived.Test.YtgiclhkoajbgpaaDoorEd
import Derived.Test.YtgiclhkoajbgpaaDoorFb
namespace Go.Proofs.YtgiclhkoajbgpaaDoor
open Go.RowKit

def rnumN (l : List UInt8) (at_ : Nat) : Int := (rnumL (l.drop at_)).1
def rnumE (l : List UInt8) (at_ : Nat) : Int := if (rnumL (l.drop at_)).2 = 0 then -1 else at_ + (rnumL (l.drop at_)).2

theorem str_at {l : List UInt8} {i : Nat} {x : UInt8} (h : l[i]? = some x) : i < l.length ∧ ∀ hi, (⟨l.toArray⟩ : ByteArray)[i]'hi = x := by
  obtain ⟨h1, h2⟩ := List.getElem?_eq_some_iff.1 h
  exact ⟨h1, fun _ => h2⟩
theorem dig_yes {a : UInt8} (h : isDig a = true) : (48 : Int) ≤ a.toNat ∧ (a.toNat : Int) ≤ 57 := by
  simp [isDig] at h; omega
theorem dig_no {a : UInt8} (h : isDig a = false) : (a.toNat : Int) < 48 ∨ ((48 : Int) ≤ a.toNat ∧ (57 : Int) < a.toNat) := by
  simp [isDig] at h; omega

set_option maxRecDepth 100000 in
set_option maxHeartbeats 1000000 in
theorem rnumber_any (l : List UInt8) (at_ : Nat) (hl : l.length ≤ 1000000) (ha : at_ ≤ l.length) (w : World) :
    Calls Tryd.prog 70 #[.string ⟨l.toArray⟩, .int .i64 at_] w fun e w' => e = .returned (.tuple #[.int .i64 (rnumN l at_), .int .i64 (rnumE l at_)]) ∧ w = w' := by
  have hsz : (⟨l.toArray⟩ : ByteArray).size = l.length := by simp [ByteArray.size]
  have h9 : at_ ≤ 1000000 := by omega
  cases ht : l.drop at_ with
  | nil =>
    have e : at_ = l.length := by have := congrArg List.length ht; simp at this; omega
    have r : rnumN l at_ = 0 ∧ rnumE l at_ = -1 := by simp [rnumN, rnumE, ht, rnumL]
    have R := Lib.hid r
    clear r
    subst e
    go_enter Tryd.func70, Tryd.ntmps70
    go_wp2_with fail
    refine wp_loop_rounds 1 ?_
    rw [rounds_succ]
    go_wp2_with fail
    go_ret2
    exact ⟨by rw [R.out.1, R.out.2]; first | rfl | (simp; try omega), rfl⟩
  | cons a t =>
    have g0 : l[at_]? = some a := by have := congrArg (·[0]?) ht; simpa using this
    obtain ⟨h0, x0⟩ := str_at g0
    have a256 : (a.toNat : Int) < 256 := by have := a.toNat_lt; omega
    have h0' : ((at_ : Nat) : Int) < l.length := by omega
    cases ca : isDig a
    · have r : rnumN l at_ = 0 ∧ rnumE l at_ = -1 := by simp [rnumN, rnumE, ht, rnumL, ca]
      have R := Lib.hid r
      clear r
      rcases dig_no ca with d1 | ⟨d1, d2⟩ <;> (
        go_enter Tryd.func70, Tryd.ntmps70
        go_wp2_with fail
        refine wp_loop_rounds 1 ?_
        rw [rounds_succ]
        go_wp2_with fail
        go_ret2
        exact ⟨by rw [R.out.1, R.out.2]; first | rfl | (simp; try omega), rfl⟩)
    · obtain ⟨d1, d2⟩ := dig_yes ca
      cases t with
      | nil =>
        have r : rnumN l at_ = (a.toNat : Int) - 48 ∧ rnumE l at_ = at_ + 1 := by simp [rnumN, rnumE, ht, rnumL, ca, numM]
        have R := Lib.hid r
        clear r
        have e : l.length = at_ + 1 := by have := congrArg List.length ht; simp at this; omega
        go_enter Tryd.func70, Tryd.ntmps70
        go_wp2_with fail
        refine wp_loop_rounds 2 ?_
        rw [rounds_succ]
        go_wp2_with fail
        rw [rounds_succ]
        go_wp2_with fail
        go_ret2
        exact ⟨by rw [R.out.1, R.out.2]; first | rfl | (simp; try omega), rfl⟩
      | cons b u =>
        have g1 : l[at_ + 1]? = some b := by have := congrArg (·[1]?) ht; simpa using this
        obtain ⟨h1, x1⟩ := str_at g1
        have b256 : (b.toNat : Int) < 256 := by have := b.toNat_lt; omega
        have h1' : ((at_ : Nat) : Int) + 1 < l.length := by omega
        cases cb : isDig b
        · have r : rnumN l at_ = (a.toNat : Int) - 48 ∧ rnumE l at_ = at_ + 1 := by simp [rnumN, rnumE, ht, rnumL, ca, cb, numM]
          have R := Lib.hid r
          clear r
          rcases dig_no cb with d3 | ⟨d3, d4⟩ <;> (
            go_enter Tryd.func70, Tryd.ntmps70
            go_wp2_with fail
            refine wp_loop_rounds 2 ?_
            rw [rounds_succ]
            go_wp2_with fail
            rw [rounds_succ]
            go_wp2_with fail
            go_ret2
            exact ⟨by rw [R.out.1, R.out.2]; first | rfl | (simp; try omega), rfl⟩)
        · obtain ⟨d3, d4⟩ := dig_yes cb
          cases u with
          | nil =>
            have r : rnumN l at_ = ((a.toNat : Int) - 48) * 10 + (b.toNat : Int) - 48 ∧ rnumE l at_ = at_ + 2 := by simp [rnumN, rnumE, ht, rnumL, ca, cb, numM]
            have R := Lib.hid r
            clear r
            have e : l.length = at_ + 2 := by have := congrArg List.length ht; simp at this; omega
            go_enter Tryd.func70, Tryd.ntmps70
            go_wp2_with fail
            refine wp_loop_rounds 3 ?_
            rw [rounds_succ]
            go_wp2_with fail
            rw [rounds_succ]
            go_wp2_with fail
            rw [rounds_succ]
            go_wp2_with fail
            go_ret2
            exact ⟨by rw [R.out.1, R.out.2]; first | rfl | (simp; try omega), rfl⟩
          | cons c v =>
            have g2 : l[at_ + 2]? = some c := by have := congrArg (·[2]?) ht; simpa using this
            obtain ⟨h2, x2⟩ := str_at g2
            have c256 : (c.toNat : Int) < 256 := by have := c.toNat_lt; omega
            have h2' : ((at_ : Nat) : Int) + 1 + 1 < l.length := by omega
            cases cc : isDig c
            · have r : rnumN l at_ = ((a.toNat : Int) - 48) * 10 + (b.toNat : Int) - 48 ∧ rnumE l at_ = at_ + 2 := by simp [rnumN, rnumE, ht, rnumL, ca, cb, cc, numM]
              have R := Lib.hid r
              clear r
              rcases dig_no cc with d5 | ⟨d5, d6⟩ <;> (
                go_enter Tryd.func70, Tryd.ntmps70
                go_wp2_with fail
                refine wp_loop_rounds 3 ?_
                rw [rounds_succ]
                go_wp2_with fail
                rw [rounds_succ]
                go_wp2_with fail
                rw [rounds_succ]
                go_wp2_with fail
                go_ret2
                exact ⟨by rw [R.out.1, R.out.2]; first | rfl | (simp; try omega), rfl⟩)
            · have r : rnumN l at_ = 0 ∧ rnumE l at_ = -1 := by simp [rnumN, rnumE, ht, rnumL, ca, cb, cc]
              have R := Lib.hid r
              clear r
              obtain ⟨d5, d6⟩ := dig_yes cc
              go_enter Tryd.func70, Tryd.ntmps70
              go_wp2_with fail
              refine wp_loop_rounds 3 ?_
              rw [rounds_succ]
              go_wp2_with fail
              rw [rounds_succ]
              go_wp2_with fail
              rw [rounds_succ]
              go_wp2_with fail
              go_ret2
              exact ⟨by rw [R.out.1, R.out.2]; first | rfl | (simp; try omega), rfl⟩
end Go.Proofs.YtgiclhkoajbgpaaDoor
