/-
  A text parted at a byte: the plain law.
-/
import Derived.Lib.Bytealg
namespace Go.Proofs.YtgiclhkoajbgpaaDoor

/-- the parts of a text between the bytes c -/
def splitL (c : UInt8) : List UInt8 → List (List UInt8)
  | [] => [[]]
  | b :: r => if b == c then [] :: splitL c r else match splitL c r with
    | p :: ps => (b :: p) :: ps
    | [] => [[b]]
theorem splitL_ne (c : UInt8) (l : List UInt8) : ∃ p ps, splitL c l = p :: ps := by
  cases l with
  | nil => exact ⟨_, _, rfl⟩
  | cons b r =>
    unfold splitL
    split
    · exact ⟨_, _, rfl⟩
    · split <;> exact ⟨_, _, rfl⟩
theorem splitL_idx (c : UInt8) : ∀ l : List UInt8, (Go.Lib.indexByte l c = -1 ∧ splitL c l = [l]) ∨
    (∃ i : Nat, i < l.length ∧ Go.Lib.indexByte l c = i ∧ splitL c l = l.take i :: splitL c (l.drop (i + 1)))
  | [] => Or.inl ⟨rfl, rfl⟩
  | b :: r => by
    by_cases h : b = c
    · subst h
      exact Or.inr ⟨0, by simp, by simp [Go.Lib.indexByte], by simp [splitL]⟩
    · have h' : (b == c) = false := by simpa using h
      rcases splitL_idx c r with ⟨h1, h2⟩ | ⟨i, h1, h2, h3⟩
      · exact Or.inl ⟨by simp [Go.Lib.indexByte, h', h1], by simp [splitL, h', h2]⟩
      · refine Or.inr ⟨i + 1, by simp; omega, ?_, by simp [splitL, h', h3]⟩
        have : ((Go.Lib.indexByte r c) == -1) = false := by rw [h2, beq_eq_false_iff_ne]; omega
        simp only [Go.Lib.indexByte, h', this]
        rw [h2]
        simp
end Go.Proofs.YtgiclhkoajbgpaaDoor
