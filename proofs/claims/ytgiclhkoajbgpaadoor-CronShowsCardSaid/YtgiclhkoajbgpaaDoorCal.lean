/-
  The plain law of calendar dates: days, months and years as numbers. No program stands here.
-/
namespace Go.Proofs.YtgiclhkoajbgpaaDoor.Cal

/-- 1 in a leap year. -/
def lp (y : Int) : Int := if y % 4 = 0 ∧ (y % 100 ≠ 0 ∨ y % 400 = 0) then 1 else 0
/-- the leap years ahead of year 2000 + n -/
def lps (n : Int) : Int := (n + 3) / 4 - (n + 99) / 100 + (n + 399) / 400
/-- the days ahead of year 2000 + n -/
def ys (n : Int) : Int := n * 365 + lps n
/-- the days of a month -/
def dim (y m : Int) : Int := if m < 1 ∨ 12 < m then 0 else if m = 2 then 28 + lp y else if m = 4 ∨ m = 6 ∨ m = 9 ∨ m = 11 then 30 else 31
def cumN (m : Int) : Int :=
  if m ≤ 1 then 0 else if m = 2 then 31 else if m = 3 then 59 else if m = 4 then 90 else if m = 5 then 120 else if m = 6 then 151
  else if m = 7 then 181 else if m = 8 then 212 else if m = 9 then 243 else if m = 10 then 273 else if m = 11 then 304 else if m = 12 then 334 else 365
/-- the days ahead of a month in its year -/
def cum (y m : Int) : Int := cumN m + if 2 < m then lp y else 0

theorem lp_01 (y : Int) : 0 ≤ lp y ∧ lp y ≤ 1 := by unfold lp; split <;> omega
theorem ys_succ (n : Int) (_h : 0 ≤ n) : ys (n + 1) = ys n + 365 + lp (2000 + n) := by
  unfold ys lps lp; split <;> omega
theorem ys_zero : ys 0 = 0 := by decide
theorem ys_mono (a b : Int) (_h0 : 0 ≤ a) (h : a ≤ b) : ys a ≤ ys b := by unfold ys lps; omega
theorem ys_step (a b : Int) (h0 : 0 ≤ a) (h : a < b) : ys (a + 1) ≤ ys b := ys_mono _ _ (by omega) (by omega)
theorem ys_ge (n : Int) (h : 0 ≤ n) : n ≤ ys n ∧ n * 365 ≤ ys n := by unfold ys lps; omega
theorem ys_le (n : Int) (h : 0 ≤ n) : ys n ≤ n * 366 := by unfold ys lps; omega
theorem ys_bd (n : Int) (h : 0 ≤ n) (h' : n ≤ 5001) : 0 ≤ ys n ∧ ys n ≤ 1830366 := by
  have a := ys_ge n h; have b := ys_le n h; omega
theorem ys_cycle (q k : Int) (_hq : 0 ≤ q) (_hk : 0 ≤ k) : ys (q * 400 + k) = q * 146097 + ys k := by unfold ys lps; omega
theorem dim_bd (y m : Int) (h1 : 1 ≤ m) (h2 : m ≤ 12) : 28 ≤ dim y m ∧ dim y m ≤ 31 := by
  have := lp_01 y
  unfold dim; rw [if_neg (by omega)]; split
  · omega
  · split <;> omega
theorem dim_le (y m : Int) : 0 ≤ dim y m ∧ dim y m ≤ 31 := by
  by_cases h : 1 ≤ m ∧ m ≤ 12
  · have := dim_bd y m h.1 h.2; omega
  · unfold dim; rw [if_pos (by omega)]; omega
theorem cum_succ (y m : Int) (h1 : 1 ≤ m) (h2 : m ≤ 12) : cum y (m + 1) = cum y m + dim y m := by
  have : m = 1 ∨ m = 2 ∨ m = 3 ∨ m = 4 ∨ m = 5 ∨ m = 6 ∨ m = 7 ∨ m = 8 ∨ m = 9 ∨ m = 10 ∨ m = 11 ∨ m = 12 := by omega
  rcases this with rfl | rfl | rfl | rfl | rfl | rfl | rfl | rfl | rfl | rfl | rfl | rfl <;> simp [cum, cumN, dim] <;> omega
theorem cum_one (y : Int) : cum y 1 = 0 := by simp [cum, cumN]
theorem cum_13 (y : Int) : cum y 13 = 365 + lp y := by simp [cum, cumN]
theorem cum_bd (y m : Int) (h1 : 1 ≤ m) (h2 : m ≤ 13) : 0 ≤ cum y m ∧ cum y m ≤ 366 := by
  have := lp_01 y
  have a : m = 1 ∨ m = 2 ∨ m = 3 ∨ m = 4 ∨ m = 5 ∨ m = 6 ∨ m = 7 ∨ m = 8 ∨ m = 9 ∨ m = 10 ∨ m = 11 ∨ m = 12 ∨ m = 13 := by omega
  rcases a with rfl | rfl | rfl | rfl | rfl | rfl | rfl | rfl | rfl | rfl | rfl | rfl | rfl <;> simp [cum, cumN] <;> omega
theorem cum_mono (y m k : Int) (h1 : 1 ≤ m) (h : m ≤ k) (h2 : k ≤ 13) : cum y m ≤ cum y k := by
  have := lp_01 y
  have a : m = 1 ∨ m = 2 ∨ m = 3 ∨ m = 4 ∨ m = 5 ∨ m = 6 ∨ m = 7 ∨ m = 8 ∨ m = 9 ∨ m = 10 ∨ m = 11 ∨ m = 12 ∨ m = 13 := by omega
  have b : k = 1 ∨ k = 2 ∨ k = 3 ∨ k = 4 ∨ k = 5 ∨ k = 6 ∨ k = 7 ∨ k = 8 ∨ k = 9 ∨ k = 10 ∨ k = 11 ∨ k = 12 ∨ k = 13 := by omega
  rcases a with rfl | rfl | rfl | rfl | rfl | rfl | rfl | rfl | rfl | rfl | rfl | rfl | rfl <;>
  rcases b with rfl | rfl | rfl | rfl | rfl | rfl | rfl | rfl | rfl | rfl | rfl | rfl | rfl <;> first | (exfalso; omega) | (simp [cum, cumN]; done) | (simp [cum, cumN]; omega)

/-- day's date is y, m, d -/
def IsDay (day y m d : Int) : Prop := 2000 ≤ y ∧ 1 ≤ m ∧ m ≤ 12 ∧ 1 ≤ d ∧ d ≤ dim y m ∧ ys (y - 2000) + cum y m + (d - 1) = day

theorem IsDay.uniq {day y m d y' m' d' : Int} (h : IsDay day y m d) (h' : IsDay day y' m' d') : y = y' ∧ m = m' ∧ d = d' := by
  obtain ⟨a1, a2, a3, a4, a5, a6⟩ := h
  obtain ⟨b1, b2, b3, b4, b5, b6⟩ := h'
  have e1 := cum_succ y m a2 a3
  have e2 := cum_succ y' m' b2 b3
  have m1 := cum_mono y (m + 1) 13 (by omega) (by omega) (by omega)
  have m2 := cum_mono y' (m' + 1) 13 (by omega) (by omega) (by omega)
  have n1 := cum_bd y m a2 (by omega)
  have n2 := cum_bd y' m' b2 (by omega)
  have c1 := cum_13 y
  have c2 := cum_13 y'
  have s1 := ys_succ (y - 2000) (by omega)
  have s2 := ys_succ (y' - 2000) (by omega)
  rw [show 2000 + (y - 2000) = y from by omega] at s1
  rw [show 2000 + (y' - 2000) = y' from by omega] at s2
  have hy : y = y' := by
    by_cases l : y < y'
    · have := ys_step (y - 2000) (y' - 2000) (by omega) (by omega); omega
    · by_cases l' : y' < y
      · have := ys_step (y' - 2000) (y - 2000) (by omega) (by omega); omega
      · omega
  subst hy
  have hm : m = m' := by
    by_cases l : m < m'
    · have := cum_mono y (m + 1) m' (by omega) (by omega) (by omega); omega
    · by_cases l' : m' < m
      · have := cum_mono y (m' + 1) m (by omega) (by omega) (by omega); omega
      · omega
  subst hm
  exact ⟨rfl, rfl, by omega⟩

theorem year_ex (k : Nat) : ∀ day : Int, 0 ≤ day → day < ys k → ∃ n : Int, 0 ≤ n ∧ ys n ≤ day ∧ day < ys (n + 1) := by
  induction k with
  | zero => intro day h0 h1; have := ys_zero; simp at h1; omega
  | succ k ih =>
    intro day h0 h1
    by_cases h : day < ys k
    · exact ih day h0 h
    · exact ⟨k, by omega, by omega, by simpa using h1⟩
theorem month_ex (y r : Int) (h0 : 0 ≤ r) (k : Nat) (hk : k ≤ 12) : r < cum y (k + 1) → ∃ m : Int, 1 ≤ m ∧ m ≤ 12 ∧ cum y m ≤ r ∧ r < cum y (m + 1) := by
  induction k with
  | zero => intro h; have := cum_one y; simp at h; omega
  | succ k ih =>
    intro h
    by_cases h' : r < cum y (k + 1)
    · exact ih (by omega) h'
    · exact ⟨k + 1, by omega, by omega, by omega, by simpa using h⟩
theorem day_ex (day : Int) (h : 0 ≤ day) : ∃ p : Int × Int × Int, IsDay day p.1 p.2.1 p.2.2 := by
  obtain ⟨n, h0, h1, h2⟩ := year_ex (day.toNat + 1) day h (by have := ys_ge ((day.toNat + 1 : Nat) : Int) (by omega); omega)
  have hs := ys_succ n h0
  obtain ⟨m, m1, m2, m3, m4⟩ := month_ex (2000 + n) (day - ys n) (by omega) 12 (by omega) (by
    have := cum_13 (2000 + n); show _ < cum (2000 + n) ((12 : Nat) + 1); rw [show (((12 : Nat) : Int) + 1) = 13 from rfl, this]; omega)
  have := cum_succ (2000 + n) m m1 m2
  refine ⟨(2000 + n, m, day - ys n - cum (2000 + n) m + 1), by show 2000 ≤ 2000 + n; omega, m1, m2, by show 1 ≤ day - ys n - cum (2000 + n) m + 1; omega, by show day - ys n - cum (2000 + n) m + 1 ≤ dim (2000 + n) m; omega, ?_⟩
  show ys (2000 + n - 2000) + cum (2000 + n) m + _ = day
  rw [show 2000 + n - 2000 = n from by omega]
  show ys n + cum (2000 + n) m + (day - ys n - cum (2000 + n) m + 1 - 1) = day
  omega

noncomputable def ymd (day : Int) : Int × Int × Int := Classical.epsilon fun p => IsDay day p.1 p.2.1 p.2.2
/-- a day's year, month and day of the month -/
noncomputable def yOf (day : Int) : Int := (ymd day).1
noncomputable def mOf (day : Int) : Int := (ymd day).2.1
noncomputable def dOf (day : Int) : Int := (ymd day).2.2
theorem isDay (day : Int) (h : 0 ≤ day) : IsDay day (yOf day) (mOf day) (dOf day) := Classical.epsilon_spec (day_ex day h)
theorem of_isDay {day y m d : Int} (h : IsDay day y m d) : yOf day = y ∧ mOf day = m ∧ dOf day = d := by
  have h0 : 0 ≤ day := by
    obtain ⟨a1, a2, a3, a4, a5, a6⟩ := h
    have := ys_ge (y - 2000) (by omega)
    have := cum_bd y m a2 (by omega)
    omega
  exact (isDay day h0).uniq h
theorem isDay_bd {day y m d : Int} (h : IsDay day y m d) (hd : day ≤ 1491308) : 2000 ≤ y ∧ y ≤ 6083 ∧ 1 ≤ m ∧ m ≤ 12 ∧ 1 ≤ d ∧ d ≤ 31 := by
  obtain ⟨a1, a2, a3, a4, a5, a6⟩ := h
  have := dim_bd y m a2 a3
  have c := cum_bd y m a2 (by omega)
  refine ⟨a1, ?_, a2, a3, a4, by omega⟩
  by_cases l : y ≤ 6083
  · exact l
  · have := ys_mono 4084 (y - 2000) (by omega) (by omega)
    have e : 1491309 ≤ ys 4084 := by decide
    omega
end Go.Proofs.YtgiclhkoajbgpaaDoor.Cal
