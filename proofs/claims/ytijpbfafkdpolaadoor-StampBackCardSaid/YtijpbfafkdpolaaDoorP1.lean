import Derived.WalkKit
namespace Go.Proofs.YtijpbfafkdpolaaDoor
open Go.RowKit

/-! ### days, months, years -/
def leapF (y : Int) : Bool := (decide (y % 4 = 0) && !decide (y % 100 = 0)) || decide (y % 400 = 0)
def longF (y m : Int) : Int := if m = 2 then (if leapF y = true then 29 else 28) else if m = 4 ∨ m = 6 ∨ m = 9 ∨ m = 11 then 30 else 31
theorem longF_bd (y m : Int) : 28 ≤ longF y m ∧ longF y m ≤ 31 := by
  unfold longF
  repeat' split
  all_goals omega
theorem leapF_iff (y : Int) : leapF y = true ↔ (y % 4 = 0 ∧ ¬ y % 100 = 0) ∨ y % 400 = 0 := by
  unfold leapF
  simp
def aheadF (y : Int) : Int := if y = 0 then 0 else 365 * y + (y - 1) / 4 - (y - 1) / 100 + (y - 1) / 400 + 1
theorem ahead_step (y : Int) (h : 0 ≤ y) : aheadF (y + 1) = aheadF y + 337 + longF y 2 := by
  have hl := leapF_iff y
  unfold aheadF longF
  rw [if_neg (by omega), if_pos rfl]
  by_cases h0 : y = 0
  · subst h0
    rw [if_pos rfl, if_pos (by decide)]
    decide
  · rw [if_neg h0]
    by_cases hy : leapF y = true
    · rw [if_pos hy]
      have := hl.1 hy
      omega
    · rw [if_neg hy]
      have : ¬ ((y % 4 = 0 ∧ ¬ y % 100 = 0) ∨ y % 400 = 0) := fun h => hy (hl.2 h)
      omega
theorem ahead_len (y : Int) (h : 0 ≤ y) : aheadF y + 365 ≤ aheadF (y + 1) ∧ aheadF (y + 1) ≤ aheadF y + 366 := by
  have h1 := ahead_step y h
  unfold longF at h1
  rw [if_pos rfl] at h1
  by_cases hy : leapF y = true
  · rw [if_pos hy] at h1; omega
  · rw [if_neg hy] at h1; omega
theorem ahead_mono (a b : Int) (h0 : 0 ≤ a) (h : a ≤ b) : aheadF a + 365 * (b - a) ≤ aheadF b := by
  obtain ⟨n, rfl⟩ : ∃ n : Nat, b = a + n := ⟨(b - a).toNat, by omega⟩
  clear h
  induction n with
  | zero => simp
  | succ n ih =>
    have := ahead_len (a + n) (by omega)
    have e : a + ((n + 1 : Nat) : Int) = a + (n : Int) + 1 := by omega
    rw [e]
    omega
theorem ahead_bd (y : Int) (h : 0 ≤ y) (h' : y ≤ 10000) : 0 ≤ aheadF y ∧ aheadF y ≤ 3652425 := by
  have h1 := ahead_mono 0 y (by omega) h
  have h2 := ahead_mono y 10000 h h'
  have e1 : aheadF 0 = 0 := rfl
  have e2 : aheadF 10000 = 3652425 := by decide
  omega
/-- the days of the first k months -/
def cumN (y : Int) : Nat → Int
  | 0 => 0
  | k + 1 => cumN y k + longF y ((k : Int) + 1)
theorem cumN_bd (y : Int) (k : Nat) : 28 * (k : Int) ≤ cumN y k ∧ cumN y k ≤ 31 * (k : Int) := by
  induction k with
  | zero => simp [cumN]
  | succ k ih =>
    have := longF_bd y ((k : Int) + 1)
    simp only [cumN]
    omega
theorem cum_year (y : Int) : cumN y 12 = 337 + longF y 2 := by
  simp only [cumN, longF]
  generalize leapF y = b
  cases b <;> decide +kernel

/-- the day of a year's month and day, from 1970 on -/
def daysF (y m d : Int) : Int := aheadF y - 719528 + cumN y (m - 1).toNat + d - 1
def okD (y m d : Int) : Bool := decide (0 ≤ y ∧ y ≤ 9999 ∧ 1 ≤ m ∧ m ≤ 12 ∧ 1 ≤ d ∧ d ≤ longF y m)
theorem ahead_1970 : aheadF 1970 = 719528 := by decide
theorem okD_iff (y m d : Int) : okD y m d = true ↔ (0 ≤ y ∧ y ≤ 9999 ∧ 1 ≤ m ∧ m ≤ 12 ∧ 1 ≤ d ∧ d ≤ longF y m) := by unfold okD; rw [decide_eq_true_iff]
theorem cum_step (y m : Int) (h : 1 ≤ m) : cumN y (m + 1 - 1).toNat = cumN y (m - 1).toNat + longF y m := by
  obtain ⟨k, hk⟩ : ∃ k : Nat, m - 1 = (k : Int) := ⟨(m - 1).toNat, by omega⟩
  rw [show (m + 1 - 1).toNat = k + 1 by omega, show (m - 1).toNat = k by omega]
  simp only [cumN]
  rw [show (k : Int) + 1 = m by omega]
theorem days_bd (y m d : Int) (h : okD y m d = true) : -719528 ≤ daysF y m d ∧ daysF y m d ≤ 2932896 := by
  obtain ⟨h1, h2, h3, h4, h5, h6⟩ := (okD_iff y m d).1 h
  unfold daysF
  have ha := ahead_bd y h1 (by omega)
  have hn := ahead_step y h1
  have hn2 := ahead_bd (y + 1) (by omega) (by omega)
  have hc := cumN_bd y (m - 1).toNat
  -- the days up to the end of this month are no more than the year's
  have key : ∀ j : Nat, (m - 1).toNat + 1 + j ≤ 12 → cumN y ((m - 1).toNat + 1) ≤ cumN y ((m - 1).toNat + 1 + j) := by
    intro j
    induction j with
    | zero => intro _; exact Int.le_refl _
    | succ j ih =>
      intro hj
      have h1 := ih (by omega)
      have h2 := longF_bd y (((m - 1).toNat + 1 + j : Nat) + 1)
      rw [show (m - 1).toNat + 1 + (j + 1) = (m - 1).toNat + 1 + j + 1 by omega]
      simp only [cumN] at h1 ⊢
      omega
  have hk := key (12 - ((m - 1).toNat + 1)) (by omega)
  rw [show (m - 1).toNat + 1 + (12 - ((m - 1).toNat + 1)) = 12 by omega, cum_year] at hk
  simp only [cumN] at hk
  rw [show (((m - 1).toNat : Nat) : Int) + 1 = m by omega] at hk
  omega
/-- the next day -/
theorem next_day (y m d : Int) (h : okD y m d = true) (h' : okD y m (d + 1) = true) : daysF y m (d + 1) = daysF y m d + 1 := by unfold daysF; omega
theorem next_month (y m d : Int) (h : okD y m d = true) (h' : okD y m (d + 1) = false) (hm : m < 12) : okD y (m + 1) 1 = true ∧ daysF y (m + 1) 1 = daysF y m d + 1 := by
  obtain ⟨h1, h2, h3, h4, h5, h6⟩ := (okD_iff y m d).1 h
  have hd : d = longF y m := by
    rcases Int.lt_or_le d (longF y m) with hlt | hle
    · rw [(okD_iff y m (d + 1)).2 ⟨h1, h2, h3, h4, by omega, by omega⟩] at h'; cases h'
    · omega
  have hl := longF_bd y (m + 1)
  refine ⟨(okD_iff y (m + 1) 1).2 ⟨h1, h2, by omega, by omega, by omega, by omega⟩, ?_⟩
  unfold daysF
  rw [cum_step y m h3]
  omega
theorem next_year (y m d : Int) (h : okD y m d = true) (h' : okD y m (d + 1) = false) (hm : m = 12) (hy : y < 9999) : okD (y + 1) 1 1 = true ∧ daysF (y + 1) 1 1 = daysF y m d + 1 := by
  obtain ⟨h1, h2, h3, h4, h5, h6⟩ := (okD_iff y m d).1 h
  have hd : d = longF y m := by
    rcases Int.lt_or_le d (longF y m) with hlt | hle
    · rw [(okD_iff y m (d + 1)).2 ⟨h1, h2, h3, h4, by omega, by omega⟩] at h'; cases h'
    · omega
  have hl := longF_bd (y + 1) 1
  refine ⟨(okD_iff (y + 1) 1 1).2 ⟨by omega, by omega, by omega, by omega, by omega, by omega⟩, ?_⟩
  subst hm
  unfold daysF
  have h12 := cum_year y
  have hs := ahead_step y h1
  have e : cumN y 12 = cumN y (12 - 1 : Int).toNat + longF y 12 := by
    have := cum_step y 12 (by omega)
    simpa using this
  have e1 : cumN (y + 1) ((1 : Int) - 1).toNat = 0 := rfl
  rw [e1]
  omega
end Go.Proofs.YtijpbfafkdpolaaDoor
