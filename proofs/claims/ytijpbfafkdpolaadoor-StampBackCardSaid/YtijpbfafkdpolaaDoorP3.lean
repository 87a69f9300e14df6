import Derived.Test.YtijpbfafkdpolaaDoorP1
import Derived.Laws.BytesArg
namespace Go.Proofs.YtijpbfafkdpolaaDoor
open Go.RowKit

/-! ### the order of the days; what Make answers -/
theorem cum_le (y : Int) (a : Nat) : ∀ j, cumN y a ≤ cumN y (a + j)
  | 0 => Int.le_refl _
  | j + 1 => by
    have h1 := cum_le y a j
    have h2 := longF_bd y ((a + j : Nat) + 1)
    rw [show a + (j + 1) = a + j + 1 by omega]
    simp only [cumN]
    omega
theorem year_span {y m d : Int} (h : okD y m d = true) : aheadF y - 719528 ≤ daysF y m d ∧ daysF y m d < aheadF (y + 1) - 719528 := by
  obtain ⟨h1, h2, h3, h4, h5, h6⟩ := (okD_iff y m d).1 h
  unfold daysF
  have hn := ahead_step y h1
  have hc := cumN_bd y (m - 1).toNat
  have hs := cum_step y m h3
  have hk := cum_le y (m + 1 - 1).toNat (12 - (m + 1 - 1).toNat)
  rw [show (m + 1 - 1).toNat + (12 - (m + 1 - 1).toNat) = 12 by omega, cum_year] at hk
  omega
theorem days_lt {y m d y' m' d' : Int} (h : okD y m d = true) (h' : okD y' m' d' = true) (hl : y < y' ∨ (y = y' ∧ (m < m' ∨ (m = m' ∧ d < d')))) : daysF y m d < daysF y' m' d' := by
  obtain ⟨h1, h2, h3, h4, h5, h6⟩ := (okD_iff y m d).1 h
  obtain ⟨g1, g2, g3, g4, g5, g6⟩ := (okD_iff y' m' d').1 h'
  rcases hl with hl | ⟨rfl, hl | ⟨rfl, hl⟩⟩
  · have e1 := year_span h
    have e2 := year_span h'
    have e3 := ahead_mono (y + 1) y' (by omega) (by omega)
    omega
  · have hs := cum_step y m h3
    have hk := cum_le y (m + 1 - 1).toNat ((m' - 1).toNat - (m + 1 - 1).toNat)
    rw [show (m + 1 - 1).toNat + ((m' - 1).toNat - (m + 1 - 1).toNat) = (m' - 1).toNat by omega] at hk
    unfold daysF
    omega
  · unfold daysF
    omega
theorem days_inj {y m d y' m' d' : Int} (h : okD y m d = true) (h' : okD y' m' d' = true) (he : daysF y m d = daysF y' m' d') : y = y' ∧ m = m' ∧ d = d' := by
  have a1 : ¬ (y < y' ∨ (y = y' ∧ (m < m' ∨ (m = m' ∧ d < d')))) := fun hl => by have := days_lt h h' hl; omega
  have a2 : ¬ (y' < y ∨ (y' = y ∧ (m' < m ∨ (m' = m ∧ d' < d)))) := fun hl => by have := days_lt h' h hl; omega
  omega
theorem days_conv {y m d y' m' d' : Int} (h : okD y m d = true) (h' : okD y' m' d' = true) (he : daysF y m d < daysF y' m' d') : y < y' ∨ (y = y' ∧ (m < m' ∨ (m = m' ∧ d < d'))) := by
  have a2 : ¬ (y' < y ∨ (y' = y ∧ (m' < m ∨ (m' = m ∧ d' < d)))) := fun hl => by have := days_lt h' h hl; omega
  have a3 : ¬ (y = y' ∧ m = m' ∧ d = d') := by rintro ⟨rfl, rfl, rfl⟩; omega
  omega
/-- two digits, four digits -/
def twoL (x : Int) : List Int := [48 + x / 10 % 10, 48 + x % 10]
def fourL (x : Int) : List Int := [48 + x / 1000 % 10, 48 + x / 100 % 10, 48 + x / 10 % 10, 48 + x % 10]
/-- the text of a day and its seconds -/
def stampL (y m d r : Int) : List Int := fourL y ++ ([45] ++ (twoL m ++ ([45] ++ (twoL d ++ ([84] ++ (twoL (r / 3600) ++ ([58] ++ (twoL (r / 60 % 60) ++ ([58] ++ (twoL (r % 60) ++ [90]))))))))))
def inMk (n : Int) : Bool := decide (-62167219200 ≤ n ∧ n ≤ 253402300799)
def IsMk (n : Int) (v : ByteArray) : Prop := (inMk n = false ∧ v = ByteArray.empty) ∨ (inMk n = true ∧ ∃ y m d, okD y m d = true ∧ daysF y m d = n / 86400 ∧ v = strOfNums (stampL y m d (n % 86400)))
theorem isMk_one {n : Int} {v v' : ByteArray} (h : IsMk n v) (h' : IsMk n v') : v = v' := by
  rcases h with ⟨a, rfl⟩ | ⟨a, y, m, d, ok, hd, rfl⟩ <;> rcases h' with ⟨b, rfl⟩ | ⟨b, y', m', d', ok', hd', rfl⟩
  · rfl
  · rw [a] at b; cases b
  · rw [a] at b; cases b
  · obtain ⟨rfl, rfl, rfl⟩ := days_inj ok ok' (by omega)
    rfl
theorem inMk_iff (n : Int) : inMk n = true ↔ (-62167219200 ≤ n ∧ n ≤ 253402300799) := by unfold inMk; rw [decide_eq_true_iff]
/-- a day's year lies where the years' days say -/
theorem year_of {t y : Int} (h0 : 0 ≤ y) (hlo : aheadF y ≤ t) (hhi : t < aheadF (y + 1)) : ∃ m d, 1 ≤ m ∧ m ≤ 12 ∧ 1 ≤ d ∧ d ≤ longF y m ∧ t - aheadF y = cumN y (m - 1).toNat + d - 1 := by
  have hn := ahead_step y h0
  have hy := cum_year y
  have key : ∀ k : Nat, k ≤ 12 → t - aheadF y < cumN y k → ∃ m d, 1 ≤ m ∧ m ≤ 12 ∧ 1 ≤ d ∧ d ≤ longF y m ∧ t - aheadF y = cumN y (m - 1).toNat + d - 1 := by
    intro k
    induction k with
    | zero => intro _ h; simp only [cumN] at h; omega
    | succ k ih =>
      intro hk h
      by_cases h2 : t - aheadF y < cumN y k
      · exact ih (by omega) h2
      · simp only [cumN] at h
        refine ⟨(k : Int) + 1, t - aheadF y - cumN y k + 1, by omega, by omega, by omega, by omega, ?_⟩
        rw [show ((k : Int) + 1 - 1).toNat = k by omega]
        omega
  exact key 12 (by omega) (by omega)
end Go.Proofs.YtijpbfafkdpolaaDoor
