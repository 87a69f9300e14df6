import Derived.Test.YtgijjmcjobjoeaaU1
namespace Go.Proofs.Ytgijjmcjobjoeaa
open Go.RowKit

theorem szN_bd (b : Int) : 0 ≤ szN b ∧ szN b ≤ 4 := by simp only [szN]; repeat' split
                                                       all_goals omega
theorem szP_bd (b : Int) (h : 0 ≤ b ∧ b ≤ 255) : 0 ≤ szP b ∧ szP b ≤ 127 ∧ (2 ≤ szN b → szP b ≤ 31) := by
  simp only [szP, szN]; repeat' split
  all_goals omega

/-- the point that stands at place a, and how many bytes it has; (0, 0): none -/
def decF (s : ByteArray) (a : Nat) : Int × Int :=
  if s.size ≤ a then (0, 0)
  else if gb s a < 128 then (gb s a, 1)
  else if gb s a < 194 then (0, 0)
  else if gb s a < 224 then
    if a + 1 < s.size ∧ 128 ≤ gb s (a + 1) ∧ gb s (a + 1) ≤ 191 then ((gb s a - 192) * 64 + (gb s (a + 1) - 128), 2) else (0, 0)
  else if gb s a < 240 then
    if a + 2 < s.size ∧ 128 ≤ gb s (a + 1) ∧ gb s (a + 1) ≤ 191 ∧ 128 ≤ gb s (a + 2) ∧ gb s (a + 2) ≤ 191 ∧ 2048 ≤ (gb s a - 224) * 4096 + (gb s (a + 1) - 128) * 64 + (gb s (a + 2) - 128) ∧
        ((gb s a - 224) * 4096 + (gb s (a + 1) - 128) * 64 + (gb s (a + 2) - 128) < 55296 ∨ 57343 < (gb s a - 224) * 4096 + (gb s (a + 1) - 128) * 64 + (gb s (a + 2) - 128)) then
      ((gb s a - 224) * 4096 + (gb s (a + 1) - 128) * 64 + (gb s (a + 2) - 128), 3) else (0, 0)
  else if gb s a < 245 then
    if a + 3 < s.size ∧ 128 ≤ gb s (a + 1) ∧ gb s (a + 1) ≤ 191 ∧ 128 ≤ gb s (a + 2) ∧ gb s (a + 2) ≤ 191 ∧ 128 ≤ gb s (a + 3) ∧ gb s (a + 3) ≤ 191 ∧
        65536 ≤ (gb s a - 240) * 262144 + (gb s (a + 1) - 128) * 4096 + (gb s (a + 2) - 128) * 64 + (gb s (a + 3) - 128) ∧
        (gb s a - 240) * 262144 + (gb s (a + 1) - 128) * 4096 + (gb s (a + 2) - 128) * 64 + (gb s (a + 3) - 128) ≤ 1114111 then
      ((gb s a - 240) * 262144 + (gb s (a + 1) - 128) * 4096 + (gb s (a + 2) - 128) * 64 + (gb s (a + 3) - 128), 4) else (0, 0)
  else (0, 0)
def oneV (s : ByteArray) (at_ : Int) : Int × Int := if at_ < 0 then (0, 0) else decF s at_.toNat

section
variable (s : ByteArray) (a : Nat)
theorem dec_end (h : s.size ≤ a) : decF s a = (0, 0) := by unfold decF; rw [if_pos h]
theorem dec_bad (h : szN (gb s a) = 0) : decF s a = (0, 0) := by
  simp only [szN] at h
  unfold decF
  repeat' split
  all_goals first | rfl | (exfalso; revert h; repeat' split
                           all_goals omega)
theorem dec_short (h : (s.size : Int) - a < szN (gb s a)) : decF s a = (0, 0) := by
  simp only [szN] at h
  unfold decF
  repeat' split
  all_goals first | rfl | (exfalso; revert h; repeat' split
                           all_goals omega)
theorem dec_cont (k : Nat) (h1 : 1 ≤ k) (h2 : (k : Int) < szN (gb s a)) (h : ¬ cont (gb s (a + k))) : decF s a = (0, 0) := by
  have hb := szN_bd (gb s a)
  unfold cont at h
  have hk : k = 1 ∨ k = 2 ∨ k = 3 := by omega
  simp only [szN] at h2
  unfold decF
  rcases hk with rfl | rfl | rfl
  all_goals
    repeat' split
    all_goals first | rfl | (exfalso; revert h2; repeat' split
                             all_goals omega)
theorem dec_all (n : Nat) (hlt : a < s.size) (hn : szN (gb s a) = n) (h0 : n ≠ 0) (hs : ¬ (s.size : Int) - a < n) (hc : ∀ j, 1 ≤ j → j < n → cont (gb s (a + j))) :
    decF s a = if fitsF (accF s a n) n = true then (accF s a n, (n : Int)) else (0, 0) := by
  have hb := szN_bd (gb s a)
  have hg := gb_bd s a
  have hk : n = 1 ∨ n = 2 ∨ n = 3 ∨ n = 4 := by omega
  unfold cont at hc
  simp only [szN] at hn
  rcases hk with rfl | rfl | rfl | rfl
  · have hr : gb s a < 128 := by
      revert hn; repeat' split
      all_goals (intro hn; omega)
    have e : accF s a 1 = gb s a := by
      show szP (gb s a) = gb s a
      simp only [szP]; rw [if_pos hr]
    have hf : fitsF (accF s a 1) ((1 : Nat) : Int) = true := by
      unfold fitsF; rw [if_neg (by omega), if_neg (by omega)]
    rw [if_pos hf, e]
    unfold decF
    rw [if_neg (by omega), if_pos hr]
    rfl
  · have c1 := hc 1 (by omega) (by omega)
    have hr : 194 ≤ gb s a ∧ gb s a < 224 := by
      revert hn; repeat' split
      all_goals (intro hn; omega)
    have e : accF s a 2 = szP (gb s a) * 64 + (gb s (a + 1) - 128) := rfl
    have e2 : szP (gb s a) = gb s a - 192 := by
      simp only [szP]; rw [if_neg (by omega), if_neg (by omega), if_pos hr.2]; omega
    have hf : fitsF (accF s a 2) ((2 : Nat) : Int) = true := by
      unfold fitsF; rw [if_neg (by omega), if_neg (by omega)]
    rw [if_pos hf, e, e2]
    unfold decF
    rw [if_neg (by omega), if_neg (by omega), if_neg (by omega), if_pos hr.2, if_pos (by omega)]
    rfl
  · have c1 := hc 1 (by omega) (by omega)
    have c2 := hc 2 (by omega) (by omega)
    have e : accF s a 3 = (szP (gb s a) * 64 + (gb s (a + 1) - 128)) * 64 + (gb s (a + 2) - 128) := rfl
    have e2 : szP (gb s a) = gb s a - 224 := by
      simp only [szP]; revert hn; repeat' split
      all_goals (intro hn; omega)
    have e3 : accF s a 3 = (gb s a - 224) * 4096 + (gb s (a + 1) - 128) * 64 + (gb s (a + 2) - 128) := by rw [e, e2]; omega
    have hr : 224 ≤ gb s a ∧ gb s a < 240 := by
      revert hn; repeat' split
      all_goals (intro hn; omega)
    rw [e3]
    generalize hp : (gb s a - 224) * 4096 + (gb s (a + 1) - 128) * 64 + (gb s (a + 2) - 128) = p at *
    unfold decF
    rw [if_neg (by omega), if_neg (by omega), if_neg (by omega), if_neg (by omega), if_pos (by omega), hp]
    by_cases hf : 2048 ≤ p ∧ (p < 55296 ∨ 57343 < p)
    · rw [if_pos (by omega), if_pos (by simp [fitsF, hf])]; rfl
    · rw [if_neg (by omega), if_neg (by simp [fitsF]; omega)]
  · have c1 := hc 1 (by omega) (by omega)
    have c2 := hc 2 (by omega) (by omega)
    have c3 := hc 3 (by omega) (by omega)
    have e : accF s a 4 = ((szP (gb s a) * 64 + (gb s (a + 1) - 128)) * 64 + (gb s (a + 2) - 128)) * 64 + (gb s (a + 3) - 128) := rfl
    have e2 : szP (gb s a) = gb s a - 240 := by
      simp only [szP]; revert hn; repeat' split
      all_goals (intro hn; omega)
    have e3 : accF s a 4 = (gb s a - 240) * 262144 + (gb s (a + 1) - 128) * 4096 + (gb s (a + 2) - 128) * 64 + (gb s (a + 3) - 128) := by rw [e, e2]; omega
    have hr : 240 ≤ gb s a ∧ gb s a < 245 := by
      revert hn; repeat' split
      all_goals (intro hn; omega)
    rw [e3]
    generalize hp : (gb s a - 240) * 262144 + (gb s (a + 1) - 128) * 4096 + (gb s (a + 2) - 128) * 64 + (gb s (a + 3) - 128) = p at *
    unfold decF
    rw [if_neg (by omega), if_neg (by omega), if_neg (by omega), if_neg (by omega), if_neg (by omega), if_pos (by omega), hp]
    by_cases hf : 65536 ≤ p ∧ p ≤ 1114111
    · rw [if_pos (by omega), if_pos (by simp [fitsF, hf])]; rfl
    · rw [if_neg (by omega), if_neg (by simp [fitsF]; omega)]
end
end Go.Proofs.Ytgijjmcjobjoeaa
