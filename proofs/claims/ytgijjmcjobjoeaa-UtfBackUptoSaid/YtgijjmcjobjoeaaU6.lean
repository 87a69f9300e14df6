import Derived.Test.YtgijjmcjobjoeaaU5
import Derived.Test.YtgijjmcjobjoeaaU2
namespace Go.Proofs.Ytgijjmcjobjoeaa
open Go.RowKit

/-! ### the reference's reading, plain -/
def rN (b : Int) : Int := if 240 ≤ b then 4 else if 224 ≤ b then 3 else if 192 ≤ b then 2 else 1
def rP (b : Int) : Int := if 240 ≤ b then b - 240 else if 224 ≤ b then b - 224 else if 192 ≤ b then b - 192 else b
def accR (s : ByteArray) (a : Nat) : Nat → Int
  | 0 => 0
  | 1 => rP (gb s a)
  | k + 2 => accR s a (k + 1) * 64 + gb s (a + (k + 1)) % 64

/-- the n bytes from place a on -/
def bytesL (s : ByteArray) (a : Nat) : Nat → List Int
  | 0 => []
  | n + 1 => gb s a :: bytesL s (a + 1) n
def isB (xs : List Int) : Prop := ∀ x ∈ xs, 0 ≤ x ∧ x ≤ 255
theorem encL_isB (p : Int) : isB (encL p) := by
  unfold isB encL
  repeat' split
  all_goals
    intro x hx
    simp only [List.mem_cons, List.not_mem_nil, or_false] at hx
  all_goals omega
theorem bytesL_isB (s : ByteArray) (n : Nat) : ∀ a, isB (bytesL s a n) := by
  induction n with
  | zero => intro a x hx; cases hx
  | succ n ih =>
    intro a x hx
    rcases List.mem_cons.1 hx with rfl | h
    · exact gb_bd s a
    · exact ih (a + 1) x h
theorem u8_inj {x y : Int} (hx : 0 ≤ x ∧ x ≤ 255) (hy : 0 ≤ y ∧ y ≤ 255) (h : UInt8.ofNat x.toNat = UInt8.ofNat y.toNat) : x = y := by
  have h2 := congrArg UInt8.toNat h
  simp only [UInt8.toNat_ofNat'] at h2
  rw [Nat.mod_eq_of_lt (by omega), Nat.mod_eq_of_lt (by omega)] at h2
  omega
theorem map_u8_inj {xs ys : List Int} (hx : isB xs) (hy : isB ys) (h : xs.map (fun n => UInt8.ofNat n.toNat) = ys.map (fun n => UInt8.ofNat n.toNat)) : xs = ys := by
  induction xs generalizing ys with
  | nil => cases ys with
    | nil => rfl
    | cons y l => simp at h
  | cons x l ih =>
    cases ys with
    | nil => simp at h
    | cons y l2 =>
      simp only [List.map_cons, List.cons.injEq] at h
      rw [u8_inj (hx x (by simp)) (hy y (by simp)) h.1, ih (fun z hz => hx z (by simp [hz])) (fun z hz => hy z (by simp [hz])) h.2]
theorem gb_u8 (s : ByteArray) (i : Nat) (h : i < s.data.toList.length) : UInt8.ofNat (gb s i).toNat = s.data.toList[i] := by
  unfold gb
  rw [List.getD, List.getElem?_eq_getElem h]
  simp
theorem bytesL_data (s : ByteArray) (n : Nat) : ∀ a, a + n ≤ s.data.toList.length → (bytesL s a n).map (fun n => UInt8.ofNat n.toNat) = (s.data.toList.drop a).take n := by
  induction n with
  | zero => intro a _; simp [bytesL]
  | succ n ih =>
    intro a h
    simp only [bytesL, List.map_cons]
    have hl : a < s.data.toList.length := by omega
    rw [ih (a + 1) (by omega), gb_u8 s a hl, List.drop_eq_getElem_cons hl, List.take_succ_cons]
theorem extract_data' (s : ByteArray) (a b : Nat) : (s.extract a b).data.toList = (s.data.toList.drop a).take (b - a) := by
  rw [ByteArray.data_extract, Array.toList_extract, List.extract_eq_take_drop]
theorem str_eq_iff (s : ByteArray) (xs : List Int) (hx : isB xs) (a n : Nat) (h : a + n ≤ s.size) : strOfNums xs = s.extract a (a + n) ↔ xs = bytesL s a n := by
  have hl : a + n ≤ s.data.toList.length := by simpa using h
  constructor
  · intro e
    have e2 : (strOfNums xs).data.toList = (s.extract a (a + n)).data.toList := by rw [e]
    rw [strOfNums_data, extract_data', show a + n - a = n from by omega, ← bytesL_data s n a hl] at e2
    exact map_u8_inj hx (bytesL_isB s n a) e2
  · intro e
    apply bytes_ext
    rw [strOfNums_data, extract_data', show a + n - a = n from by omega, ← bytesL_data s n a hl, e]

theorem rN_bd (b : Int) : 1 ≤ rN b ∧ rN b ≤ 4 := by simp only [rN]; repeat' split
                                                    all_goals omega
theorem ref_short (s : ByteArray) (a : Nat) (h : (s.size : Int) - a < rN (gb s a)) : decF s a = (0, 0) := by
  simp only [rN] at h
  unfold decF
  repeat' split
  all_goals first | rfl | (exfalso; revert h; repeat' split
                           all_goals omega)
theorem ref_dec (s : ByteArray) (a n : Nat) (hlt : a < s.size) (hn : rN (gb s a) = n) (hs : a + n ≤ s.size) :
    (encL (accR s a n) = bytesL s a n ∧ decF s a = (accR s a n, (n : Int))) ∨ (encL (accR s a n) ≠ bytesL s a n ∧ decF s a = (0, 0)) := by
  have hb := rN_bd (gb s a)
  have hg := gb_bd s a
  have hk : n = 1 ∨ n = 2 ∨ n = 3 ∨ n = 4 := by omega
  simp only [rN] at hn
  rcases hk with rfl | rfl | rfl | rfl
  · have hr : gb s a < 192 := by
      revert hn; repeat' split
      all_goals (intro hn; omega)
    have e : accR s a 1 = gb s a := by
      show rP (gb s a) = gb s a
      simp only [rP]; rw [if_neg (by omega), if_neg (by omega), if_neg (by omega)]
    rw [e]
    simp only [bytesL]
    by_cases h1 : gb s a < 128
    · left
      refine ⟨by unfold encL; rw [if_neg (by omega), if_pos h1], ?_⟩
      unfold decF; rw [if_neg (by omega), if_pos h1]; rfl
    · right
      refine ⟨by unfold encL; rw [if_neg (by omega), if_neg h1, if_pos (by omega)]; simp, ?_⟩
      unfold decF; rw [if_neg (by omega), if_neg h1, if_pos (by omega)]
  · have hr : 192 ≤ gb s a ∧ gb s a < 224 := by
      revert hn; repeat' split
      all_goals (intro hn; omega)
    have g1 := gb_bd s (a + 1)
    have e : accR s a 2 = (gb s a - 192) * 64 + gb s (a + 1) % 64 := by
      show rP (gb s a) * 64 + gb s (a + 1) % 64 = _
      simp only [rP]; rw [if_neg (by omega), if_neg (by omega), if_pos hr.1]
    rw [e]
    simp only [bytesL]
    by_cases h1 : (gb s a - 192) * 64 + gb s (a + 1) % 64 < 128
    · right
      refine ⟨by unfold encL; rw [if_neg (by omega), if_pos h1]; simp, ?_⟩
      unfold decF; rw [if_neg (by omega), if_neg (by omega), if_pos (by omega)]
    · have h2 : encL ((gb s a - 192) * 64 + gb s (a + 1) % 64) = [192 + ((gb s a - 192) * 64 + gb s (a + 1) % 64) / 64, 128 + ((gb s a - 192) * 64 + gb s (a + 1) % 64) % 64] := by
        unfold encL; rw [if_neg (by omega), if_neg h1, if_pos (by omega)]
      rw [h2]
      unfold decF; rw [if_neg (by omega), if_neg (by omega), if_neg (by omega), if_pos (by omega)]
      by_cases h3 : 128 ≤ gb s (a + 1) ∧ gb s (a + 1) ≤ 191
      · left
        rw [if_pos (by omega)]
        refine ⟨by simp only [List.cons.injEq, and_true]; omega, ?_⟩
        rw [Prod.mk.injEq]; exact ⟨by omega, rfl⟩
      · right
        rw [if_neg (by omega)]
        exact ⟨by simp only [ne_eq, List.cons.injEq, and_true]; omega, rfl⟩
  · have hr : 224 ≤ gb s a ∧ gb s a < 240 := by
      revert hn; repeat' split
      all_goals (intro hn; omega)
    have g1 := gb_bd s (a + 1)
    have g2 := gb_bd s (a + 2)
    have e : accR s a 3 = (gb s a - 224) * 4096 + gb s (a + 1) % 64 * 64 + gb s (a + 2) % 64 := by
      show (rP (gb s a) * 64 + gb s (a + 1) % 64) * 64 + gb s (a + 2) % 64 = _
      simp only [rP]; rw [if_neg (by omega), if_pos hr.1]; omega
    rw [e]
    simp only [bytesL, Nat.add_assoc, Nat.reduceAdd]
    unfold decF; rw [if_neg (by omega), if_neg (by omega), if_neg (by omega), if_neg (by omega), if_pos (by omega)]
    generalize gb s a = b0 at *
    generalize gb s (a + 1) = b1 at *
    generalize gb s (a + 2) = b2 at *
    obtain ⟨p, hp⟩ : ∃ p, p = (b0 - 224) * 4096 + b1 % 64 * 64 + b2 % 64 := ⟨_, rfl⟩
    rw [← hp]
    by_cases hc : 128 ≤ b1 ∧ b1 ≤ 191 ∧ 128 ≤ b2 ∧ b2 ≤ 191
    · have hq : (b0 - 224) * 4096 + (b1 - 128) * 64 + (b2 - 128) = p := by omega
      rw [hq]
      by_cases hf : 2048 ≤ p ∧ (p < 55296 ∨ 57343 < p)
      · left
        rw [if_pos (by omega)]
        refine ⟨?_, rfl⟩
        unfold encL; rw [if_neg (by omega), if_neg (by omega), if_neg (by omega), if_pos (by omega)]
        simp only [List.cons.injEq, and_true]; omega
      · right
        rw [if_neg (by omega)]
        refine ⟨?_, rfl⟩
        unfold encL
        repeat' split
        all_goals simp only [ne_eq, List.cons.injEq, and_true, and_false, not_false_eq_true, reduceCtorEq]
        all_goals omega
    · right
      rw [if_neg (by omega)]
      refine ⟨?_, rfl⟩
      unfold encL
      repeat' split
      all_goals simp only [ne_eq, List.cons.injEq, and_true, and_false, not_false_eq_true, reduceCtorEq]
      all_goals omega
  · have hr : 240 ≤ gb s a := by
      revert hn; repeat' split
      all_goals (intro hn; omega)
    have g1 := gb_bd s (a + 1)
    have g2 := gb_bd s (a + 2)
    have g3 := gb_bd s (a + 3)
    have e : accR s a 4 = (gb s a - 240) * 262144 + gb s (a + 1) % 64 * 4096 + gb s (a + 2) % 64 * 64 + gb s (a + 3) % 64 := by
      show ((rP (gb s a) * 64 + gb s (a + 1) % 64) * 64 + gb s (a + 2) % 64) * 64 + gb s (a + 3) % 64 = _
      simp only [rP]; rw [if_pos hr]; omega
    rw [e]
    simp only [bytesL, Nat.add_assoc, Nat.reduceAdd]
    unfold decF; rw [if_neg (by omega), if_neg (by omega), if_neg (by omega), if_neg (by omega), if_neg (by omega)]
    generalize gb s a = b0 at *
    generalize gb s (a + 1) = b1 at *
    generalize gb s (a + 2) = b2 at *
    generalize gb s (a + 3) = b3 at *
    obtain ⟨p, hp⟩ : ∃ p, p = (b0 - 240) * 262144 + b1 % 64 * 4096 + b2 % 64 * 64 + b3 % 64 := ⟨_, rfl⟩
    rw [← hp]
    by_cases hc : b0 < 245 ∧ 128 ≤ b1 ∧ b1 ≤ 191 ∧ 128 ≤ b2 ∧ b2 ≤ 191 ∧ 128 ≤ b3 ∧ b3 ≤ 191
    · have hq : (b0 - 240) * 262144 + (b1 - 128) * 4096 + (b2 - 128) * 64 + (b3 - 128) = p := by omega
      rw [hq, if_pos hc.1]
      by_cases hf : 65536 ≤ p ∧ p ≤ 1114111
      · left
        rw [if_pos (by omega)]
        refine ⟨?_, rfl⟩
        unfold encL; rw [if_neg (by omega), if_neg (by omega), if_neg (by omega), if_neg (by omega)]
        simp only [List.cons.injEq, and_true]; omega
      · right
        rw [if_neg (by omega)]
        refine ⟨?_, rfl⟩
        unfold encL
        repeat' split
        all_goals simp only [ne_eq, List.cons.injEq, and_true, and_false, not_false_eq_true, reduceCtorEq]
        all_goals omega
    · right
      refine ⟨?_, ?_⟩
      · unfold encL
        repeat' split
        all_goals simp only [ne_eq, List.cons.injEq, and_true, and_false, not_false_eq_true, reduceCtorEq]
        all_goals omega
      · split
        · rw [if_neg (by omega)]
        · rfl
end Go.Proofs.Ytgijjmcjobjoeaa
