import Derived.Test.YtgijjmcjobjoeaaA4
namespace Go.Proofs.Ytgijjmcjobjoeaa
open Go.RowKit

/-- the place of the first v from k on, or -1 -/
def idxFrom (xs : List ByteArray) (v : ByteArray) (k : Nat) : Int := if idxN v (xs.drop k) < (xs.drop k).length then (k + idxN v (xs.drop k) : Nat) else -1
theorem idxFrom_end (xs : List ByteArray) (v : ByteArray) {k : Nat} (h : xs.length ≤ k) : idxFrom xs v k = -1 := by
  unfold idxFrom; rw [List.drop_of_length_le h]; simp
theorem idxFrom_zero (xs : List ByteArray) (v : ByteArray) : idxFrom xs v 0 = idxF xs v := by
  unfold idxFrom idxF; simp
theorem drop_cons {α : Type} (xs : List α) (k : Nat) (h : k < xs.length) : xs.drop k = xs[k] :: xs.drop (k + 1) := List.drop_eq_getElem_cons h
theorem idxFrom_hit (xs : List ByteArray) (v : ByteArray) {k : Nat} (h : k < xs.length) (e : xs[k] = v) : idxFrom xs v k = (k : Int) := by
  unfold idxFrom; rw [drop_cons xs k h]; simp [idxN, e]
theorem idxFrom_miss (xs : List ByteArray) (v : ByteArray) {k : Nat} (h : k < xs.length) (e : xs[k] ≠ v) : idxFrom xs v k = idxFrom xs v (k + 1) := by
  unfold idxFrom; rw [drop_cons xs k h]; simp only [idxN, if_neg e, List.length_cons]
  split
  · rw [if_pos (by omega)]; omega
  · rw [if_neg (by omega)]
theorem idxFrom_bd (xs : List ByteArray) (v : ByteArray) (k : Nat) : -1 ≤ idxFrom xs v k ∧ idxFrom xs v k ≤ xs.length := by
  unfold idxFrom
  have h := List.length_drop (i := k) (l := xs)
  split <;> omega

/-- what is gathered after k rounds -/
def outK (xs : List ByteArray) (F L k : Nat) : List ByteArray := ((xs.take k).drop F).take L
theorem outK_len (xs : List ByteArray) (F L k : Nat) (h : k ≤ xs.length) : (outK xs F L k).length = min (k - F) L := by
  unfold outK; simp only [List.length_take, List.length_drop]; omega
theorem outK_in (xs : List ByteArray) (F L k : Nat) (h : k < xs.length) (hF : F ≤ k) (hL : (outK xs F L k).length < L) : outK xs F L (k + 1) = outK xs F L k ++ [xs[k]] := by
  have hl := outK_len xs F L k (by omega)
  unfold outK at *
  rw [take_succ_eq xs k h, List.drop_append_of_le_length (by rw [List.length_take]; omega), List.take_append, List.length_drop, List.length_take]
  congr 1
  rw [List.take_of_length_le]
  simp only [List.length_cons, List.length_nil]
  omega
theorem outK_out (xs : List ByteArray) (F L k : Nat) (h : k < xs.length) (hc : k < F ∨ L ≤ (outK xs F L k).length) : outK xs F L (k + 1) = outK xs F L k := by
  have hl := outK_len xs F L k (by omega)
  unfold outK at *
  rw [take_succ_eq xs k h]
  rcases hc with hc | hc
  · rw [List.drop_of_length_le (by simp only [List.length_append, List.length_take, List.length_cons, List.length_nil]; omega), List.drop_of_length_le (by rw [List.length_take]; omega)]
  · by_cases hF : F ≤ k
    · rw [List.drop_append_of_le_length (by rw [List.length_take]; omega), List.take_append_of_le_length]
      rw [List.length_drop, List.length_take]; omega
    · rw [List.drop_of_length_le (by simp only [List.length_append, List.length_take, List.length_cons, List.length_nil]; omega), List.drop_of_length_le (by rw [List.length_take]; omega)]
theorem outK_end (xs : List ByteArray) (F : Int) (lim : Int) (h : (xs.length : Int) ≤ 9007199254740991) :
    (outK xs F.toNat (if lim < 0 then xs.length else lim.toNat) xs.length, F, 0) = cutAt xs F lim := by
  have hn : nearF lim < 0 ↔ lim < 0 := by unfold nearF; repeat' split
                                          all_goals omega
  unfold outK cutAt
  rw [List.take_length]
  congr 1
  by_cases hl : lim < 0
  · rw [if_pos hl, if_pos (hn.2 hl)]
  · rw [if_neg hl, if_neg (fun h => hl (hn.1 h))]
    by_cases hb : 9007199254740991 < lim
    · have : nearF lim = 9007199254740991 := by unfold nearF; rw [if_neg (by omega), if_pos hb]
      rw [this, List.take_of_length_le (by rw [List.length_drop]; omega), List.take_of_length_le (by rw [List.length_drop]; omega)]
    · have : nearF lim = lim := by unfold nearF; rw [if_neg (by omega), if_neg hb]
      rw [this]
end Go.Proofs.Ytgijjmcjobjoeaa
