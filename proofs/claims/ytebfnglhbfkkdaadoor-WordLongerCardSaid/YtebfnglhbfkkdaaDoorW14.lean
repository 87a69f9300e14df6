import Derived.Test.YtebfnglhbfkkdaaDoorW10
import Derived.Lib.ConvBytes
import Derived.Laws.BytesArg
namespace Go.Proofs.YtebfnglhbfkkdaaDoor
open Go.RowKit Go.Shelf

/-! ### one byte more behind a text -/
theorem idx_more (s : ByteArray) (c : UInt8) (k : Nat) (h : Lib.indexByte s.data.toList 58 = k) : Lib.indexByte (s ++ ⟨#[c]⟩).data.toList 58 = k := by
  rcases idx_cases s 58 with ⟨h1, _⟩ | ⟨k', h1, _, u, v, he, hu, hk⟩
  · omega
  · have e : (s ++ ⟨#[c]⟩).data.toList = u ++ 58 :: (v ++ [c]) := by
      rw [ByteArray.data_append, Array.toList_append, he]
      simp
    rw [e, indexByte_app 58 (v ++ [c]) u hu, hk]
    omega
theorem ext_more (s : ByteArray) (c : UInt8) (k : Nat) (h : k ≤ s.size) : (s ++ ⟨#[c]⟩).extract 0 k = s.extract 0 k ∧ (s ++ ⟨#[c]⟩).extract k (s.size + 1) = s.extract k s.size ++ ⟨#[c]⟩ := by
  have hl : s.data.toList.length = s.size := by simp
  constructor
  · apply bytes_ext
    rw [ByteArray.data_extract, Array.toList_extract, List.extract_eq_take_drop, ByteArray.data_extract, Array.toList_extract, List.extract_eq_take_drop, ByteArray.data_append, Array.toList_append, List.drop_zero, List.drop_zero, List.take_append_of_le_length (by omega)]
  · apply bytes_ext
    rw [ByteArray.data_extract, Array.toList_extract, List.extract_eq_take_drop, ByteArray.data_append, Array.toList_append, ByteArray.data_append, Array.toList_append, ByteArray.data_extract, Array.toList_extract, List.extract_eq_take_drop, List.drop_append_of_le_length (by omega)]
    rw [List.take_of_length_le (by simp; omega), List.take_of_length_le (by simp)]
theorem allF_app (p : Int → Bool) (s : ByteArray) (c : UInt8) : allF p (s ++ ⟨#[c]⟩) = (allF p s && p (c.toNat : Int)) := by
  unfold allF nums
  rw [ByteArray.data_append, Array.toList_append, List.map_append, List.all_append]
  simp
theorem uri_more (s : ByteArray) (c : UInt8) (h : uriF s = true) : uriF (s ++ ⟨#[c]⟩) = restCh (c.toNat : Int) := by
  rcases idx_cases s 58 with ⟨h1, _⟩ | ⟨k, h1, hk, _⟩
  · rw [uri_miss s h1] at h; cases h
  · rw [uri_hit s k h1] at h
    rw [uri_hit _ k (idx_more s c k h1)]
    have hz : (s ++ (⟨#[c]⟩ : ByteArray)).size = s.size + 1 := by rw [ByteArray.size_append]; rfl
    simp only [Bool.and_eq_true, decide_eq_true_eq] at h
    obtain ⟨⟨h2, h3⟩, h4, h5, h6⟩ := h
    rw [hz, (ext_more s c k (by omega)).1, (ext_more s c (k + 1) (by omega)).2, allF_app, h4, h5, h6, decide_eq_true (by omega)]
    simp
theorem other_more (s : ByteArray) (c : UInt8) (h : otherF s = true) : otherF (s ++ ⟨#[c]⟩) = true := by
  rcases idx_cases s 58 with ⟨h1, _⟩ | ⟨k, h1, hk, _⟩
  · rw [other_at s _ h1] at h; simp at h
  · rw [other_at s _ h1] at h
    rw [other_at _ _ (idx_more s c k h1)]
    have hz : (s ++ (⟨#[c]⟩ : ByteArray)).size = s.size + 1 := by rw [ByteArray.size_append]; rfl
    rw [decide_eq_true_eq] at h
    rw [hz]
    exact decide_eq_true (by omega)
/-- a byte that may stand in an address, and one that may not -/
theorem rest_bad (x : Int) (h0 : 33 ≤ x) (h1 : x ≤ 126) : restCh x = !inC badL x := by
  unfold restCh
  rw [decide_eq_true (by omega), decide_eq_true (by omega)]
  rfl
def badAt (k : Nat) (x : Int) : Bool := (badL.take k).any (fun b => decide (x = (b.toNat : Int)))
theorem badAt_all (x : Int) (h0 : 0 ≤ x) (h1 : x ≤ 255) : badAt 9 x = inC badL x := by
  have key : ∀ n : Fin 256, badAt 9 ((n.val : Nat) : Int) = inC badL ((n.val : Nat) : Int) := by decide +kernel
  have := key ⟨x.toNat, by omega⟩
  simp only [show ((x.toNat : Nat) : Int) = x by omega] at this
  exact this
end Go.Proofs.YtebfnglhbfkkdaaDoor
