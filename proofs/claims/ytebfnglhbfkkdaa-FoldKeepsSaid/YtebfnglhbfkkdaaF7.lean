import Derived.Test.YtebfnglhbfkkdaaF5
namespace Go.Proofs.Ytebfnglhbfkkdaa
open Go.RowKit

theorem ext_tail (s : ByteArray) (k : Nat) : (s.extract k s.size).data.toList = s.data.toList.drop k := by
  rw [ByteArray.data_extract, Array.toList_extract, List.extract_eq_take_drop]
  apply List.take_of_length_le
  rw [List.length_drop]
  have hl : s.data.toList.length = s.size := by simp
  omega
theorem termsT_tail (s : ByteArray) (k : Nat) : termsT s k = termsF (s.extract k s.size) := by
  unfold termsF termsT
  rw [ext_tail, List.drop_zero]
theorem tail_size (s : ByteArray) (k : Nat) : (s.extract k s.size).size = s.size - k := by simp
theorem tail_at (s : ByteArray) (k j : Nat) (h : j < (s.extract k s.size).size) : (s.extract k s.size)[j]'h = s[k + j]'(by rw [tail_size] at h; omega) := by
  have e : ∀ (i : Nat) (hi : i < (s.extract k s.size).data.toList.length) , (s.extract k s.size).data.toList[i]'hi = s.data.toList[k + i]'(by rw [ext_tail, List.length_drop] at hi; omega) := by
    intro i hi
    have h1 : (s.extract k s.size).data.toList[i]? = (s.data.toList.drop k)[i]? := by rw [ext_tail]
    rw [List.getElem?_drop, List.getElem?_eq_getElem hi, List.getElem?_eq_getElem (by rw [ext_tail, List.length_drop] at hi; omega)] at h1
    injection h1
  exact e j (by simpa using h)
theorem termsF_nil (s : ByteArray) (h : s.size = 0) : termsF s = [] := termsT_end s 0 (by omega)

theorem tF_space (s : ByteArray) (h : 0 < s.size) (h1 : ((s[0]'h).toNat : Int) = 32) : termsF s = termsF (s.extract 1 s.size) := by
  rw [← termsT_tail]; exact tT_space s 0 h h1
theorem tF_word (s : ByteArray) (e : Nat) (h : 0 < s.size) (h1 : ((s[0]'h).toNat : Int) ≠ 32) (h2 : ((s[0]'h).toNat : Int) ≠ 34) (hen : e ≤ s.size) (hb : NoQB s 0 e) (hs : ∀ hj : e < s.size, ((s[e]'hj).toNat : Int) = 32 ∨ ((s[e]'hj).toNat : Int) = 34) :
    termsF s = s.extract 0 e :: termsF (s.extract e s.size) := by
  rw [← termsT_tail]; exact tT_word s 0 e h h1 h2 (Nat.zero_le _) hen hb hs
theorem tF_word_pos (s : ByteArray) (e : Nat) (h : 0 < s.size) (h1 : ((s[0]'h).toNat : Int) ≠ 32) (h2 : ((s[0]'h).toNat : Int) ≠ 34) (hs : ∀ hj : e < s.size, ((s[e]'hj).toNat : Int) = 32 ∨ ((s[e]'hj).toNat : Int) = 34) : 0 < e := by
  rcases Nat.eq_zero_or_pos e with h0 | h0
  · subst h0
    rcases hs h with h' | h'
    · exact absurd h' h1
    · exact absurd h' h2
  · exact h0
theorem tF_quote (s r : ByteArray) (e : Nat) (h : 0 < s.size) (h1 : ((s[0]'h).toNat : Int) = 34) (hr : r = s.extract 1 s.size) (hen : e ≤ r.size) (hb : NoQ r 0 e) (hs : ∀ hj : e < r.size, ((r[e]'hj).toNat : Int) = 34) :
    termsF s = (if 0 < e then [r.extract 0 e] else []) ++ termsF (r.extract (e + 1) r.size) := by
  subst hr
  have hz := tail_size s 1
  have hq := tT_quote s 0 (e + 1) h h1 (by omega) (by omega)
    (fun j hj h2 h3 => by
      have := hb (j - 1) (by omega) (by omega) (by omega)
      rw [tail_at] at this
      simp only [show 1 + (j - 1) = j from by omega] at this
      exact this)
    (fun hj => by
      have := hs (by omega)
      rw [tail_at] at this
      simp only [show 1 + e = e + 1 from by omega] at this
      exact this)
  have hx : (s.extract 1 s.size).extract 0 e = s.extract (0 + 1) (e + 1) := by
    apply bytes_ext
    rw [ByteArray.data_extract, Array.toList_extract, List.extract_eq_take_drop, ext_tail, ByteArray.data_extract, Array.toList_extract, List.extract_eq_take_drop]
    simp
  have hy : (s.extract 1 s.size).extract (e + 1) (s.extract 1 s.size).size = s.extract (e + 1 + 1) s.size := by
    apply bytes_ext
    rw [ext_tail, ext_tail, ext_tail, List.drop_drop]
    congr 1
    omega
  rw [hx, hy, ← termsT_tail]
  refine hq.trans ?_
  by_cases he : 0 < e
  · rw [if_pos he, if_pos (by omega)]
  · rw [if_neg he, if_neg (by omega)]
end Go.Proofs.Ytebfnglhbfkkdaa
