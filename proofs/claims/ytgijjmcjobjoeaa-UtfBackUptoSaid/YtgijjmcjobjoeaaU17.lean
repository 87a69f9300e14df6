import Derived.Test.YtgijjmcjobjoeaaU16
import Derived.Test.YtgijjmcjobjoeaaU14
namespace Go.Proofs.Ytgijjmcjobjoeaa
open Go.RowKit

/-! ### what is written is read -/
theorem joinN_le : ∀ (xs : List Int), joinN xs ≤ xs.length
  | [] => by simp [joinN]
  | p :: l => by
    have := joinN_le l
    simp only [joinN]
    split <;> simp; omega
theorem joinB_isB : ∀ (xs : List Int), isB (joinB xs)
  | [] => by intro x hx; cases hx
  | p :: l => by
    simp only [joinB]
    split
    · intro x hx; cases hx
    · intro x hx
      rcases List.mem_append.1 hx with h | h
      · exact encL_isB p x h
      · exact joinB_isB l x h
theorem enc_isPt (p : Int) (h : encL p ≠ []) : isPt p := by
  unfold encL at h
  by_cases h0 : p < 0 ∨ 1114111 < p ∨ (55296 ≤ p ∧ p ≤ 57343)
  · rw [if_pos h0] at h; exact absurd rfl h
  · unfold isPt; omega
theorem strOfNums_append (xs ys : List Int) : strOfNums (xs ++ ys) = strOfNums xs ++ strOfNums ys := by
  apply bytes_ext
  rw [app_data, strOfNums_data, strOfNums_data, strOfNums_data, List.map_append]
theorem bytesL_ext (s t : ByteArray) (n : Nat) : ∀ a b, (∀ i, i < n → gb s (a + i) = gb t (b + i)) → bytesL s a n = bytesL t b n := by
  induction n with
  | zero => intro a b _; rfl
  | succ n ih =>
    intro a b h
    simp only [bytesL]
    have h0 := h 0 (by omega)
    simp only [Nat.add_zero] at h0
    rw [h0, ih (a + 1) (b + 1) (fun i hi => by
      have := h (i + 1) (by omega)
      rw [show a + 1 + i = a + (i + 1) from by omega, show b + 1 + i = b + (i + 1) from by omega]; exact this)]
theorem ptsF_right (s t : ByteArray) (d : Nat) : ∀ a, t.size - a ≤ d → ptsF (s ++ t) (s.size + a) = ptsF t a := by
  induction d with
  | zero =>
    intro a h
    have h0 := stepN_end t a (by omega)
    rw [ptsF_stop _ _ (by rw [stepN_right]; exact h0), ptsF_stop t a h0]
  | succ d ih =>
    intro a h
    have hb := stepN_bd t a
    by_cases h0 : stepN t a = 0
    · rw [ptsF_stop _ _ (by rw [stepN_right]; exact h0), ptsF_stop t a h0]
    · rw [ptsF_go _ _ (by rw [stepN_right]; exact h0), ptsF_go t a h0, stepN_right, dec_right, Nat.add_assoc, ih _ (by omega)]
/-- the written points are read as they were -/
theorem read_joined : ∀ (xs : List Int), ptsF (strOfNums (joinB xs)) 0 = xs.take (joinN xs) ∧ endF (strOfNums (joinB xs)) 0 = (strOfNums (joinB xs)).size
  | [] => by
    have h0 : stepN (strOfNums (joinB [])) 0 = 0 := stepN_end _ 0 (by rw [strOfNums_size]; simp [joinB])
    rw [ptsF_stop _ _ h0, endF_stop _ _ h0, strOfNums_size]
    simp [joinN, joinB]
  | p :: l => by
    have ih := read_joined l
    by_cases hp : encL p = []
    · have h0 : stepN (strOfNums (joinB (p :: l))) 0 = 0 := stepN_end _ 0 (by rw [strOfNums_size]; simp [joinB, hp])
      rw [ptsF_stop _ _ h0, endF_stop _ _ h0, strOfNums_size]
      simp [joinN, joinB, hp]
    · have hj : joinB (p :: l) = encL p ++ joinB l := by simp only [joinB, if_neg hp]
      have hn : joinN (p :: l) = joinN l + 1 := by simp only [joinN, if_neg hp]
      have hpt := enc_isPt p hp
      have hlen := encL_pos p hpt
      rw [hj, hn, strOfNums_append]
      generalize hS : strOfNums (encL p) = S at *
      generalize hT : strOfNums (joinB l) = T at *
      have hSs : S.size = (encL p).length := by rw [← hS, strOfNums_size]
      have hd0 : decF S 0 = (p, (S.size : Int)) := by rw [← hS]; exact put_read p hpt
      have hs0 : stepN S 0 = S.size := by unfold stepN; rw [hd0]; rfl
      have hl := dec_left S T 0 (by rw [hs0]; omega)
      have hs1 : stepN (S ++ T) 0 = S.size := by unfold stepN; rw [hl, hd0]; rfl
      rw [ptsF_go _ 0 (by rw [hs1]; omega), endF_go _ 0 (by rw [hs1]; omega), hs1, hl, hd0, Nat.zero_add]
      have e1 := ptsF_right S T T.size 0 (by omega)
      have e2 := endF_right S T T.size 0 (by omega)
      rw [Nat.add_zero] at e1 e2
      rw [e1, e2, ih.1, ih.2, app_size, List.take_succ_cons]
      exact ⟨rfl, rfl⟩
theorem bytesL_app (s : ByteArray) (n m : Nat) : ∀ a, bytesL s a (n + m) = bytesL s a n ++ bytesL s (a + n) m := by
  induction n with
  | zero => intro a; simp [bytesL]
  | succ n ih =>
    intro a
    rw [show n + 1 + m = (n + m) + 1 from by omega]
    simp only [bytesL, List.cons_append]
    rw [ih (a + 1), show a + 1 + n = a + (n + 1) from by omega]
/-- what is read is written as it was -/
theorem join_read (s : ByteArray) (d : Nat) : ∀ a, s.size - a ≤ d → joinB (ptsF s a) = bytesL s a (endF s a - a) ∧ joinN (ptsF s a) = (ptsF s a).length := by
  induction d with
  | zero =>
    intro a h
    have h0 := stepN_end s a (by omega)
    rw [ptsF_stop s a h0, endF_stop s a h0]
    simp [joinB, joinN, bytesL]
  | succ d ih =>
    intro a h
    have hb := stepN_bd s a
    by_cases h0 : stepN s a = 0
    · rw [ptsF_stop s a h0, endF_stop s a h0]
      simp [joinB, joinN, bytesL]
    · obtain ⟨g1, g2, g3⟩ := decF_enc s a h0
      have hne : encL (decF s a).1 ≠ [] := by
        have := (encL_pos _ g1).1
        intro e; rw [e] at this; simp at this
      have hi := ih (a + stepN s a) (by omega)
      have he := endF_bd s (a + stepN s a) (by omega)
      rw [ptsF_go s a h0, endF_go s a h0]
      simp only [joinB, joinN, if_neg hne, List.length_cons, hi.1, hi.2]
      refine ⟨?_, by trivial⟩
      rw [show endF s (a + stepN s a) - a = stepN s a + (endF s (a + stepN s a) - (a + stepN s a)) from by omega, bytesL_app, g3]
end Go.Proofs.Ytgijjmcjobjoeaa
