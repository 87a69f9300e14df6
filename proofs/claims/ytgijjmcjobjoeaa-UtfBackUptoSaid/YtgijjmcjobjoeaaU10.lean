import Derived.Test.YtgijjmcjobjoeaaU8
namespace Go.Proofs.Ytgijjmcjobjoeaa
open Go.RowKit

def isPt (p : Int) : Prop := 0 ≤ p ∧ p ≤ 1114111 ∧ ¬ (55296 ≤ p ∧ p ≤ 57343)
theorem gb_str (xs : List Int) (h : isB xs) (i : Nat) : gb (strOfNums xs) i = xs.getD i 0 := by
  unfold gb
  rw [strOfNums_data, List.getD, List.getD, List.getElem?_map]
  cases hx : xs[i]? with
  | none => rfl
  | some x =>
    have hb := h x (List.mem_of_getElem? hx)
    simp only [Option.map_some, Option.getD_some, UInt8.toNat_ofNat']
    omega
theorem encL_pos (p : Int) (h : isPt p) : 1 ≤ (encL p).length ∧ (encL p).length ≤ 4 := by
  unfold isPt at h
  unfold encL
  rw [if_neg (by omega)]
  repeat' split
  all_goals simp
/-- where the bytes of a point stand the point is read -/
theorem dec_enc (s : ByteArray) (a : Nat) (p : Int) (h : isPt p) (hs : a + (encL p).length ≤ s.size) (hb : bytesL s a (encL p).length = encL p) : decF s a = (p, ((encL p).length : Int)) := by
  unfold isPt at h
  unfold encL at hb hs ⊢
  rw [if_neg (by omega)] at hb hs ⊢
  by_cases h1 : p < 128
  · rw [if_pos h1] at hb hs ⊢
    simp only [List.length_cons, List.length_nil, bytesL, List.cons.injEq, and_true] at hb hs ⊢
    unfold decF
    rw [if_neg (by omega), if_pos (by omega), hb]; rfl
  rw [if_neg h1] at hb hs ⊢
  by_cases h2 : p < 2048
  · rw [if_pos h2] at hb hs ⊢
    simp only [List.length_cons, List.length_nil, bytesL, List.cons.injEq, and_true] at hb hs ⊢
    obtain ⟨e0, e1⟩ := hb
    unfold decF
    rw [if_neg (by omega), if_neg (by omega), if_neg (by omega), if_pos (by omega), if_pos (by omega), Prod.mk.injEq]
    exact ⟨by omega, rfl⟩
  rw [if_neg h2] at hb hs ⊢
  by_cases h3 : p < 65536
  · rw [if_pos h3] at hb hs ⊢
    simp only [List.length_cons, List.length_nil, bytesL, List.cons.injEq, and_true, Nat.add_assoc, Nat.reduceAdd] at hb hs ⊢
    obtain ⟨e0, e1, e2⟩ := hb
    unfold decF
    rw [if_neg (by omega), if_neg (by omega), if_neg (by omega), if_neg (by omega), if_pos (by omega), if_pos (by omega), Prod.mk.injEq]
    exact ⟨by omega, rfl⟩
  · rw [if_neg h3] at hb hs ⊢
    simp only [List.length_cons, List.length_nil, bytesL, List.cons.injEq, and_true, Nat.add_assoc, Nat.reduceAdd] at hb hs ⊢
    obtain ⟨e0, e1, e2, e3⟩ := hb
    unfold decF
    rw [if_neg (by omega), if_neg (by omega), if_neg (by omega), if_neg (by omega), if_neg (by omega), if_pos (by omega), if_pos (by omega), Prod.mk.injEq]
    exact ⟨by omega, rfl⟩
/-- what is read has just the bytes that stand there -/
theorem decF_enc (s : ByteArray) (a : Nat) (h : stepN s a ≠ 0) : isPt (decF s a).1 ∧ (encL (decF s a).1).length = stepN s a ∧ bytesL s a (stepN s a) = encL (decF s a).1 := by
  have hok := decF_ok s a
  have hg := gb_bd s a
  have hg1 := gb_bd s (a + 1)
  have hg2 := gb_bd s (a + 2)
  have hg3 := gb_bd s (a + 3)
  have hb := (stepN_bd s a).2.2
  refine ⟨by unfold isPt; omega, ?_⟩
  generalize hn : stepN s a = n at *
  generalize hd : decF s a = r at *
  obtain ⟨p, m⟩ := r
  simp only at hb hok ⊢
  subst hb
  unfold decF at hd
  revert hd
  repeat' split
  all_goals (intro hd; rw [Prod.mk.injEq] at hd; obtain ⟨e0, e1⟩ := hd)
  all_goals first | (exfalso; omega) | skip
  · have : n = 1 := by omega
    subst this
    unfold encL
    rw [if_neg (by omega), if_pos (by omega)]
    simp only [List.length_cons, List.length_nil, bytesL, e0, and_self]
  · have : n = 2 := by omega
    subst this
    unfold encL
    rw [if_neg (by omega), if_neg (by omega), if_pos (by omega)]
    simp only [List.length_cons, List.length_nil, bytesL, List.cons.injEq, and_true, true_and]
    omega
  · have : n = 3 := by omega
    subst this
    unfold encL
    rw [if_neg (by omega), if_neg (by omega), if_neg (by omega), if_pos (by omega)]
    simp only [List.length_cons, List.length_nil, bytesL, List.cons.injEq, and_true, true_and, Nat.add_assoc, Nat.reduceAdd]
    omega
  · have : n = 4 := by omega
    subst this
    unfold encL
    rw [if_neg (by omega), if_neg (by omega), if_neg (by omega), if_neg (by omega)]
    simp only [List.length_cons, List.length_nil, bytesL, List.cons.injEq, and_true, true_and, Nat.add_assoc, Nat.reduceAdd]
    omega

theorem bytesL_of (s : ByteArray) (xs : List Int) : ∀ a, (∀ i, i < xs.length → gb s (a + i) = xs.getD i 0) → bytesL s a xs.length = xs := by
  induction xs with
  | nil => intro a _; rfl
  | cons x l ih =>
    intro a h
    have h0 := h 0 (by simp)
    simp only [Nat.add_zero, List.getD_cons_zero] at h0
    simp only [List.length_cons, bytesL, h0]
    rw [ih (a + 1) (fun i hi => by
      have := h (i + 1) (by simpa using hi)
      rw [List.getD_cons_succ] at this
      rw [← this]; congr 1; omega)]
theorem put_read (p : Int) (h : isPt p) : decF (strOfNums (encL p)) 0 = (p, ((strOfNums (encL p)).size : Int)) := by
  have hsz : (strOfNums (encL p)).size = (encL p).length := strOfNums_size _
  rw [hsz]
  refine dec_enc _ 0 p h (by rw [hsz]; omega) (bytesL_of _ _ 0 fun i hi => ?_)
  rw [Nat.zero_add, gb_str _ (encL_isB p)]

/-! ### joined texts -/
theorem app_size (s t : ByteArray) : (s ++ t).size = s.size + t.size := ByteArray.size_append
theorem app_data (s t : ByteArray) : (s ++ t).data.toList = s.data.toList ++ t.data.toList := by
  rw [ByteArray.data_append, Array.toList_append]
theorem gb_left (s t : ByteArray) (i : Nat) (h : i < s.size) : gb (s ++ t) i = gb s i := by
  have hl : i < s.data.toList.length := by simpa using h
  unfold gb
  rw [app_data, List.getD, List.getD, List.getElem?_append_left hl]
theorem gb_right (s t : ByteArray) (i : Nat) : gb (s ++ t) (s.size + i) = gb t i := by
  have hl : s.data.toList.length = s.size := by simp
  unfold gb
  rw [app_data, List.getD, List.getD, List.getElem?_append_right (by omega), hl, Nat.add_sub_cancel_left]
theorem bytesL_left (s t : ByteArray) (n : Nat) : ∀ a, a + n ≤ s.size → bytesL (s ++ t) a n = bytesL s a n := by
  induction n with
  | zero => intro a _; rfl
  | succ n ih =>
    intro a h
    simp only [bytesL]
    rw [gb_left s t a (by omega), ih (a + 1) (by omega)]
theorem dec_left (s t : ByteArray) (a : Nat) (h : stepN s a ≠ 0) : decF (s ++ t) a = decF s a := by
  obtain ⟨h1, h2, h3⟩ := decF_enc s a h
  have hb := stepN_bd s a
  have e := dec_enc (s ++ t) a (decF s a).1 h1 (by rw [app_size]; omega) (by rw [h2, bytesL_left s t _ a (by omega), h3])
  rw [e, h2, ← hb.2.2]
theorem dec_right (s t : ByteArray) (a : Nat) : decF (s ++ t) (s.size + a) = decF t a := by
  unfold decF
  simp only [Nat.add_assoc, gb_right, app_size, Nat.add_le_add_iff_left, Nat.add_lt_add_iff_left]
theorem stepN_right (s t : ByteArray) (a : Nat) : stepN (s ++ t) (s.size + a) = stepN t a := by
  unfold stepN; rw [dec_right]
theorem endF_right (s t : ByteArray) (d : Nat) : ∀ a, t.size - a ≤ d → endF (s ++ t) (s.size + a) = s.size + endF t a := by
  induction d with
  | zero =>
    intro a h
    have h0 := stepN_end t a (by omega)
    rw [endF_stop _ _ (by rw [stepN_right]; exact h0), endF_stop t a h0]
  | succ d ih =>
    intro a h
    have hb := stepN_bd t a
    by_cases h0 : stepN t a = 0
    · rw [endF_stop _ _ (by rw [stepN_right]; exact h0), endF_stop t a h0]
    · rw [endF_go _ _ (by rw [stepN_right]; exact h0), endF_go t a h0, stepN_right, Nat.add_assoc]
      exact ih _ (by omega)
theorem endF_app (s t : ByteArray) (d : Nat) : ∀ a, s.size - a ≤ d → a ≤ s.size → endF s a = s.size → endF (s ++ t) a = s.size + endF t 0 := by
  induction d with
  | zero =>
    intro a h ha _
    have : a = s.size + 0 := by omega
    rw [this]
    exact endF_right s t _ 0 (Nat.le_refl _)
  | succ d ih =>
    intro a h ha he
    have hb := stepN_bd s a
    by_cases h0 : stepN s a = 0
    · rw [endF_stop s a h0] at he
      have : a = s.size + 0 := by omega
      rw [this]
      exact endF_right s t _ 0 (Nat.le_refl _)
    · have e : stepN (s ++ t) a = stepN s a := by unfold stepN; rw [dec_left s t a h0]
      rw [endF_go s a h0] at he
      rw [endF_go _ a (by rw [e]; exact h0), e]
      exact ih _ (by omega) (by omega) he
end Go.Proofs.Ytgijjmcjobjoeaa
