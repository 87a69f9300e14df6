import Derived.Test.YtijpbfafkdpolaaDoorS5
namespace Go.Proofs.YtijpbfafkdpolaaDoor
open Go.RowKit Go.Shelf

/-! ### how a stamp begins and ends, as the program has it: the plain law -/
theorem strN_map (s : ByteArray) (a : Nat) : ∀ n, a + n ≤ s.size → strN s a n = (List.range n).map fun i => byteF s (a + i)
  | 0, _ => by rw [strN_zero]; rfl
  | n + 1, h => by
    rw [strN_succ s a n (by omega), strN_map s a n (by omega), List.range_succ, List.map_append, ← byteF_at s (a + n) (by omega)]
    rfl
theorem str2 (s : ByteArray) (a : Nat) (h : a + 2 ≤ s.size) : strN s a 2 = [byteF s a, byteF s (a + 1)] := by rw [strN_map s a 2 h]; rfl
theorem str4 (s : ByteArray) (a : Nat) (h : a + 4 ≤ s.size) : strN s a 4 = [byteF s a, byteF s (a + 1), byteF s (a + 2), byteF s (a + 3)] := by rw [strN_map s a 4 h]; rfl
theorem numF_yes {s : ByteArray} {a n : Nat} (h : (strN s a n).all digB = true) : numF s a n = decF (strN s a n) := by unfold numF; rw [if_pos h]
theorem numF_no {s : ByteArray} {a n : Nat} (h : 0 ≤ numF s a n) : (strN s a n).all digB = true := by
  cases hc : (strN s a n).all digB with
  | true => rfl
  | false => unfold numF at h; rw [hc, if_neg (by decide)] at h; omega
/-- the bytes of the form -/
def formL : List Int := [48, 48, 48, 48, 45, 48, 48, 45, 48, 48, 84, 48, 48, 58, 48, 48, 58, 48, 48]
def rightB (f c : Int) : Bool := if f = 48 then digB c else decide (c = f)
def okP (s : ByteArray) (k : Nat) : Bool := (List.range k).all fun i => rightB (formL.getD i 0) (byteF s i)
theorem okP_succ (s : ByteArray) (k : Nat) : okP s (k + 1) = (okP s k && rightB (formL.getD k 0) (byteF s k)) := by
  unfold okP
  rw [List.range_succ, List.all_append]
  simp
theorem okP_le (s : ByteArray) (k : Nat) : ∀ j, okP s (k + j) = true → okP s k = true
  | 0, h => h
  | j + 1, h => by
    rw [show k + (j + 1) = k + j + 1 by omega, okP_succ, Bool.and_eq_true] at h
    exact okP_le s k j h.1
theorem okP_no (s : ByteArray) (k : Nat) (h : rightB (formL.getD k 0) (byteF s k) = false) (hk : k < 19) : okP s 19 = false := by
  cases hc : okP s 19 with
  | false => rfl
  | true =>
    have h1 := okP_le s (k + 1) (19 - (k + 1)) (by rw [show k + 1 + (19 - (k + 1)) = 19 by omega]; exact hc)
    rw [okP_succ, h] at h1
    simp at h1
theorem okP_19 (s : ByteArray) : okP s 19 = true ↔
    ((digB (byteF s 0) = true ∧ digB (byteF s 1) = true ∧ digB (byteF s 2) = true ∧ digB (byteF s 3) = true) ∧ byteF s 4 = 45 ∧ (digB (byteF s 5) = true ∧ digB (byteF s 6) = true) ∧ byteF s 7 = 45 ∧ (digB (byteF s 8) = true ∧ digB (byteF s 9) = true) ∧ byteF s 10 = 84 ∧
     (digB (byteF s 11) = true ∧ digB (byteF s 12) = true) ∧ byteF s 13 = 58 ∧ (digB (byteF s 14) = true ∧ digB (byteF s 15) = true) ∧ byteF s 16 = 58 ∧ (digB (byteF s 17) = true ∧ digB (byteF s 18) = true)) := by
  have e : List.range 19 = [0, 1, 2, 3, 4, 5, 6, 7, 8, 9, 10, 11, 12, 13, 14, 15, 16, 17, 18] := by decide
  unfold okP
  rw [e]
  simp only [List.all_cons, List.all_nil, Bool.and_true, formL, List.getD_cons_zero, List.getD_cons_succ, rightB, if_true, Bool.and_eq_true, show ¬ ((45 : Int) = 48) by decide, show ¬ ((84 : Int) = 48) by decide, show ¬ ((58 : Int) = 48) by decide, if_false, decide_eq_true_eq]
  constructor
  · rintro ⟨h0, h1, h2, h3, h4, h5, h6, h7, h8, h9, h10, h11, h12, h13, h14, h15, h16, h17, h18⟩
    exact ⟨⟨h0, h1, h2, h3⟩, h4, ⟨h5, h6⟩, h7, ⟨h8, h9⟩, h10, ⟨h11, h12⟩, h13, ⟨h14, h15⟩, h16, h17, h18⟩
  · rintro ⟨⟨h0, h1, h2, h3⟩, h4, ⟨h5, h6⟩, h7, ⟨h8, h9⟩, h10, ⟨h11, h12⟩, h13, ⟨h14, h15⟩, h16, h17, h18⟩
    exact ⟨h0, h1, h2, h3, h4, h5, h6, h7, h8, h9, h10, h11, h12, h13, h14, h15, h16, h17, h18⟩
/-- what stands behind the first nineteen bytes -/
def tailF (t : ByteArray) : Bool := (decide (t.size = 1) && decide (byteF t 0 = 90)) || (decide (3 ≤ t.size) && (decide (t.size ≤ 11) && (decide (byteF t 0 = 46) && (decide (byteF t (t.size - 1) = 90) && (!decide (byteF t (t.size - 2) = 48) && (strN t 1 (t.size - 2)).all digB)))))
theorem byteF_ext (s : ByteArray) (i : Nat) (h : 19 + i < s.size) : byteF (s.extract 19 s.size) i = byteF s (19 + i) := by
  rw [byteF_at _ i (by simp; omega), byteF_at s (19 + i) h, ByteArray.getElem_extract]
theorem strN_ext (s : ByteArray) (a n : Nat) (h : 19 + a + n ≤ s.size) : strN (s.extract 19 s.size) a n = strN s (19 + a) n := by
  rw [strN_map _ a n (by simp; omega), strN_map s (19 + a) n (by omega)]
  apply List.map_congr_left
  intro i hi
  rw [List.mem_range] at hi
  rw [byteF_ext s (a + i) (by omega)]
  rw [show 19 + (a + i) = 19 + a + i by omega]
theorem secOK_head {s : ByteArray} (h : secOK s = true) : 20 ≤ s.size ∧ sepX s = false ∧ okD (numF s 0 4) (numF s 5 2) (numF s 8 2) = true ∧ clockX s = false ∧ fracX s = false := by
  unfold secOK at h
  simp only [Bool.and_eq_true, decide_eq_true_eq, Bool.not_eq_true'] at h
  obtain ⟨h1, h2, h3, h4, h5⟩ := h
  exact ⟨h1, h2, h3, h4, h5⟩
theorem digs2 {s : ByteArray} {a : Nat} (ha : a + 2 ≤ s.size) (h : 0 ≤ numF s a 2) : digB (byteF s a) = true ∧ digB (byteF s (a + 1)) = true := by
  have := numF_no h
  rw [str2 s a ha] at this
  simpa using this
theorem digs4 {s : ByteArray} {a : Nat} (ha : a + 4 ≤ s.size) (h : 0 ≤ numF s a 4) : digB (byteF s a) = true ∧ digB (byteF s (a + 1)) = true ∧ digB (byteF s (a + 2)) = true ∧ digB (byteF s (a + 3)) = true := by
  have := numF_no h
  rw [str4 s a ha] at this
  simpa using this
theorem sep_iff (s : ByteArray) : sepX s = false ↔ (byteF s 4 = 45 ∧ byteF s 7 = 45 ∧ byteF s 10 = 84 ∧ byteF s 13 = 58 ∧ byteF s 16 = 58 ∧ byteF s (s.size - 1) = 90) := by
  unfold sepX
  simp only [Bool.or_eq_false_iff, bne_eq_false_iff_eq]
  constructor
  · rintro ⟨⟨⟨⟨⟨a, b⟩, c⟩, d⟩, e⟩, f⟩; exact ⟨a, b, c, d, e, f⟩
  · rintro ⟨a, b, c, d, e, f⟩; exact ⟨⟨⟨⟨⟨a, b⟩, c⟩, d⟩, e⟩, f⟩
theorem clock_iff (s : ByteArray) : clockX s = false ↔ (0 ≤ hF s ∧ hF s ≤ 23 ∧ 0 ≤ miF s ∧ miF s ≤ 59 ∧ 0 ≤ seF s ∧ seF s ≤ 59) := by
  unfold clockX
  simp only [Bool.or_eq_false_iff, decide_eq_false_iff_not]
  omega
theorem sec_form {s : ByteArray} (h : secOK s = true) : okP s 19 = true := by
  obtain ⟨h1, h2, h3, h4, h5⟩ := secOK_head h
  obtain ⟨c4, c7, c10, c13, c16, cz⟩ := (sep_iff s).1 h2
  obtain ⟨k1, k2, k3, k4, k5, k6⟩ := (clock_iff s).1 h4
  obtain ⟨d1, d2, d3, d4, d5, d6⟩ := (okD_iff _ _ _).1 h3
  exact (okP_19 s).2 ⟨digs4 (a := 0) (by omega) d1, c4, digs2 (a := 5) (by omega) (by omega), c7, digs2 (a := 8) (by omega) (by omega), c10, digs2 (a := 11) (by omega) k1, c13, digs2 (a := 14) (by omega) k3, c16, digs2 (a := 17) (by omega) k5⟩
theorem sec_no_form {s : ByteArray} (h : okP s 19 = false) : secOK s = false := by
  cases hc : secOK s with
  | false => rfl
  | true => rw [sec_form hc] at h; cases h
theorem form_nums {s : ByteArray} (hz : 19 ≤ s.size) (h : okP s 19 = true) : (0 ≤ numF s 0 4 ∧ numF s 0 4 ≤ 9999) ∧ (0 ≤ numF s 5 2 ∧ numF s 5 2 ≤ 99) ∧ (0 ≤ numF s 8 2 ∧ numF s 8 2 ≤ 99) ∧ (0 ≤ numF s 11 2 ∧ numF s 11 2 ≤ 99) ∧ (0 ≤ numF s 14 2 ∧ numF s 14 2 ≤ 99) ∧ (0 ≤ numF s 17 2 ∧ numF s 17 2 ≤ 99) := by
  obtain ⟨⟨a0, a1, a2, a3⟩, _, ⟨b0, b1⟩, _, ⟨c0, c1⟩, _, ⟨d0, d1⟩, _, ⟨e0, e1⟩, _, f0, f1⟩ := (okP_19 s).1 h
  have two : ∀ a, a + 2 ≤ s.size → digB (byteF s a) = true → digB (byteF s (a + 1)) = true → 0 ≤ numF s a 2 ∧ numF s a 2 ≤ 99 := by
    intro a ha h0 h1
    have hd : (strN s a 2).all digB = true := by rw [str2 s a ha]; simp [h0, h1]
    have hb := decF_bd _ hd
    rw [strN_len s a 2 ha] at hb
    rw [numF_yes hd]
    have : (10 : Int) ^ 2 = 100 := by decide
    omega
  refine ⟨?_, two 5 (by omega) b0 b1, two 8 (by omega) c0 c1, two 11 (by omega) d0 d1, two 14 (by omega) e0 e1, two 17 (by omega) f0 f1⟩
  have hd : (strN s 0 4).all digB = true := by rw [str4 s 0 (by omega)]; simp [a0, a1, a2, a3]
  have hb := decF_bd _ hd
  rw [strN_len s 0 4 (by omega)] at hb
  rw [numF_yes hd]
  have : (10 : Int) ^ 4 = 10000 := by decide
  omega
theorem tail_frac {s : ByteArray} (hz : 20 ≤ s.size) : tailF (s.extract 19 s.size) = (decide (byteF s (s.size - 1) = 90) && !fracX s) := by
  have es : (s.extract 19 s.size).size = s.size - 19 := by simp
  by_cases h20 : s.size = 20
  · have hf : fracX s = false := by unfold fracX; rw [decide_eq_false (by omega)]; rfl
    rw [hf]
    unfold tailF
    rw [es, byteF_ext s 0 (by omega), decide_eq_true (show s.size - 19 = 1 by omega), decide_eq_false (show ¬ 3 ≤ s.size - 19 by omega), h20]
    simp
  · unfold tailF fracX
    rw [es, decide_eq_false (show ¬ s.size - 19 = 1 by omega), byteF_ext s 0 (by omega), byteF_ext s (s.size - 19 - 1) (by omega), decide_eq_true (show 20 < s.size by omega)]
    rw [show 19 + (s.size - 19 - 1) = s.size - 1 by omega, show 19 + 0 = 19 by omega]
    by_cases h22 : s.size < 22
    · rw [decide_eq_false (show ¬ 3 ≤ s.size - 19 by omega), decide_eq_true h22]
      simp
    · rw [decide_eq_true (show 3 ≤ s.size - 19 by omega), decide_eq_false h22]
      by_cases h30 : 30 < s.size
      · rw [decide_eq_false (show ¬ s.size - 19 ≤ 11 by omega), decide_eq_true h30]
        simp
      · rw [decide_eq_true (show s.size - 19 ≤ 11 by omega), decide_eq_false h30, byteF_ext s (s.size - 19 - 2) (by omega), show 19 + (s.size - 19 - 2) = s.size - 2 by omega, strN_ext s 1 (s.size - 19 - 2) (by omega), show s.size - 19 - 2 = s.size - 21 by omega]
        have hn : decide (numF s 20 (s.size - 21) < 0) = !(strN s 20 (s.size - 21)).all digB := by
          cases hc : (strN s 20 (s.size - 21)).all digB with
          | false => unfold numF; rw [hc]; rfl
          | true =>
            rw [numF_yes hc]
            have := decF_bd _ hc
            rw [decide_eq_false (by omega)]
            rfl
        rw [hn]
        cases decide (byteF s (s.size - 1) = 90) <;> cases h19 : decide (byteF s 19 = 46) <;> cases hk : decide (byteF s (s.size - 2) = 48) <;> cases (strN s 20 (s.size - 21)).all digB <;> simp_all
/-- the program's way of telling is the reference's -/
theorem sec_program {s : ByteArray} (hz : 19 ≤ s.size) (h : okP s 19 = true) : secOK s = (tailF (s.extract 19 s.size) && (!decide (23 < hF s) && (!decide (59 < miF s) && (!decide (59 < seF s) && okD (numF s 0 4) (numF s 5 2) (numF s 8 2))))) := by
  obtain ⟨_, c4, _, c7, _, c10, _, c13, _, c16, _⟩ := (okP_19 s).1 h
  obtain ⟨_, _, _, n1, n2, n3⟩ := form_nums hz h
  by_cases h20 : 20 ≤ s.size
  · rw [tail_frac h20]
    unfold secOK
    rw [decide_eq_true h20]
    have hs : sepX s = !decide (byteF s (s.size - 1) = 90) := by
      cases hc : decide (byteF s (s.size - 1) = 90) with
      | true => exact (sep_iff s).2 ⟨c4, c7, c10, c13, c16, of_decide_eq_true hc⟩
      | false =>
        cases hd : sepX s with
        | true => rfl
        | false => exact absurd ((sep_iff s).1 hd).2.2.2.2.2 (of_decide_eq_false hc)
    have hk : clockX s = (decide (23 < hF s) || decide (59 < miF s) || decide (59 < seF s)) := by
      unfold clockX
      rw [decide_eq_false (show ¬ hF s < 0 by unfold hF; omega), decide_eq_false (show ¬ miF s < 0 by unfold miF; omega), decide_eq_false (show ¬ seF s < 0 by unfold seF; omega)]
      simp
    rw [hs, hk]
    cases decide (byteF s (s.size - 1) = 90) <;> cases fracX s <;> cases decide (23 < hF s) <;> cases decide (59 < miF s) <;> cases decide (59 < seF s) <;> cases okD (numF s 0 4) (numF s 5 2) (numF s 8 2) <;> rfl
  · have ht : tailF (s.extract 19 s.size) = false := by
      unfold tailF
      have es : (s.extract 19 s.size).size = s.size - 19 := by simp
      rw [es, decide_eq_false (show ¬ s.size - 19 = 1 by omega), decide_eq_false (show ¬ 3 ≤ s.size - 19 by omega)]
      simp
    rw [ht]
    unfold secOK
    rw [decide_eq_false h20]
    simp
end Go.Proofs.YtijpbfafkdpolaaDoor
