import Derived.Test.YtijpbfafkdpolaaDoorP5
import Derived.Test.YtijpbfafkdpolaaDoorS15
namespace Go.Proofs.YtijpbfafkdpolaaDoor
open Go.RowKit Go.Shelf

/-! ### a stamp up to its point, with another end -/
theorem strN_same {s t : ByteArray} {R : List Int} (hz : 19 ≤ s.size) (h : nums t = strN s 0 19 ++ R) (a n : Nat) (hn : a + n ≤ 19) : strN t a n = strN s a n := by
  have hl : (strN s 0 19).length = 19 := strN_len s 0 19 (by omega)
  have e : strN t a n = ((strN s 0 19).drop a).take n := by
    unfold strN at *
    rw [h, List.drop_append_of_le_length (by rw [hl]; omega), List.take_append_of_le_length (by rw [List.length_drop, hl]; omega)]
  rw [e]
  unfold strN
  rw [List.drop_zero, List.drop_take, List.take_take, Nat.min_eq_left (by omega)]
theorem byteF_same {s t : ByteArray} {R : List Int} (hz : 19 ≤ s.size) (h : nums t = strN s 0 19 ++ R) (i : Nat) (hi : i < 19) : byteF t i = byteF s i := by
  have hl : (strN s 0 19).length = 19 := strN_len s 0 19 (by omega)
  unfold byteF
  rw [h, List.getD, List.getElem?_append_left (by rw [hl]; exact hi)]
  unfold strN
  rw [List.drop_zero, List.getElem?_take_of_lt hi]
  rfl
theorem sec_same {s t : ByteArray} {R : List Int} (hk : secOK s = true) (h : nums t = strN s 0 19 ++ R) (hz2 : 20 ≤ t.size) (hl : byteF t (t.size - 1) = 90) (hf : fracX t = false) : secOK t = true ∧ secV t = secV s := by
  obtain ⟨h1, h2, h3, h4, _⟩ := secOK_head hk
  have hz : 19 ≤ s.size := by omega
  have num : ∀ a n, a + n ≤ 19 → numF t a n = numF s a n := fun a n hn => by unfold numF; rw [strN_same hz h a n hn]
  have hh : hF t = hF s := num 11 2 (by omega)
  have hm : miF t = miF s := num 14 2 (by omega)
  have hs : seF t = seF s := num 17 2 (by omega)
  obtain ⟨c4, c7, c10, c13, c16, _⟩ := (sep_iff s).1 h2
  have hsep : sepX t = false := (sep_iff t).2 ⟨(byteF_same hz h 4 (by omega)).trans c4, (byteF_same hz h 7 (by omega)).trans c7, (byteF_same hz h 10 (by omega)).trans c10, (byteF_same hz h 13 (by omega)).trans c13, (byteF_same hz h 16 (by omega)).trans c16, hl⟩
  have hcl : clockX t = false := by unfold clockX at *; rw [hh, hm, hs]; exact h4
  have ok : secOK t = true := by
    unfold secOK
    rw [decide_eq_true hz2, hsep, num 0 4 (by omega), num 5 2 (by omega), num 8 2 (by omega), h3, hcl, hf]
    rfl
  refine ⟨ok, ?_⟩
  unfold secV
  rw [if_pos ok, if_pos hk, num 0 4 (by omega), num 5 2 (by omega), num 8 2 (by omega), hh, hm, hs]
theorem bytes_str (s : ByteArray) (a n : Nat) : bytesI (strN s a n) := by
  intro x hx
  unfold strN nums at hx
  have := List.mem_of_mem_drop (List.mem_of_mem_take hx)
  obtain ⟨b, _, rfl⟩ := List.mem_map.1 this
  have := b.toNat_lt
  omega
theorem bytes_app {x y : List Int} (h : bytesI x) (h' : bytesI y) : bytesI (x ++ y) := by
  intro z hz
  rcases List.mem_append.1 hz with hz | hz
  · exact h z hz
  · exact h' z hz
theorem bytes_one {c : Int} (h : 0 ≤ c ∧ c ≤ 255) : bytesI [c] := by intro z hz; rw [List.mem_singleton.1 hz]; exact h
theorem bytes_digs {l : List Int} (h : l.all digB = true) : bytesI l := by
  intro x hx
  have := List.all_eq_true.1 h x hx
  have := of_decide_eq_true this
  omega
/-- the stamp up to its point, and Z -/
def cutL (s : ByteArray) : List Int := strN s 0 19 ++ [90]
/-- the stamp up to its point, and other digits -/
def otherL (s : ByteArray) (D : List Int) : List Int := strN s 0 19 ++ ([46] ++ (D ++ [90]))
theorem cut_nums (s : ByteArray) : nums (strOfNums (cutL s)) = cutL s := nums_of (bytes_app (bytes_str _ _ _) (bytes_one (by omega)))
theorem other_nums (s : ByteArray) {D : List Int} (hD : D.all digB = true) : nums (strOfNums (otherL s D)) = otherL s D :=
  nums_of (bytes_app (bytes_str _ _ _) (bytes_app (bytes_one (by omega)) (bytes_app (bytes_digs hD) (bytes_one (by omega)))))
theorem cut_secs {s : ByteArray} (hk : secOK s = true) : secOK (strOfNums (cutL s)) = true ∧ secV (strOfNums (cutL s)) = secV s ∧ (strOfNums (cutL s)).size = 20 := by
  have h1 := (secOK_head hk).1
  have hl : (strN s 0 19).length = 19 := strN_len s 0 19 (by omega)
  have hz : (strOfNums (cutL s)).size = 20 := by rw [strOfNums_size]; unfold cutL; rw [List.length_append, hl]; rfl
  have hn := cut_nums s
  obtain ⟨g1, g2⟩ := sec_same hk (R := [90]) hn (by omega) (by
    rw [hz]
    unfold byteF
    rw [hn]
    unfold cutL
    rw [List.getD, List.getElem?_append_right (by omega), hl]
    rfl) (by unfold fracX; rw [hz]; rfl)
  exact ⟨g1, g2, hz⟩
theorem other_secs {s : ByteArray} {D : List Int} (hk : secOK s = true) (hD : D.all digB = true) (hl9 : D.length = 9) (h8 : D.getD 8 0 = 55) : secOK (strOfNums (otherL s D)) = true ∧ secV (strOfNums (otherL s D)) = secV s ∧ (strOfNums (otherL s D)).size = 30 ∧ fracL (strOfNums (otherL s D)) = D := by
  have h1 := (secOK_head hk).1
  have hl : (strN s 0 19).length = 19 := strN_len s 0 19 (by omega)
  have hz : (strOfNums (otherL s D)).size = 30 := by rw [strOfNums_size]; unfold otherL; simp [hl, hl9]
  have hn := other_nums s hD
  have hlast : byteF (strOfNums (otherL s D)) 29 = 90 := by
    unfold byteF
    rw [hn]
    unfold otherL
    rw [List.getD, List.getElem?_append_right (by omega), hl, List.getElem?_append_right (by simp), List.getElem?_append_right (by simp [hl9])]
    simp [hl9]
  have h19 : byteF (strOfNums (otherL s D)) 19 = 46 := by
    unfold byteF
    rw [hn]
    unfold otherL
    rw [List.getD, List.getElem?_append_right (by omega), hl]
    rfl
  have hfr : strN (strOfNums (otherL s D)) 20 9 = D := by
    unfold strN
    rw [hn]
    unfold otherL
    rw [show 20 = (strN s 0 19).length + 1 by omega, List.drop_append, show (strN s 0 19).length + 1 - (strN s 0 19).length = 1 by omega, List.drop_of_length_le (by omega), List.nil_append]
    rw [List.singleton_append, List.drop_succ_cons, List.drop_zero, List.take_append_of_le_length (by omega), List.take_of_length_le (by omega)]
  have h28 : byteF (strOfNums (otherL s D)) 28 = 55 := by
    have e : (strN (strOfNums (otherL s D)) 20 9).getD 8 0 = D.getD 8 0 := by rw [hfr]
    rw [h8, strN_map _ 20 9 (by omega)] at e
    simpa using e
  obtain ⟨g1, g2⟩ := sec_same hk (R := [46] ++ (D ++ [90])) hn (by omega) (by rw [hz]; exact hlast) (by
    unfold fracX
    rw [hz, h19, h28]
    have : numF (strOfNums (otherL s D)) 20 (30 - 21) = decF D := by rw [numF_yes (by rw [show 30 - 21 = 9 from rfl, hfr]; exact hD), show 30 - 21 = 9 from rfl, hfr]
    rw [this]
    have := (decF_bd D hD).1
    rw [decide_eq_false (show ¬ decF D < 0 by omega)]
    rfl)
  refine ⟨g1, g2, hz, ?_⟩
  unfold fracL
  rw [hz]
  exact hfr
theorem cut_less {s : ByteArray} {D : List Int} (hk : secOK s = true) (hD : D.all digB = true) (hl9 : D.length = 9) (h8 : D.getD 8 0 = 55) : cmpV (strOfNums (cutL s)) (strOfNums (otherL s D)) = -1 := by
  obtain ⟨a1, a2, a3⟩ := cut_secs hk
  obtain ⟨b1, b2, b3, b4⟩ := other_secs hk hD hl9 h8
  have p1 : partV (strOfNums (cutL s)) = 0 := by
    unfold partV nineL fracL
    rw [a3, show 20 - 21 = 0 from rfl, strN_zero]
    decide
  have p2 : partV (strOfNums (otherL s D)) = decF D := by
    unfold partV nineL
    rw [b4, b3]
    simp
  have p3 : 0 < decF D := by
    have e : D = D.take 8 ++ [55] := by
      have := take_step D 8 (by omega)
      rw [h8, List.take_of_length_le (by omega)] at this
      exact this
    rw [e, decF_app]
    have hb := decF_bd (D.take 8) (by
      rw [List.all_eq_true] at hD ⊢
      exact fun x hx => hD x (List.mem_of_mem_take hx))
    omega
  unfold cmpV
  rw [if_pos a1, if_pos b1, a2, b2, if_neg (by omega), if_neg (by omega), p1, p2, sgn_lt p3]
theorem cut_made {s : ByteArray} (hk : secOK s = true) : IsMk (secV s) (strOfNums (cutL s)) := by
  obtain ⟨h1, h2, h3, h4, _⟩ := secOK_head hk
  have hf := sec_form hk
  obtain ⟨k1, k2, k3, k4, k5, k6⟩ := (clock_iff s).1 h4
  have hv : secV s = daysF (numF s 0 4) (numF s 5 2) (numF s 8 2) * 86400 + hF s * 3600 + miF s * 60 + seF s := by
    unfold secV
    rw [if_pos hk]
    have : dayV (numF s 0 4) (numF s 5 2) (numF s 8 2) = daysF (numF s 0 4) (numF s 5 2) (numF s 8 2) := by unfold dayV; rw [if_pos h3]
    rw [this]
  have hb := days_bd _ _ _ h3
  refine .inr ⟨(inMk_iff _).2 (by omega), numF s 0 4, numF s 5 2, numF s 8 2, h3, by omega, ?_⟩
  have hr : secV s % 86400 = hF s * 3600 + miF s * 60 + seF s := by omega
  rw [hr]
  congr 1
  obtain ⟨⟨a0, a1, a2, a3⟩, c4, ⟨b0, b1⟩, c7, ⟨d0, d1⟩, c10, ⟨e0, e1⟩, c13, ⟨f0, f1⟩, c16, g0, g1⟩ := (okP_19 s).1 hf
  have dg : ∀ i, digB (byteF s i) = true → 48 ≤ byteF s i ∧ byteF s i ≤ 57 := fun i h => of_decide_eq_true h
  have two : ∀ a, a + 2 ≤ s.size → digB (byteF s a) = true → digB (byteF s (a + 1)) = true → numF s a 2 = (byteF s a - 48) * 10 + (byteF s (a + 1) - 48) := by
    intro a ha q0 q1
    rw [numF_yes (by rw [str2 s a ha]; simp [q0, q1]), str2 s a ha]
    simp [decF]
  have n0 : numF s 0 4 = (byteF s 0 - 48) * 1000 + (byteF s 1 - 48) * 100 + (byteF s 2 - 48) * 10 + (byteF s 3 - 48) := by
    rw [numF_yes (by rw [str4 s 0 (by omega)]; simp [a0, a1, a2, a3]), str4 s 0 (by omega)]
    simp [decF]
    omega
  have n1 := two 5 (by omega) b0 b1
  have n2 := two 8 (by omega) d0 d1
  have n3 : hF s = _ := two 11 (by omega) e0 e1
  have n4 : miF s = _ := two 14 (by omega) f0 f1
  have n5 : seF s = _ := two 17 (by omega) g0 g1
  have r0 := dg _ a0; have r1 := dg _ a1; have r2 := dg _ a2; have r3 := dg _ a3; have r5 := dg _ b0; have r6 := dg _ b1; have r8 := dg _ d0; have r9 := dg _ d1
  have r11 := dg _ e0; have r12 := dg _ e1; have r14 := dg _ f0; have r15 := dg _ f1; have r17 := dg _ g0; have r18 := dg _ g1
  unfold cutL
  rw [strN_map s 0 19 (by omega)]
  have er : List.range 19 = [0, 1, 2, 3, 4, 5, 6, 7, 8, 9, 10, 11, 12, 13, 14, 15, 16, 17, 18] := by decide
  rw [er, n0, n1, n2, n3, n4, n5]
  simp only [List.map_cons, List.map_nil, Nat.zero_add, stampL, fourL, twoL, List.cons_append, List.nil_append, List.cons.injEq, and_true, Nat.reduceAdd] at *
  refine ⟨?_, ?_, ?_, ?_, c4, ?_, ?_, c7, ?_, ?_, c10, ?_, ?_, c13, ?_, ?_, c16, ?_, ?_⟩ <;> omega
end Go.Proofs.YtijpbfafkdpolaaDoor
