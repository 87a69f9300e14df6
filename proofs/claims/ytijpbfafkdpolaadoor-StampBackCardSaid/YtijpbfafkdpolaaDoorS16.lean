import Derived.Test.YtijpbfafkdpolaaDoorS15
namespace Go.Proofs.YtijpbfafkdpolaaDoor
open Go.RowKit Go.Shelf

def cmpV (a b : ByteArray) : Int :=
  if secOK a = true then (if secOK b = true then (if secV a < secV b then -1 else if secV b < secV a then 1 else sgn (partV a) (partV b)) else 1)
  else (if secOK b = true then -1 else Lib.compareBytes a.data.toList b.data.toList)
theorem cmp_less : ∀ (l l' : List UInt8), (Lib.compareBytes l l' = -1 ∧ Op.bytesLess l l' = true) ∨ (Lib.compareBytes l l' = 0 ∧ l = l' ∧ Op.bytesLess l l' = false) ∨ (Lib.compareBytes l l' = 1 ∧ Op.bytesLess l l' = false ∧ l ≠ l')
  | [], [] => .inr (.inl ⟨rfl, rfl, rfl⟩)
  | [], _ :: _ => .inl ⟨rfl, rfl⟩
  | _ :: _, [] => .inr (.inr ⟨rfl, rfl, by simp⟩)
  | a :: x, b :: y => by
    have ih := cmp_less x y
    unfold Lib.compareBytes Op.bytesLess
    by_cases h1 : a < b
    · left; simp [h1]
    · by_cases h2 : b < a
      · right; right
        have hne : a ≠ b := by rintro rfl; exact h1 h2
        simp [h1, h2, hne]
      · have he : a = b := UInt8.toNat_inj.1 (by rw [UInt8.lt_iff_toNat_lt] at h1 h2; omega)
        subst he
        simpa [h1] using ih
theorem sgn_at (x y : Int) : (sgn x y = -1 ∧ x < y) ∨ (sgn x y = 1 ∧ y < x) ∨ (sgn x y = 0 ∧ x = y) := by
  unfold sgn
  by_cases h1 : x < y
  · left; simp [h1]
  · by_cases h2 : y < x
    · right; left; simp [h1, h2]
    · right; right; simp [h1, h2]; omega

set_option maxHeartbeats 2000000 in
theorem compare_any (a b : ByteArray) (ha : a.size ≤ 140737488355328) (hb : b.size ≤ 140737488355328) (w : World) : Calls Tryd.prog 18 #[.string a, .string b] w fun e w' => e = .returned (.int .i64 (cmpV a b)) ∧ Below w.heap.size w w' := by
  obtain ⟨x, hx⟩ : ∃ x, secV a = x := ⟨_, rfl⟩
  obtain ⟨y, hy⟩ : ∃ x, secV b = x := ⟨_, rfl⟩
  cases ho : secOK a with
  | false =>
    cases hi : secOK b with
    | false =>
      have HA := Lib.hid (secs_at a x false hx ho ha)
      have HB := Lib.hid (secs_at b y false hy hi hb)
      have HR : Hid (cmpV a b = Lib.compareBytes a.data.toList b.data.toList) := Lib.hid (by unfold cmpV; rw [ho, hi]; rfl)
      clear hx hy ho hi
      go_enter Tryd.func18, Tryd.ntmps18
      go_wp2_with fail
      refine (HA.out _).mono ?_
      rintro e w1 ⟨rfl, hb1⟩
      have B1 := Lib.hid hb1
      have g1 := hb1.size
      clear hb1
      go_wp2_with fail
      refine (HB.out _).mono ?_
      rintro e w2 ⟨rfl, hb1⟩
      have B2 := Lib.hid (B1.out.trans (hb1.mono g1))
      clear hb1
      go_wp2_with fail
      refine (Tryd.strings_Compare a b _).mono ?_
      rintro e w3 ⟨rfl, rfl⟩
      go_wp2_with fail
      go_ret
      exact ⟨ret_int HR.out.symm, B2.out⟩
    | true =>
      have HA := Lib.hid (secs_at a x false hx ho ha)
      have HB := Lib.hid (secs_at b y true hy hi hb)
      have HR : Hid (cmpV a b = -1) := Lib.hid (by unfold cmpV; rw [ho, hi]; rfl)
      clear hx hy ho hi
      go_enter Tryd.func18, Tryd.ntmps18
      go_wp2_with fail
      refine (HA.out _).mono ?_
      rintro e w1 ⟨rfl, hb1⟩
      have B1 := Lib.hid hb1
      have g1 := hb1.size
      clear hb1
      go_wp2_with fail
      refine (HB.out _).mono ?_
      rintro e w2 ⟨rfl, hb1⟩
      have B2 := Lib.hid (B1.out.trans (hb1.mono g1))
      clear hb1
      go_wp2_with fail
      go_ret
      exact ⟨ret_int HR.out.symm, B2.out⟩
  | true =>
    cases hi : secOK b with
    | false =>
      have HA := Lib.hid (secs_at a x true hx ho ha)
      have HB := Lib.hid (secs_at b y false hy hi hb)
      have HR : Hid (cmpV a b = 1) := Lib.hid (by unfold cmpV; rw [ho, hi]; rfl)
      clear hx hy ho hi
      go_enter Tryd.func18, Tryd.ntmps18
      go_wp2_with fail
      refine (HA.out _).mono ?_
      rintro e w1 ⟨rfl, hb1⟩
      have B1 := Lib.hid hb1
      have g1 := hb1.size
      clear hb1
      go_wp2_with fail
      refine (HB.out _).mono ?_
      rintro e w2 ⟨rfl, hb1⟩
      have B2 := Lib.hid (B1.out.trans (hb1.mono g1))
      clear hb1
      go_wp2_with fail
      go_ret
      exact ⟨ret_int HR.out.symm, B2.out⟩
    | true =>
      obtain ⟨S, hS⟩ : ∃ S, strOfNums (partL a) = S := ⟨_, rfl⟩
      obtain ⟨T, hT⟩ : ∃ S, strOfNums (partL b) = S := ⟨_, rfl⟩
      have HS := Lib.hid (part_at a S hS ha ho)
      have HT := Lib.hid (part_at b T hT hb hi)
      have HP := Lib.hid (part_cmp ho hi)
      rw [hS, hT] at HP
      have HA := Lib.hid (secs_at a x true hx ho ha)
      have HB := Lib.hid (secs_at b y true hy hi hb)
      have HR : Hid (cmpV a b = if x < y then -1 else if y < x then 1 else sgn (partV a) (partV b)) := Lib.hid (by unfold cmpV; rw [ho, hi, hx, hy]; rfl)
      clear hx hy ho hi hS hT
      rcases (by omega : x < y ∨ y < x ∨ x = y) with h | h | h
      · have HR2 : Hid (cmpV a b = -1) := Lib.hid (by rw [HR.out, if_pos h])
        clear HR
        go_enter Tryd.func18, Tryd.ntmps18
        go_wp2_with fail
        refine (HA.out _).mono ?_
        rintro e w1 ⟨rfl, hb1⟩
        have B1 := Lib.hid hb1
        have g1 := hb1.size
        clear hb1
        go_wp2_with fail
        refine (HB.out _).mono ?_
        rintro e w2 ⟨rfl, hb1⟩
        have B2 := Lib.hid (B1.out.trans (hb1.mono g1))
        clear hb1
        go_wp2_with fail
        go_ret
        exact ⟨ret_int HR2.out.symm, B2.out⟩
      · have HR2 : Hid (cmpV a b = 1) := Lib.hid (by rw [HR.out, if_neg (by omega), if_pos h])
        clear HR
        go_enter Tryd.func18, Tryd.ntmps18
        go_wp2_with fail
        refine (HA.out _).mono ?_
        rintro e w1 ⟨rfl, hb1⟩
        have B1 := Lib.hid hb1
        have g1 := hb1.size
        clear hb1
        go_wp2_with fail
        refine (HB.out _).mono ?_
        rintro e w2 ⟨rfl, hb1⟩
        have B2 := Lib.hid (B1.out.trans (hb1.mono g1))
        clear hb1
        go_wp2_with fail
        go_ret
        exact ⟨ret_int HR2.out.symm, B2.out⟩
      · have HR2 : Hid (Lib.compareBytes S.data.toList T.data.toList = cmpV a b) := Lib.hid (by rw [HR.out, if_neg (by omega), if_neg (by omega)]; exact HP.out)
        obtain rfl : x = y := h
        clear HR HP
        go_enter Tryd.func18, Tryd.ntmps18
        go_wp2_with fail
        refine (HA.out _).mono ?_
        rintro e w1 ⟨rfl, hb1⟩
        have B1 := Lib.hid hb1
        have g1 := hb1.size
        clear hb1
        go_wp2_with fail
        refine (HB.out _).mono ?_
        rintro e w2 ⟨rfl, hb1⟩
        have B2 := Lib.hid (B1.out.trans (hb1.mono g1))
        have g2 := Nat.le_trans g1 hb1.size
        clear hb1
        go_wp2_with fail
        refine (HS.out _).mono ?_
        rintro e w3 ⟨rfl, hb1⟩
        have B3 := Lib.hid (B2.out.trans (hb1.mono g2))
        have g3 := Nat.le_trans g2 hb1.size
        clear hb1
        go_wp2_with fail
        refine (HT.out _).mono ?_
        rintro e w4 ⟨rfl, hb1⟩
        have B4 := Lib.hid (B3.out.trans (hb1.mono g3))
        clear hb1
        go_wp2_with fail
        refine (Tryd.strings_Compare S T _).mono ?_
        rintro e w5 ⟨rfl, rfl⟩
        go_wp2_with fail
        go_ret
        exact ⟨ret_int HR2.out, B4.out⟩

set_option maxHeartbeats 2000000 in
theorem rcompare_any (a b : ByteArray) (ha : a.size ≤ 140737488355328) (hb : b.size ≤ 140737488355328) (w : World) : Calls Tryd.prog 19 #[.string a, .string b] w fun e w' => e = .returned (.int .i64 (cmpV a b)) ∧ w = w' := by
  obtain ⟨x, hx⟩ : ∃ x, secV a = x := ⟨_, rfl⟩
  obtain ⟨y, hy⟩ : ∃ x, secV b = x := ⟨_, rfl⟩
  cases ho : secOK a with
  | false =>
    cases hi : secOK b with
    | false =>
      have HA := Lib.hid (rsecs_at a x false hx ho ha)
      have HB := Lib.hid (rsecs_at b y false hy hi hb)
      have HR : Hid (cmpV a b = Lib.compareBytes a.data.toList b.data.toList) := Lib.hid (by unfold cmpV; rw [ho, hi]; rfl)
      clear hx hy ho hi
      have hcl := cmp_less a.data.toList b.data.toList
      have e1 : Op.bytesLess a.toList b.toList = Op.bytesLess a.data.toList b.data.toList := by rw [ByteArray.toList_eq, ByteArray.toList_eq]
      have e2 : (a.toList == b.toList) = (a.data.toList == b.data.toList) := by rw [ByteArray.toList_eq, ByteArray.toList_eq]
      rcases hcl with ⟨h1, h2⟩ | ⟨h1, h2, h3⟩ | ⟨h1, h2, h3⟩
      · rw [h2] at e1
        rw [h1] at HR
        clear e2 h1 h2
        go_enter Tryd.func19, Tryd.ntmps19
        go_wp2_with fail
        refine (HA.out _).mono ?_
        rintro e w1 ⟨rfl, rfl⟩
        go_wp2_with fail
        refine (HB.out _).mono ?_
        rintro e w1 ⟨rfl, rfl⟩
        go_wp2_with fail
        go_ret
        exact ⟨ret_int HR.out.symm, rfl⟩
      · rw [h3] at e1
        rw [h1] at HR
        rw [beq_iff_eq.2 h2] at e2
        clear h1 h2 h3
        go_enter Tryd.func19, Tryd.ntmps19
        go_wp2_with fail
        refine (HA.out _).mono ?_
        rintro e w1 ⟨rfl, rfl⟩
        go_wp2_with fail
        refine (HB.out _).mono ?_
        rintro e w1 ⟨rfl, rfl⟩
        go_wp2_with fail
        go_ret
        exact ⟨ret_int HR.out.symm, rfl⟩
      · rw [h2] at e1
        rw [h1] at HR
        rw [beq_eq_false_iff_ne.2 h3] at e2
        clear h1 h2 h3
        go_enter Tryd.func19, Tryd.ntmps19
        go_wp2_with fail
        refine (HA.out _).mono ?_
        rintro e w1 ⟨rfl, rfl⟩
        go_wp2_with fail
        refine (HB.out _).mono ?_
        rintro e w1 ⟨rfl, rfl⟩
        go_wp2_with fail
        go_ret
        exact ⟨ret_int HR.out.symm, rfl⟩
    | true =>
      have HA := Lib.hid (rsecs_at a x false hx ho ha)
      have HB := Lib.hid (rsecs_at b y true hy hi hb)
      have HR : Hid (cmpV a b = -1) := Lib.hid (by unfold cmpV; rw [ho, hi]; rfl)
      clear hx hy ho hi
      go_enter Tryd.func19, Tryd.ntmps19
      go_wp2_with fail
      refine (HA.out _).mono ?_
      rintro e w1 ⟨rfl, rfl⟩
      go_wp2_with fail
      refine (HB.out _).mono ?_
      rintro e w1 ⟨rfl, rfl⟩
      go_wp2_with fail
      go_ret
      exact ⟨ret_int HR.out.symm, rfl⟩
  | true =>
    cases hi : secOK b with
    | false =>
      have HA := Lib.hid (rsecs_at a x true hx ho ha)
      have HB := Lib.hid (rsecs_at b y false hy hi hb)
      have HR : Hid (cmpV a b = 1) := Lib.hid (by unfold cmpV; rw [ho, hi]; rfl)
      clear hx hy ho hi
      go_enter Tryd.func19, Tryd.ntmps19
      go_wp2_with fail
      refine (HA.out _).mono ?_
      rintro e w1 ⟨rfl, rfl⟩
      go_wp2_with fail
      refine (HB.out _).mono ?_
      rintro e w1 ⟨rfl, rfl⟩
      go_wp2_with fail
      go_ret
      exact ⟨ret_int HR.out.symm, rfl⟩
    | true =>
      obtain ⟨p, hp⟩ : ∃ S, partV a = S := ⟨_, rfl⟩
      obtain ⟨q, hq⟩ : ∃ S, partV b = S := ⟨_, rfl⟩
      have HS := Lib.hid (rpart_at a p hp ha ho)
      have HT := Lib.hid (rpart_at b q hq hb hi)
      have HA := Lib.hid (rsecs_at a x true hx ho ha)
      have HB := Lib.hid (rsecs_at b y true hy hi hb)
      have HR : Hid (cmpV a b = if x < y then -1 else if y < x then 1 else sgn p q) := Lib.hid (by unfold cmpV; rw [ho, hi, hx, hy, hp, hq]; rfl)
      clear hx hy ho hi hp hq
      rcases (by omega : x < y ∨ y < x ∨ x = y) with h | h | h
      · have HR2 : Hid (cmpV a b = -1) := Lib.hid (by rw [HR.out, if_pos h])
        have b0 : (x == y) = false := beq_eq_false_iff_ne.2 (by omega)
        clear HR
        go_enter Tryd.func19, Tryd.ntmps19
        go_wp2_with fail
        refine (HA.out _).mono ?_
        rintro e w1 ⟨rfl, rfl⟩
        go_wp2_with fail
        refine (HB.out _).mono ?_
        rintro e w1 ⟨rfl, rfl⟩
        go_wp2_with fail
        go_ret
        exact ⟨ret_int HR2.out.symm, rfl⟩
      · have HR2 : Hid (cmpV a b = 1) := Lib.hid (by rw [HR.out, if_neg (by omega), if_pos h])
        have b0 : (x == y) = false := beq_eq_false_iff_ne.2 (by omega)
        clear HR
        go_enter Tryd.func19, Tryd.ntmps19
        go_wp2_with fail
        refine (HA.out _).mono ?_
        rintro e w1 ⟨rfl, rfl⟩
        go_wp2_with fail
        refine (HB.out _).mono ?_
        rintro e w1 ⟨rfl, rfl⟩
        go_wp2_with fail
        go_ret
        exact ⟨ret_int HR2.out.symm, rfl⟩
      · have HR2 : Hid (sgn p q = cmpV a b) := Lib.hid (by rw [HR.out, if_neg (by omega), if_neg (by omega)])
        obtain rfl : x = y := h
        have HG := Lib.hid (sgn_at p q)
        clear HR
        rcases HG.out with ⟨s1, s2⟩ | ⟨s1, s2⟩ | ⟨s1, s2⟩
        · have HR3 : Hid ((-1 : Int) = cmpV a b) := Lib.hid (by rw [← HR2.out, s1])
          clear s1 HR2 HG
          go_enter Tryd.func19, Tryd.ntmps19
          go_wp2_with fail
          refine (HA.out _).mono ?_
          rintro e w1 ⟨rfl, rfl⟩
          go_wp2_with fail
          refine (HB.out _).mono ?_
          rintro e w1 ⟨rfl, rfl⟩
          go_wp2_with fail
          refine (HS.out _).mono ?_
          rintro e w1 ⟨rfl, rfl⟩
          go_wp2_with fail
          refine (HT.out _).mono ?_
          rintro e w1 ⟨rfl, rfl⟩
          go_wp2_with fail
          go_ret
          exact ⟨ret_int HR3.out, rfl⟩
        · have HR3 : Hid ((1 : Int) = cmpV a b) := Lib.hid (by rw [← HR2.out, s1])
          clear s1 HR2 HG
          go_enter Tryd.func19, Tryd.ntmps19
          go_wp2_with fail
          refine (HA.out _).mono ?_
          rintro e w1 ⟨rfl, rfl⟩
          go_wp2_with fail
          refine (HB.out _).mono ?_
          rintro e w1 ⟨rfl, rfl⟩
          go_wp2_with fail
          refine (HS.out _).mono ?_
          rintro e w1 ⟨rfl, rfl⟩
          go_wp2_with fail
          refine (HT.out _).mono ?_
          rintro e w1 ⟨rfl, rfl⟩
          go_wp2_with fail
          go_ret
          exact ⟨ret_int HR3.out, rfl⟩
        · have HR3 : Hid ((0 : Int) = cmpV a b) := Lib.hid (by rw [← HR2.out, s1])
          obtain rfl : p = q := s2
          clear s1 HR2 HG
          go_enter Tryd.func19, Tryd.ntmps19
          go_wp2_with fail
          refine (HA.out _).mono ?_
          rintro e w1 ⟨rfl, rfl⟩
          go_wp2_with fail
          refine (HB.out _).mono ?_
          rintro e w1 ⟨rfl, rfl⟩
          go_wp2_with fail
          refine (HS.out _).mono ?_
          rintro e w1 ⟨rfl, rfl⟩
          go_wp2_with fail
          refine (HT.out _).mono ?_
          rintro e w1 ⟨rfl, rfl⟩
          go_wp2_with fail
          go_ret
          exact ⟨ret_int HR3.out, rfl⟩
theorem comp_at (a b : ByteArray) (v : Int) (hv : cmpV a b = v) (ha : a.size ≤ 140737488355328) (hb : b.size ≤ 140737488355328) (w : World) : Calls Tryd.prog 18 #[.string a, .string b] w fun e w' => e = .returned (.int .i64 v) ∧ Below w.heap.size w w' := by
  subst hv; exact compare_any a b ha hb w
theorem rcomp_at (a b : ByteArray) (v : Int) (hv : cmpV a b = v) (ha : a.size ≤ 140737488355328) (hb : b.size ≤ 140737488355328) (w : World) : Calls Tryd.prog 19 #[.string a, .string b] w fun e w' => e = .returned (.int .i64 v) ∧ w = w' := by
  subst hv; exact rcompare_any a b ha hb w
end Go.Proofs.YtijpbfafkdpolaaDoor
