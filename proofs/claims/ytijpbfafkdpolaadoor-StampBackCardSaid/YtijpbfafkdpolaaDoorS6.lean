import Derived.Test.YtijpbfafkdpolaaDoorS5
namespace Go.Proofs.YtijpbfafkdpolaaDoor
open Go.RowKit Go.Shelf

theorem numF_bd (s : ByteArray) (a n : Nat) (h : a + n ≤ s.size) (hn : n ≤ 9) : -1 ≤ numF s a n ∧ numF s a n < 1000000000 := by
  unfold numF
  split
  · next h1 =>
    have h2 := decF_bd _ h1
    rw [strN_len s a n h] at h2
    have h3 := pow_bd n hn
    omega
  · omega
theorem rnumber_at (s : ByteArray) (i j : Int) (a n : Nat) (x : Int) (hi : i = a) (hj : j = n) (hx : numF s a n = x) (h : a + n ≤ s.size) (hn : n ≤ 9) (hs : s.size ≤ 140737488355328) (w : World) : Calls Tryd.prog 26 #[.string s, .int .i64 i, .int .i64 j] w fun e w' => e = .returned (.int .i64 x) ∧ w = w' := by
  subst hx; subst hi; subst hj; exact rnumber_any s a n h hn hs w
theorem rdays_at (y m d v : Int) (b : Bool) (hv : dayV y m d = v) (hb : okD y m d = b) (w : World) : Calls Tryd.prog 15 #[.int .i64 y, .int .i64 m, .int .i64 d] w fun e w' => e = .returned (.tuple #[.int .i64 v, .bool b]) ∧ w = w' := by
  subst hv; subst hb; exact rdays_any y m d w
theorem dayV_bd (y m d : Int) : -719528 ≤ dayV y m d ∧ dayV y m d ≤ 2932896 := by
  unfold dayV
  split
  · next h => exact days_bd y m d h
  · omega

set_option maxHeartbeats 2000000 in
theorem rsec_good (s : ByteArray) (hs : s.size ≤ 140737488355328) (hz : 20 ≤ s.size) (hsep : sepX s = false)
    (hi4 : 4 < s.size) (hi7 : 7 < s.size) (hi10 : 10 < s.size) (hi13 : 13 < s.size) (hi16 : 16 < s.size) (hiz : s.size - 1 < s.size)
    (c4 : ((s[4]'hi4).toNat : Int) = 45) (c7 : ((s[7]'hi7).toNat : Int) = 45) (c10 : ((s[10]'hi10).toNat : Int) = 84) (c13 : ((s[13]'hi13).toNat : Int) = 58) (c16 : ((s[16]'hi16).toNat : Int) = 58) (cz : ((s[s.size - 1]'hiz).toNat : Int) = 90) (w : World) :
    Calls Tryd.prog 11 #[.string s] w fun e w' => e = .returned (.tuple #[.int .i64 (secV s), .bool (secOK s)]) ∧ w = w' := by
  have Hsep := Lib.hid hsep
  clear hsep
  obtain ⟨a, ha⟩ : ∃ x, hF s = x := ⟨_, rfl⟩
  obtain ⟨b, hb⟩ : ∃ x, miF s = x := ⟨_, rfl⟩
  obtain ⟨c, hc⟩ : ∃ x, seF s = x := ⟨_, rfl⟩
  obtain ⟨y, hy⟩ : ∃ x, numF s 0 4 = x := ⟨_, rfl⟩
  obtain ⟨m, hm⟩ : ∃ x, numF s 5 2 = x := ⟨_, rfl⟩
  obtain ⟨d, hd⟩ : ∃ x, numF s 8 2 = x := ⟨_, rfl⟩
  obtain ⟨v, hv⟩ : ∃ x, dayV y m d = x := ⟨_, rfl⟩
  have hvb := dayV_bd y m d
  rw [hv] at hvb
  obtain ⟨hv0, hv1⟩ := hvb
  have NA := Lib.hid (rnumber_at s 11 2 11 2 a rfl rfl ha (by omega) (by omega) hs)
  have NB := Lib.hid (rnumber_at s 14 2 14 2 b rfl rfl hb (by omega) (by omega) hs)
  have NC := Lib.hid (rnumber_at s 17 2 17 2 c rfl rfl hc (by omega) (by omega) hs)
  have NY := Lib.hid (rnumber_at s 0 4 0 4 y rfl rfl hy (by omega) (by omega) hs)
  have NM := Lib.hid (rnumber_at s 5 2 5 2 m rfl rfl hm (by omega) (by omega) hs)
  have ND := Lib.hid (rnumber_at s 8 2 8 2 d rfl rfl hd (by omega) (by omega) hs)
  have HOK : Hid (secOK s = (okD y m d && (!clockX s && !fracX s))) := Lib.hid (by unfold secOK; rw [decide_eq_true hz, Hsep.out, hy, hm, hd]; rfl)
  have HV : Hid (secOK s = true → secV s = v * 86400 + a * 3600 + b * 60 + c) := Lib.hid fun h => by unfold secV; rw [if_pos h, hy, hm, hd, hv, ha, hb, hc]
  have HC : Hid (clockX s = (decide (a < 0) || decide (23 < a) || decide (b < 0) || decide (59 < b) || decide (c < 0) || decide (59 < c))) := Lib.hid (by unfold clockX; rw [ha, hb, hc])
  clear ha hb hc hy hm hd
  cases hok : okD y m d with
  | false =>
    have RD := Lib.hid (rdays_at y m d v _ hv hok)
    have Hr : Hid (secOK s = false) := Lib.hid (by rw [HOK.out, hok]; rfl)
    clear hok hv
    go_enter Tryd.func11, Tryd.ntmps11
    go_wp2_with fail
    refine (NA.out _).mono ?_
    rintro e w1 ⟨rfl, rfl⟩
    go_wp2_with fail
    refine (NB.out _).mono ?_
    rintro e w1 ⟨rfl, rfl⟩
    go_wp2_with fail
    refine (NC.out _).mono ?_
    rintro e w1 ⟨rfl, rfl⟩
    go_wp2_with fail
    refine (NY.out _).mono ?_
    rintro e w1 ⟨rfl, rfl⟩
    go_wp2_with fail
    refine (NM.out _).mono ?_
    rintro e w1 ⟨rfl, rfl⟩
    go_wp2_with fail
    refine (ND.out _).mono ?_
    rintro e w1 ⟨rfl, rfl⟩
    go_wp2_with fail
    refine (RD.out _).mono ?_
    rintro e w1 ⟨rfl, rfl⟩
    go_wp2
    go_ret2
    obtain ⟨e1, e2⟩ := sec_not Hr.out
    exact ⟨ret_day e1 e2, rfl⟩
  | true =>
    have RD := Lib.hid (rdays_at y m d v _ hv hok)
    rw [hok] at HOK
    clear hok hv
    go_enter Tryd.func11, Tryd.ntmps11
    go_wp2_with fail
    refine (NA.out _).mono ?_
    rintro e w1 ⟨rfl, rfl⟩
    go_wp2_with fail
    refine (NB.out _).mono ?_
    rintro e w1 ⟨rfl, rfl⟩
    go_wp2_with fail
    refine (NC.out _).mono ?_
    rintro e w1 ⟨rfl, rfl⟩
    go_wp2_with fail
    refine (NY.out _).mono ?_
    rintro e w1 ⟨rfl, rfl⟩
    go_wp2_with fail
    refine (NM.out _).mono ?_
    rintro e w1 ⟨rfl, rfl⟩
    go_wp2_with fail
    refine (ND.out _).mono ?_
    rintro e w1 ⟨rfl, rfl⟩
    go_wp2_with fail
    refine (RD.out _).mono ?_
    rintro e w1 ⟨rfl, rfl⟩
    by_cases hcl : (0 ≤ a ∧ a ≤ 23) ∧ (0 ≤ b ∧ b ≤ 59) ∧ (0 ≤ c ∧ c ≤ 59)
    · obtain ⟨⟨a0, a1⟩, ⟨b0, b1⟩, ⟨k0, k1⟩⟩ := hcl
      have Hcl : Hid (clockX s = false) := Lib.hid (by rw [HC.out]; simp; omega)
      clear HC
      by_cases h20 : s.size = 20
      · have Hf : Hid (fracX s = false) := Lib.hid (by unfold fracX; rw [decide_eq_false (by omega)]; rfl)
        go_wp2
        go_ret2
        have hk : secOK s = true := by rw [HOK.out, Hcl.out, Hf.out]; rfl
        exact ⟨ret_day (HV.out hk).symm hk.symm, rfl⟩
      · have hi19 : 19 < s.size := by omega
        have hi2 : s.size - 2 < s.size := by omega
        have f19 := byteF_at s 19 hi19
        have f2 := byteF_at s (s.size - 2) hi2
        have HF : Hid (fracX s = (((s[19]'hi19).toNat : Int) != 46 || decide (s.size < 22) || decide (30 < s.size) || decide (numF s 20 (s.size - 21) < 0) || ((s[s.size - 2]'hi2).toNat : Int) == 48)) := Lib.hid (by unfold fracX; rw [decide_eq_true (by omega), Bool.true_and, f19, f2])
        clear f19 f2
        by_cases c19 : ((s[19]'hi19).toNat : Int) = 46
        · by_cases hk1 : s.size < 22
          · have Hf : Hid (fracX s = true) := Lib.hid (by rw [HF.out, decide_eq_true hk1]; simp)
            clear HF
            go_wp2
            go_ret2
            have hk : secOK s = false := by rw [HOK.out, Hcl.out, Hf.out]; rfl
            obtain ⟨e1, e2⟩ := sec_not hk
            exact ⟨ret_day e1 e2, rfl⟩
          · by_cases hk2 : 30 < s.size
            · have Hf : Hid (fracX s = true) := Lib.hid (by rw [HF.out, decide_eq_true hk2]; simp)
              clear HF
              go_wp2
              go_ret2
              have hk : secOK s = false := by rw [HOK.out, Hcl.out, Hf.out]; rfl
              obtain ⟨e1, e2⟩ := sec_not hk
              exact ⟨ret_day e1 e2, rfl⟩
            · obtain ⟨x, hx⟩ : ∃ x, numF s 20 (s.size - 21) = x := ⟨_, rfl⟩
              have NX := Lib.hid (rnumber_at s 20 ((s.size : Int) - 21) 20 (s.size - 21) x rfl (by omega) hx (by omega) (by omega) hs)
              rw [hx, c19, decide_eq_false hk1, decide_eq_false hk2] at HF
              clear hx
              by_cases hx0 : x < 0
              · have Hf : Hid (fracX s = true) := Lib.hid (by rw [HF.out, decide_eq_true hx0]; simp)
                clear HF
                go_wp2_with fail
                refine (NX.out _).mono ?_
                rintro e w1 ⟨rfl, rfl⟩
                go_wp2
                go_ret2
                have hk : secOK s = false := by rw [HOK.out, Hcl.out, Hf.out]; rfl
                obtain ⟨e1, e2⟩ := sec_not hk
                exact ⟨ret_day e1 e2, rfl⟩
              · by_cases c2 : ((s[s.size - 2]'hi2).toNat : Int) = 48
                · have Hf : Hid (fracX s = true) := Lib.hid (by rw [HF.out, c2]; simp)
                  have b2 : (((s[s.size - 2]'hi2).toNat : Int) == 48) = true := beq_iff_eq.2 c2
                  clear HF
                  go_wp2_with fail
                  refine (NX.out _).mono ?_
                  rintro e w1 ⟨rfl, rfl⟩
                  go_wp2
                  go_ret2
                  have hk : secOK s = false := by rw [HOK.out, Hcl.out, Hf.out]; rfl
                  obtain ⟨e1, e2⟩ := sec_not hk
                  exact ⟨ret_day e1 e2, rfl⟩
                · have b2 : (((s[s.size - 2]'hi2).toNat : Int) == 48) = false := beq_eq_false_iff_ne.2 c2
                  have Hf : Hid (fracX s = false) := Lib.hid (by rw [HF.out, b2, decide_eq_false hx0]; rfl)
                  clear HF
                  go_wp2_with fail
                  refine (NX.out _).mono ?_
                  rintro e w1 ⟨rfl, rfl⟩
                  go_wp2
                  go_ret2
                  have hk : secOK s = true := by rw [HOK.out, Hcl.out, Hf.out]; rfl
                  exact ⟨ret_day (HV.out hk).symm hk.symm, rfl⟩
        · have Hf : Hid (fracX s = true) := Lib.hid (by rw [HF.out]; simp [c19])
          clear HF
          go_wp2
          go_ret2
          have hk : secOK s = false := by rw [HOK.out, Hcl.out, Hf.out]; rfl
          obtain ⟨e1, e2⟩ := sec_not hk
          exact ⟨ret_day e1 e2, rfl⟩
    · have Hr : Hid (secOK s = false) := Lib.hid (by
        have : clockX s = true := by rw [HC.out]; simp; omega
        rw [HOK.out, this]; rfl)
      clear HC
      rcases (by omega : a < 0 ∨ 23 < a ∨ ((0 ≤ a ∧ a ≤ 23) ∧ b < 0) ∨ ((0 ≤ a ∧ a ≤ 23) ∧ 59 < b) ∨ ((0 ≤ a ∧ a ≤ 23) ∧ (0 ≤ b ∧ b ≤ 59) ∧ c < 0) ∨ ((0 ≤ a ∧ a ≤ 23) ∧ (0 ≤ b ∧ b ≤ 59) ∧ 59 < c)) with a0 | a0 | ⟨⟨a0, a1⟩, b0⟩ | ⟨⟨a0, a1⟩, b0⟩ | ⟨⟨a0, a1⟩, ⟨b0, b1⟩, k0⟩ | ⟨⟨a0, a1⟩, ⟨b0, b1⟩, k0⟩
      all_goals
        clear hcl
        go_wp2
        go_ret2
        obtain ⟨e1, e2⟩ := sec_not Hr.out
        exact ⟨ret_day e1 e2, rfl⟩
theorem rseconds_any (s : ByteArray) (hs : s.size ≤ 140737488355328) (w : World) : Calls Tryd.prog 11 #[.string s] w fun e w' => e = .returned (.tuple #[.int .i64 (secV s), .bool (secOK s)]) ∧ w = w' := by
  by_cases h : 20 ≤ s.size ∧ sepX s = false
  · obtain ⟨hz, hsep⟩ := h
    have hX := hsep
    unfold sepX at hX
    rw [byteF_at s 4 (by omega), byteF_at s 7 (by omega), byteF_at s 10 (by omega), byteF_at s 13 (by omega), byteF_at s 16 (by omega), byteF_at s (s.size - 1) (by omega)] at hX
    simp only [Bool.or_eq_false_iff, bne_eq_false_iff_eq] at hX
    obtain ⟨⟨⟨⟨⟨c4, c7⟩, c10⟩, c13⟩, c16⟩, cz⟩ := hX
    exact rsec_good s hs hz hsep _ _ _ _ _ _ c4 c7 c10 c13 c16 cz w
  · exact rsec_bad s hs (fun hz hsep => h ⟨hz, hsep⟩) w
end Go.Proofs.YtijpbfafkdpolaaDoor
