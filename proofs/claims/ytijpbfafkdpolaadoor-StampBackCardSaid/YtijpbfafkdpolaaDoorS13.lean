import Derived.Test.YtijpbfafkdpolaaDoorS12
namespace Go.Proofs.YtijpbfafkdpolaaDoor
open Go.RowKit Go.Shelf

theorem first_day (y : Int) (h0 : 0 ≤ y) (h1 : y ≤ 9999) : dayV y 1 1 = aheadF y - 719528 ∧ okD y 1 1 = true := by
  have hl := longF_bd y 1
  have hk : okD y 1 1 = true := (okD_iff y 1 1).2 ⟨h0, h1, by omega, by omega, by omega, by omega⟩
  refine ⟨?_, hk⟩
  unfold dayV daysF
  rw [if_pos hk]
  have : cumN y ((1 : Int) - 1).toNat = 0 := rfl
  omega
theorem rfirst_at (y v : Int) (hv : aheadF y - 719528 = v) (h0 : 0 ≤ y) (h1 : y ≤ 9999) (w : World) : Calls Tryd.prog 15 #[.int .i64 y, .int .i64 1, .int .i64 1] w fun e w' => e = .returned (.tuple #[.int .i64 v, .bool true]) ∧ w = w' := by
  obtain ⟨e1, e2⟩ := first_day y h0 h1
  exact rdays_at y 1 1 v true (e1.trans hv) e2 w

set_option maxRecDepth 100000 in
set_option maxHeartbeats 4000000 in
theorem rmake_any (n : Int) (hn : -9223372036854775808 ≤ n ∧ n ≤ 9223372036854775807) (w : World) : Calls Tryd.prog 17 #[.int .i64 n] w (MakePost n w) := by
  obtain ⟨hn0, hn1⟩ := hn
  go_enter Tryd.func17, Tryd.ntmps17
  go_wp2_with fail
  go_loopw [3, 4] (fun t3 t4 wr => ∃ lo hi : Int, 0 ≤ lo ∧ lo < hi ∧ hi ≤ 10000 ∧ t3 = .int .i64 lo ∧ t4 = .int .i64 hi ∧ Hid (inMk n = true → aheadF lo ≤ n / 86400 + 719528 ∧ n / 86400 + 719528 < aheadF hi) ∧ w = wr) (fun t3 t4 _ => (intOf t4 - intOf t3).toNat)
  case atStart =>
    refine ⟨0, 10000, by omega, by omega, by omega, by go_num, by go_num, Lib.hid fun h => ?_, rfl⟩
    have e1 := (inMk_iff n).1 h
    have e2 : aheadF 0 = 0 := rfl
    have e3 : aheadF 10000 = 3652425 := by decide
    omega
  case round =>
    obtain ⟨lo, hi, a0, a1, a2, rfl, rfl, Hin, rfl⟩ := hrel
    by_cases hgt : 1 < hi - lo
    · have hmid : lo < (lo + hi) / 2 ∧ (lo + hi) / 2 < hi := by omega
      obtain ⟨mid, hmd⟩ : ∃ x, (lo + hi) / 2 = x := ⟨_, rfl⟩
      rw [hmd] at hmid
      obtain ⟨b0, b1⟩ := hmid
      obtain ⟨v, hv⟩ : ∃ v, aheadF mid - 719528 = v := ⟨_, rfl⟩
      have hab := ahead_bd mid (by omega) (by omega)
      have hv0 : -719528 ≤ v ∧ v ≤ 2932897 := by omega
      have HR := Lib.hid (rfirst_at mid v hv (by omega) (by omega))
      have Hv := Lib.hid hv
      obtain ⟨v0, v1⟩ := hv0
      clear hv hab
      by_cases hc : v * 86400 ≤ n
      · have Hin2 : Hid (inMk n = true → aheadF mid ≤ n / 86400 + 719528 ∧ n / 86400 + 719528 < aheadF hi) := Lib.hid fun h => by
          have e1 := Hin.out h
          have e2 := Hv.out
          omega
        go_wp2_with fail
        refine (HR.out _).mono ?_
        rintro e w1 ⟨rfl, rfl⟩
        go_wp2_with fail
        go_roundw
        case rel => exact ⟨mid, hi, by omega, by omega, by omega, by go_num, by go_num, Hin2, trivial⟩
        case measure => simp [intOf]; omega
      · have Hin2 : Hid (inMk n = true → aheadF lo ≤ n / 86400 + 719528 ∧ n / 86400 + 719528 < aheadF mid) := Lib.hid fun h => by
          have e1 := Hin.out h
          have e2 := Hv.out
          omega
        go_wp2_with fail
        refine (HR.out _).mono ?_
        rintro e w1 ⟨rfl, rfl⟩
        go_wp2_with fail
        go_roundw
        case rel => exact ⟨lo, mid, by omega, by omega, by omega, by go_num, by go_num, Hin2, trivial⟩
        case measure => simp [intOf]; omega
    · obtain rfl : hi = lo + 1 := by omega
      obtain ⟨v, hv⟩ : ∃ v, aheadF lo - 719528 = v := ⟨_, rfl⟩
      have hab := ahead_bd lo (by omega) (by omega)
      have hv0 : -719528 ≤ v ∧ v ≤ 2932897 := by omega
      have HR := Lib.hid (rfirst_at lo v hv (by omega) (by omega))
      have Hv := Lib.hid hv
      obtain ⟨v0, v1⟩ := hv0
      clear hv hab
      rcases (by omega : n < -62167219200 ∨ 253402300799 < n ∨ (-62167219200 ≤ n ∧ n ≤ 253402300799)) with h | h | ⟨h, h'⟩
      · have Hr : Hid (inMk n = false) := Lib.hid (by unfold inMk; exact decide_eq_false (by omega))
        go_wp2_with fail
        refine (HR.out _).mono ?_
        rintro e w1 ⟨rfl, rfl⟩
        go_wp2_with fail
        go_ret
        exact make_no Hr.out (Below.refl _ _)
      · have Hr : Hid (inMk n = false) := Lib.hid (by unfold inMk; exact decide_eq_false (by omega))
        go_wp2_with fail
        refine (HR.out _).mono ?_
        rintro e w1 ⟨rfl, rfl⟩
        go_wp2_with fail
        go_ret
        exact make_no Hr.out (Below.refl _ _)
      · have Hr := Lib.hid ((inMk_iff n).2 ⟨h, h'⟩)
        have e1 := Hin.out Hr.out
        have hrest : 0 ≤ n - v * 86400 ∧ n - v * 86400 ≤ 366 * 86400 ∧ (n - v * 86400) / 86400 = n / 86400 + 719528 - aheadF lo ∧ (n - v * 86400) % 86400 = n % 86400 := by
          have e2 := Hv.out
          have e3 := ahead_len lo a0
          omega
        obtain ⟨R, hR⟩ : ∃ R, n - v * 86400 = R := ⟨_, rfl⟩
        rw [hR] at hrest
        obtain ⟨R0, R1, R2, R3⟩ := hrest
        have HR2 := Lib.hid R2
        have HR3 := Lib.hid R3
        have y0 : 0 ≤ lo := a0
        have y1 : lo ≤ 9999 := by omega
        obtain ⟨t, ht⟩ : ∃ t, n / 86400 + 719528 = t := ⟨_, rfl⟩
        rw [ht] at e1 HR2
        obtain ⟨hlo, hhi⟩ := e1
        have Hlo := Lib.hid hlo
        have Hhi := Lib.hid hhi
        have Ht := Lib.hid ht
        clear ht hlo hhi R2 R3 Hin hgt
        generalize lo = y at *
        go_wp2_with fail
        refine (HR.out _).mono ?_
        rintro e w1 ⟨rfl, rfl⟩
        go_wp2_with fail
        go_loopw [11, 12] (fun t7 t10 wr => ∃ m d : Int, 1 ≤ m ∧ m ≤ 12 ∧ t10 = .int .i64 m ∧ t7 = .int .i64 d ∧ 0 ≤ d ∧ d ≤ 366 ∧ Hid (t - aheadF y - cumN y (m - 1).toNat = d) ∧ w = wr) (fun _ t10 _ => (12 - intOf t10).toNat)
        case atStart =>
          have e1 := ahead_len y y0
          have e2 := Hhi.out
          have e3 := Hlo.out
          have e4 := HR2.out
          refine ⟨1, R / 86400, by omega, by omega, by go_num, by go_num, by omega, by omega, Lib.hid ?_, rfl⟩
          have : cumN y ((1 : Int) - 1).toNat = 0 := rfl
          omega
        case round =>
          clear HR2
          obtain ⟨m, d, m0, m1, rfl, rfl, d0, d1, Hd, rfl⟩ := hrel
          obtain ⟨L, hL⟩ : ∃ L, longF y m = L := ⟨_, rfl⟩
          have hLb := longF_bd y m
          rw [hL] at hLb
          obtain ⟨l0, l1⟩ := hLb
          have HM := Lib.hid (rlong_at y m L hL y0 (by omega) m0 m1)
          have HL2 := Lib.hid hL
          clear hL
          by_cases hc : L ≤ d
          · have Hcs := Lib.hid (cum_step y m m0)
            have Hm2 : Hid (m + 1 ≤ 12) := Lib.hid (by
              rcases (by omega : m + 1 ≤ 12 ∨ m = 12) with g | g
              · exact g
              · have e1 := Hcs.out
                have e2 := Hd.out
                have e3 := cum_year y
                have e4 := ahead_step y y0
                have e5 := Hhi.out
                have e6 := HL2.out
                subst g
                have e7 : cumN y ((12 : Int) + 1 - 1).toNat = cumN y 12 := rfl
                omega)
            have Hd2 : Hid (t - aheadF y - cumN y (m + 1 - 1).toNat = d - L) := Lib.hid (by
              have e1 := Hcs.out
              have e2 := Hd.out
              have e6 := HL2.out
              omega)
            go_wp2_with fail
            refine (HM.out _).mono ?_
            rintro e w1 ⟨rfl, rfl⟩
            go_wp2_with fail
            refine (HM.out _).mono ?_
            rintro e w1 ⟨rfl, rfl⟩
            go_wp2_with fail
            go_roundw
            case rel => exact ⟨m + 1, d - L, by omega, Hm2.out, by go_num, by go_num, by omega, by omega, Hd2, trivial⟩
            case measure => have := Hm2.out; simp [intOf]; omega
          · have hlt : d < L := by omega
            have HE := Lib.hid (make_end (n := n) (y := y) (m := m) (d := d) Hr.out ⟨y0, y1⟩ ⟨m0, m1⟩ ⟨d0, by rw [HL2.out]; exact hlt⟩ (by rw [Ht.out]; exact Hd.out))
            obtain ⟨r, hr⟩ : ∃ r, R % 86400 = r := ⟨_, rfl⟩
            rw [← HR3.out, hr, stamp_text] at HE
            have r0 : 0 ≤ r := by omega
            have r1 : r ≤ 86399 := by omega
            obtain ⟨S1, h1⟩ : ∃ S, strOfNums (fourL y) = S := ⟨_, rfl⟩
            obtain ⟨S2, h2⟩ : ∃ S, strOfNums (twoL m) = S := ⟨_, rfl⟩
            obtain ⟨S3, h3⟩ : ∃ S, strOfNums (twoL (d + 1)) = S := ⟨_, rfl⟩
            obtain ⟨S4, h4⟩ : ∃ S, strOfNums (twoL (r / 3600)) = S := ⟨_, rfl⟩
            obtain ⟨S5, h5⟩ : ∃ S, strOfNums (twoL (r / 60 % 60)) = S := ⟨_, rfl⟩
            obtain ⟨S6, h6⟩ : ∃ S, strOfNums (twoL (r % 60)) = S := ⟨_, rfl⟩
            have z1 : S1.size = 4 := by rw [← h1]; exact four_sz _
            have z2 : S2.size = 2 := by rw [← h2]; exact two_sz _
            have z3 : S3.size = 2 := by rw [← h3]; exact two_sz _
            have z4 : S4.size = 2 := by rw [← h4]; exact two_sz _
            have z5 : S5.size = 2 := by rw [← h5]; exact two_sz _
            have z6 : S6.size = 2 := by rw [← h6]; exact two_sz _
            have C1 := Lib.hid (dig4_at y S1 h1 y0 y1)
            have C2 := Lib.hid (dig2_at m S2 h2 (by omega) (by omega))
            have C3 := Lib.hid (dig2_at (d + 1) S3 h3 (by omega) (by omega))
            have C4 := Lib.hid (dig2_at (r / 3600) S4 h4 (by omega) (by omega))
            have C5 := Lib.hid (dig2_at (r / 60 % 60) S5 h5 (by omega) (by omega))
            have C6 := Lib.hid (dig2_at (r % 60) S6 h6 (by omega) (by omega))
            rw [h1, h2, h3, h4, h5, h6] at HE
            clear h1 h2 h3 h4 h5 h6 Hd hc Ht HR3
            go_wp2_with fail
            refine (HM.out _).mono ?_
            rintro e w1 ⟨rfl, rfl⟩
            go_wp2_with fail
            refine (C1.out _).mono ?_
            rintro e w1 ⟨rfl, hb1⟩
            have B1 := Lib.hid hb1
            have g1 := hb1.size
            clear hb1
            go_wp2_with fail
            refine (C2.out _).mono ?_
            rintro e w2 ⟨rfl, hb1⟩
            have B2 := Lib.hid (B1.out.trans (hb1.mono g1))
            have g2 := Nat.le_trans g1 hb1.size
            clear hb1 B1 g1
            go_wp2_with fail
            refine (C3.out _).mono ?_
            rintro e w3 ⟨rfl, hb1⟩
            have B3 := Lib.hid (B2.out.trans (hb1.mono g2))
            have g3 := Nat.le_trans g2 hb1.size
            clear hb1 B2 g2
            go_wp2_with fail
            refine (C4.out _).mono ?_
            rintro e w4 ⟨rfl, hb1⟩
            have B4 := Lib.hid (B3.out.trans (hb1.mono g3))
            have g4 := Nat.le_trans g3 hb1.size
            clear hb1 B3 g3
            go_wp2_with fail
            refine (C5.out _).mono ?_
            rintro e w5 ⟨rfl, hb1⟩
            have B5 := Lib.hid (B4.out.trans (hb1.mono g4))
            have g5 := Nat.le_trans g4 hb1.size
            clear hb1 B4 g4
            go_wp2_with fail
            refine (C6.out _).mono ?_
            rintro e w6 ⟨rfl, hb1⟩
            have B6 := Lib.hid (B5.out.trans (hb1.mono g5))
            clear hb1 B5 g5
            go_wp2_with fail
            go_ret
            exact ⟨_, HE.out, rfl, B6.out⟩
end Go.Proofs.YtijpbfafkdpolaaDoor
