import Derived.Test.YtijpbfafkdpolaaDoorS18
namespace Go.Proofs.YtijpbfafkdpolaaDoor
open Go.RowKit Go.Shelf

theorem dayV_yes {y m d : Int} (h : okD y m d = true) : dayV y m d = daysF y m d := by unfold dayV; rw [if_pos h]

set_option maxRecDepth 100000 in
set_option maxHeartbeats 4000000 in
theorem stampDays_walk (y m d : Int) (w : World) (hy : (-9223372036854775808 : Int) ≤ y ∧ y ≤ 9223372036854775807) (hm : (-9223372036854775808 : Int) ≤ m ∧ m ≤ 9223372036854775807) (hd : (-9223372036854775808 : Int) ≤ d ∧ d ≤ 9223372036854775807) : Calls Tryd.prog 4 #[.int .i64 y, .int .i64 m, .int .i64 d] w fun e w' => e = .returned (.bool true) ∧ Below w.heap.size w w' := by
  obtain ⟨v, hv⟩ : ∃ v, dayV y m d = v := ⟨_, rfl⟩
  have hvb := dayV_bd y m d
  rw [hv] at hvb
  obtain ⟨v0, v1⟩ := hvb
  cases ho : okD y m d with
  | false =>
    have HD := Lib.hid (days_at y m d v false hv ho)
    have HR := Lib.hid (rdays_at y m d v false hv ho)
    clear hv ho
    go_enter Tryd.func4, Tryd.ntmps4
    go_wp2_with fail
    refine (HD.out _).mono ?_
    rintro e w1 ⟨rfl, rfl⟩
    go_wp2_with fail
    refine (HR.out _).mono ?_
    rintro e w1 ⟨rfl, rfl⟩
    go_wp2_with fail
    refine (awake_any _).mono ?_
    rintro e w1 ⟨rfl, hb1⟩
    have B1 := Lib.hid hb1
    clear hb1
    go_wp2_with fail
    go_ret
    exact ⟨rfl, B1.out⟩
  | true =>
    have HD := Lib.hid (days_at y m d v true hv ho)
    have HR := Lib.hid (rdays_at y m d v true hv ho)
    have hk := (okD_iff y m d).1 ho
    have hl := longF_bd y m
    obtain ⟨y0, y1, m0, m1, d0, d1⟩ := hk
    have d2 : d ≤ 31 := by omega
    have Hd1 := Lib.hid d1
    have Ho := Lib.hid ho
    have Hv := Lib.hid (hv.symm.trans (dayV_yes ho))
    clear hv ho hl d1 hy hm hd
    by_cases hend : y = 9999 ∧ m = 12 ∧ d = 31
    · obtain ⟨rfl, rfl, rfl⟩ := hend
      go_enter Tryd.func4, Tryd.ntmps4
      go_wp2_with fail
      refine (HD.out _).mono ?_
      rintro e w1 ⟨rfl, rfl⟩
      go_wp2_with fail
      refine (HR.out _).mono ?_
      rintro e w1 ⟨rfl, rfl⟩
      go_wp2_with fail
      refine (awake_any _).mono ?_
      rintro e w1 ⟨rfl, hb1⟩
      have B1 := Lib.hid hb1
      clear hb1
      go_wp2_with fail
      go_ret
      exact ⟨rfl, B1.out⟩
    · obtain ⟨v2, hv2⟩ : ∃ v, dayV y m (d + 1) = v := ⟨_, rfl⟩
      cases ho2 : okD y m (d + 1) with
      | true =>
        have HN := Lib.hid (days_at y m (d + 1) v2 true hv2 ho2)
        have hx : v2 = v + 1 := by rw [← hv2, dayV_yes ho2, Hv.out]; exact next_day y m d Ho.out ho2
        subst hx
        clear hv2 ho2
        rcases (by omega : y ≠ 9999 ∨ (y = 9999 ∧ m ≠ 12) ∨ (y = 9999 ∧ m = 12 ∧ d ≠ 31)) with h | ⟨rfl, h⟩ | ⟨rfl, rfl, h⟩
        · have b1 : (y == 9999) = false := beq_eq_false_iff_ne.2 h
          clear hend
          go_enter Tryd.func4, Tryd.ntmps4
          go_wp2_with fail
          refine (HD.out _).mono ?_
          rintro e w1 ⟨rfl, rfl⟩
          go_wp2_with fail
          refine (HR.out _).mono ?_
          rintro e w1 ⟨rfl, rfl⟩
          go_wp2_with fail
          refine (awake_any _).mono ?_
          rintro e w1 ⟨rfl, hb1⟩
          have B1 := Lib.hid hb1
          clear hb1
          go_wp2_with fail
          refine (HN.out _).mono ?_
          rintro e w2 ⟨rfl, rfl⟩
          go_wp2_with fail
          go_ret
          exact ⟨ret_bool' (by simp), B1.out⟩
        · have b1 : (m == 12) = false := beq_eq_false_iff_ne.2 h
          clear hend
          go_enter Tryd.func4, Tryd.ntmps4
          go_wp2_with fail
          refine (HD.out _).mono ?_
          rintro e w1 ⟨rfl, rfl⟩
          go_wp2_with fail
          refine (HR.out _).mono ?_
          rintro e w1 ⟨rfl, rfl⟩
          go_wp2_with fail
          refine (awake_any _).mono ?_
          rintro e w1 ⟨rfl, hb1⟩
          have B1 := Lib.hid hb1
          clear hb1
          go_wp2_with fail
          refine (HN.out _).mono ?_
          rintro e w2 ⟨rfl, rfl⟩
          go_wp2_with fail
          go_ret
          exact ⟨ret_bool' (by simp), B1.out⟩
        · have b1 : (d == 31) = false := beq_eq_false_iff_ne.2 h
          clear hend
          go_enter Tryd.func4, Tryd.ntmps4
          go_wp2_with fail
          refine (HD.out _).mono ?_
          rintro e w1 ⟨rfl, rfl⟩
          go_wp2_with fail
          refine (HR.out _).mono ?_
          rintro e w1 ⟨rfl, rfl⟩
          go_wp2_with fail
          refine (awake_any _).mono ?_
          rintro e w1 ⟨rfl, hb1⟩
          have B1 := Lib.hid hb1
          clear hb1
          go_wp2_with fail
          refine (HN.out _).mono ?_
          rintro e w2 ⟨rfl, rfl⟩
          go_wp2_with fail
          go_ret
          exact ⟨ret_bool' (by simp), B1.out⟩
      | false =>
        have HN := Lib.hid (days_at y m (d + 1) v2 false hv2 ho2)
        have Ho2 := Lib.hid ho2
        clear hv2 ho2
        by_cases hm12 : m < 12
        · obtain ⟨hk3, hx3⟩ := next_month y m d Ho.out Ho2.out hm12
          have H3 := Lib.hid (days_at (y) (m + 1) 1 (v + 1) true ((dayV_yes hk3).trans (by rw [hx3, Hv.out])) hk3)
          clear hk3 hx3
          rcases (by omega : y ≠ 9999 ∨ (y = 9999 ∧ m ≠ 12)) with h | ⟨rfl, h⟩
          · have b1 : (y == 9999) = false := beq_eq_false_iff_ne.2 h
            clear hend
            go_enter Tryd.func4, Tryd.ntmps4
            go_wp2_with fail
            refine (HD.out _).mono ?_
            rintro e w1 ⟨rfl, rfl⟩
            go_wp2_with fail
            refine (HR.out _).mono ?_
            rintro e w1 ⟨rfl, rfl⟩
            go_wp2_with fail
            refine (awake_any _).mono ?_
            rintro e w1 ⟨rfl, hb1⟩
            have B1 := Lib.hid hb1
            clear hb1
            go_wp2_with fail
            refine (HN.out _).mono ?_
            rintro e w2 ⟨rfl, rfl⟩
            go_wp2_with fail
            refine (H3.out _).mono ?_
            rintro e w3 ⟨rfl, rfl⟩
            go_wp2_with fail
            go_ret
            exact ⟨ret_bool' (by simp), B1.out⟩
          · have b1 : (m == 12) = false := beq_eq_false_iff_ne.2 h
            clear hend
            go_enter Tryd.func4, Tryd.ntmps4
            go_wp2_with fail
            refine (HD.out _).mono ?_
            rintro e w1 ⟨rfl, rfl⟩
            go_wp2_with fail
            refine (HR.out _).mono ?_
            rintro e w1 ⟨rfl, rfl⟩
            go_wp2_with fail
            refine (awake_any _).mono ?_
            rintro e w1 ⟨rfl, hb1⟩
            have B1 := Lib.hid hb1
            clear hb1
            go_wp2_with fail
            refine (HN.out _).mono ?_
            rintro e w2 ⟨rfl, rfl⟩
            go_wp2_with fail
            refine (H3.out _).mono ?_
            rintro e w3 ⟨rfl, rfl⟩
            go_wp2_with fail
            go_ret
            exact ⟨ret_bool' (by simp), B1.out⟩
        · obtain rfl : m = 12 := by omega
          have hy9 : y ≠ 9999 := by
            rintro rfl
            have e1 : okD 9999 12 (d + 1) = true := (okD_iff _ _ _).2 ⟨by omega, by omega, by omega, by omega, by omega, by
              have : longF 9999 12 = 31 := by decide +kernel
              rw [this]
              omega⟩
            have e2 := Ho2.out
            rw [e1] at e2
            cases e2
          obtain ⟨hk3, hx3⟩ := next_year y 12 d Ho.out Ho2.out rfl (by omega)
          have H3 := Lib.hid (days_at (y + 1) 1 1 (v + 1) true ((dayV_yes hk3).trans (by rw [hx3, Hv.out])) hk3)
          have b1 : (y == 9999) = false := beq_eq_false_iff_ne.2 hy9
          clear hk3 hx3 hend
          go_enter Tryd.func4, Tryd.ntmps4
          go_wp2_with fail
          refine (HD.out _).mono ?_
          rintro e w1 ⟨rfl, rfl⟩
          go_wp2_with fail
          refine (HR.out _).mono ?_
          rintro e w1 ⟨rfl, rfl⟩
          go_wp2_with fail
          refine (awake_any _).mono ?_
          rintro e w1 ⟨rfl, hb1⟩
          have B1 := Lib.hid hb1
          clear hb1
          go_wp2_with fail
          refine (HN.out _).mono ?_
          rintro e w2 ⟨rfl, rfl⟩
          go_wp2_with fail
          refine (H3.out _).mono ?_
          rintro e w3 ⟨rfl, rfl⟩
          go_wp2_with fail
          go_ret
          exact ⟨ret_bool' (by simp), B1.out⟩
end Go.Proofs.YtijpbfafkdpolaaDoor
