import Derived.Test.YtijpbfafkdpolaaDoorS2
namespace Go.Proofs.YtijpbfafkdpolaaDoor
open Go.RowKit Go.Shelf

set_option maxHeartbeats 2000000 in
theorem rdays_any (y m d : Int) (w : World) : Calls Tryd.prog 15 #[.int .i64 y, .int .i64 m, .int .i64 d] w fun e w' => e = .returned (.tuple #[.int .i64 (dayV y m d), .bool (okD y m d)]) ∧ w = w' := by
  rcases (by omega : y < 0 ∨ 9999 < y ∨ ((0 ≤ y ∧ y ≤ 9999) ∧ m < 1) ∨ ((0 ≤ y ∧ y ≤ 9999) ∧ 12 < m) ∨ ((0 ≤ y ∧ y ≤ 9999) ∧ (1 ≤ m ∧ m ≤ 12) ∧ d < 1) ∨ ((0 ≤ y ∧ y ≤ 9999) ∧ (1 ≤ m ∧ m ≤ 12) ∧ 1 ≤ d)) with h | h | ⟨⟨h, h'⟩, g⟩ | ⟨⟨h, h'⟩, g⟩ | ⟨⟨h, h'⟩, ⟨g, g'⟩, k⟩ | ⟨⟨h, h'⟩, ⟨g, g'⟩, k⟩
  case inr.inr.inr.inr.inr =>
    obtain ⟨L, hL⟩ : ∃ L, longF y m = L := ⟨_, rfl⟩
    have hLb := longF_bd y m
    rw [hL] at hLb
    by_cases hd : d ≤ L
    · have Hd : Hid (d ≤ longF y m) := Lib.hid (by rw [hL]; exact hd)
      have HM := Lib.hid (fun w => rlong_at y m L hL h (by omega) g g' w)
      clear hL
      go_enter Tryd.func15, Tryd.ntmps15
      go_wp2_with fail
      refine (HM.out _).mono ?_
      rintro e w1 ⟨rfl, rfl⟩
      go_wp2_with fail
      go_loopw [8, 9] (fun t8 t9 wr => ∃ i n : Int, 1970 ≤ i ∧ (i ≤ y ∨ i = 1970) ∧ t9 = .int .i64 i ∧ t8 = .int .i64 n ∧ -719528 ≤ n ∧ n ≤ 2933300 ∧ Hid (n = aheadF i - 719528) ∧ w = wr) (fun _ t9 _ => (y - intOf t9).toNat)
      case atStart => exact ⟨1970, 0, by omega, .inr rfl, by go_num, by go_num, by omega, by omega, Lib.hid (by rw [ahead_1970]; rfl), rfl⟩
      case round =>
        obtain ⟨i, n, hi1, hi2, rfl, rfl, hn1, hn2, Hn, rfl⟩ := hrel
        by_cases hlt : i < y
        · obtain ⟨l, hl⟩ : ∃ l, longF i 2 = l := ⟨_, rfl⟩
          have hlb := longF_bd i 2
          rw [hl] at hlb
          obtain ⟨hl1, hl2⟩ := hlb
          have hst := ahead_step i (by omega)
          rw [hl] at hst
          have Hn2 : Hid (n + 337 + l = aheadF (i + 1) - 719528) := Lib.hid (by rw [hst]; have := Hn.out; omega)
          have HN3 := Lib.hid (ahead_bd (i + 1) (by omega) (by omega))
          have HM2 := Lib.hid (fun w => rlong_at i 2 l hl (by omega) (by omega) (by omega) (by omega) w)
          clear hl hst
          go_wp2_with fail
          refine (HM2.out _).mono ?_
          rintro e w1 ⟨rfl, rfl⟩
          go_wp2
          go_roundw
          case rel =>
            have h1 := Hn2.out
            have h2 := HN3.out
            exact ⟨i + 1, n + 337 + l, by omega, by omega, by go_num, by go_num, by omega, by omega, Hn2, trivial⟩
          case measure => simp [intOf]; omega
        · have Hm : Hid (∃ M, y ≤ M ∧ 1970 ≤ M ∧ (M = y ∨ M = 1970) ∧ n = aheadF M - 719528) := Lib.hid ⟨i, by omega, hi1, by omega, Hn.out⟩
          clear Hn hi2
          go_wp2_with fail
          go_loopw [8, 10] (fun t8 t10 wr => ∃ i n : Int, y ≤ i ∧ (i ≤ 1970 ∨ i = y) ∧ t10 = .int .i64 i ∧ t8 = .int .i64 n ∧ -719528 ≤ n ∧ n ≤ 2933300 ∧ Hid (∃ M, y ≤ M ∧ 1970 ≤ M ∧ (M = y ∨ M = 1970) ∧ n + (aheadF i - aheadF y) = aheadF M - 719528) ∧ w = wr) (fun _ t10 _ => (1970 - intOf t10).toNat)
          case atStart =>
            obtain ⟨M, h1, h2, h3, h4⟩ := Hm.out
            exact ⟨y, n, by omega, .inr rfl, by go_num, by go_num, by omega, by omega, Lib.hid ⟨M, h1, h2, h3, by omega⟩, rfl⟩
          case round =>
            clear Hm hi1 hn1 hn2
            obtain ⟨i, n, hi1, hi2, rfl, rfl, hn1, hn2, Hn, rfl⟩ := hrel
            by_cases hlt : i < 1970
            · obtain ⟨l, hl⟩ : ∃ l, longF i 2 = l := ⟨_, rfl⟩
              have hlb := longF_bd i 2
              rw [hl] at hlb
              obtain ⟨hl1, hl2⟩ := hlb
              have hst := ahead_step i (by omega)
              rw [hl] at hst
              have Hn2 : Hid (-719528 ≤ n - 337 - l ∧ n - 337 - l ≤ 2933300 ∧ ∃ M, y ≤ M ∧ 1970 ≤ M ∧ (M = y ∨ M = 1970) ∧ n - 337 - l + (aheadF (i + 1) - aheadF y) = aheadF M - 719528) := Lib.hid (by
                obtain ⟨M, h1, h2, h3, h4⟩ := Hn.out
                obtain rfl : M = 1970 := by omega
                have e1 := ahead_1970
                have e2 := ahead_mono (i + 1) 1970 (by omega) (by omega)
                have e3 := ahead_mono y (i + 1) h (by omega)
                have e4 := ahead_bd y h (by omega)
                exact ⟨by omega, by omega, 1970, h1, h2, h3, by omega⟩)
              have HM2 := Lib.hid (fun w => rlong_at i 2 l hl (by omega) (by omega) (by omega) (by omega) w)
              clear hl hst
              go_wp2_with fail
              refine (HM2.out _).mono ?_
              rintro e w1 ⟨rfl, rfl⟩
              go_wp2
              go_roundw
              case rel =>
                obtain ⟨h1, h2, h3⟩ := Hn2.out
                exact ⟨i + 1, n - 337 - l, by omega, by omega, by go_num, by go_num, h1, h2, Lib.hid h3, trivial⟩
              case measure => simp [intOf]; omega
            · have Hy : Hid (n = aheadF y - 719528) := Lib.hid (by
                obtain ⟨M, h1, h2, h3, h4⟩ := Hn.out
                rcases h3 with rfl | rfl
                · obtain rfl : i = M := by omega
                  omega
                · by_cases hq : y = 1970
                  · subst hq
                    obtain rfl : i = 1970 := by omega
                    omega
                  · obtain rfl : i = 1970 := by omega
                    omega)
              clear Hn hi1 hi2
              go_wp2_with fail
              go_loopw [8, 11] (fun t8 t11 wr => ∃ i n : Int, 1 ≤ i ∧ i ≤ m ∧ t11 = .int .i64 i ∧ t8 = .int .i64 n ∧ -719528 ≤ n ∧ n ≤ 2933300 ∧ Hid (n = aheadF y - 719528 + cumN y (i - 1).toNat) ∧ w = wr) (fun _ t11 _ => (m - intOf t11).toNat)
              case atStart =>
                refine ⟨1, n, by omega, by omega, by go_num, by go_num, by omega, by omega, Lib.hid ?_, rfl⟩
                have : cumN y ((1 : Int) - 1).toNat = 0 := rfl
                have := Hy.out
                omega
              case round =>
                clear Hy hn1 hn2
                obtain ⟨i, n, hi1, hi2, rfl, rfl, hn1, hn2, Hn, rfl⟩ := hrel
                by_cases hlt : i < m
                · obtain ⟨l, hl⟩ : ∃ l, longF y i = l := ⟨_, rfl⟩
                  have hlb := longF_bd y i
                  rw [hl] at hlb
                  obtain ⟨hl1, hl2⟩ := hlb
                  have Hn2 : Hid (n + l = aheadF y - 719528 + cumN y (i + 1 - 1).toNat) := Lib.hid (by rw [cum_step y i hi1, hl]; have := Hn.out; omega)
                  have HN3 := Lib.hid (part_bd y (i + 1) h h' (by omega) (by omega))
                  have HM2 := Lib.hid (fun w => rlong_at y i l hl h (by omega) hi1 (by omega) w)
                  clear hl
                  go_wp2_with fail
                  refine (HM2.out _).mono ?_
                  rintro e w1 ⟨rfl, rfl⟩
                  go_wp2
                  go_roundw
                  case rel =>
                    have h1 := Hn2.out
                    have h2 := HN3.out
                    exact ⟨i + 1, n + l, by omega, by omega, by go_num, by go_num, by omega, by omega, Hn2, trivial⟩
                  case measure => simp [intOf]; omega
                · obtain rfl : i = m := by omega
                  go_wp2
                  go_ret2
                  obtain ⟨e1, e2⟩ := dayV_ok ⟨h, h'⟩ ⟨g, g'⟩ k Hd.out Hn.out
                  exact ⟨ret_day (by omega) e2, rfl⟩
    · have Hr := Lib.hid (okD_not y m d (by rw [hL]; omega))
      have HM := Lib.hid (fun w => rlong_at y m L hL h (by omega) g g' w)
      clear hL
      go_enter Tryd.func15, Tryd.ntmps15
      go_wp2_with fail
      refine (HM.out _).mono ?_
      rintro e w1 ⟨rfl, rfl⟩
      go_wp2
      go_ret2
      obtain ⟨e1, e2⟩ := dayV_not Hr.out
      exact ⟨ret_day e1 e2, rfl⟩
  all_goals
    have Hr := Lib.hid (okD_not y m d (by omega))
    go_enter Tryd.func15, Tryd.ntmps15
    go_wp2
    go_ret2
    obtain ⟨e1, e2⟩ := dayV_not Hr.out
    exact ⟨ret_day e1 e2, rfl⟩
end Go.Proofs.YtijpbfafkdpolaaDoor
