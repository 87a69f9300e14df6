import Derived.Test.YtijpbfafkdpolaaDoorS1
namespace Go.Proofs.YtijpbfafkdpolaaDoor
open Go.RowKit Go.Shelf

theorem month_at (y m L : Int) (hL : longF y m = L) (h0 : 0 ≤ y) (h1 : y ≤ 10000) (g0 : 1 ≤ m) (g1 : m ≤ 12) (w : World) : Calls Tryd.prog 27 #[.int .i64 y, .int .i64 m] w fun e w' => e = .returned (.int .i64 L) ∧ w = w' := by
  subst hL; exact month_any y m h0 h1 g0 g1 w
theorem rlong_at (y m L : Int) (hL : longF y m = L) (h0 : 0 ≤ y) (h1 : y ≤ 10000) (g0 : 1 ≤ m) (g1 : m ≤ 12) (w : World) : Calls Tryd.prog 29 #[.int .i64 y, .int .i64 m] w fun e w' => e = .returned (.int .i64 L) ∧ w = w' := by
  subst hL; exact rlong_any y m h0 h1 g0 g1 w
theorem ahead_at (y L : Int) (hL : aheadF y = L) (h0 : 0 ≤ y) (h1 : y ≤ 10000) (w : World) : Calls Tryd.prog 28 #[.int .i64 y] w fun e w' => e = .returned (.int .i64 L) ∧ w = w' := by
  subst hL; exact ahead_any y h0 h1 w
def dayV (y m d : Int) : Int := if okD y m d = true then daysF y m d else 0
theorem okD_not (y m d : Int) (h : ¬ (0 ≤ y ∧ y ≤ 9999 ∧ 1 ≤ m ∧ m ≤ 12 ∧ 1 ≤ d ∧ d ≤ longF y m)) : okD y m d = false := by unfold okD; exact decide_eq_false h
theorem ret_day {a a' : Int} {b b' : Bool} (h : a = a') (h' : b = b') : Ending.returned (.tuple #[.int .i64 a, .bool b]) = .returned (.tuple #[.int .i64 a', .bool b']) := by rw [h, h']
theorem dayV_not {y m d : Int} (h : okD y m d = false) : (0 : Int) = dayV y m d ∧ false = okD y m d := by unfold dayV; rw [h]; simp
theorem dayV_ok {y m d n : Int} (h0 : 0 ≤ y ∧ y ≤ 9999) (h1 : 1 ≤ m ∧ m ≤ 12) (h2 : 1 ≤ d) (h3 : d ≤ longF y m) (hn : n = aheadF y - 719528 + cumN y (m - 1).toNat) : n + d - 1 = dayV y m d ∧ true = okD y m d := by
  have h := (okD_iff y m d).2 ⟨h0.1, h0.2, h1.1, h1.2, h2, h3⟩
  unfold dayV
  rw [h, if_pos rfl]
  exact ⟨by unfold daysF; omega, rfl⟩
theorem part_bd (y k : Int) (h0 : 0 ≤ y) (h1 : y ≤ 9999) (g0 : 1 ≤ k) (g1 : k ≤ 12) : -719528 ≤ aheadF y - 719528 + cumN y (k - 1).toNat ∧ aheadF y - 719528 + cumN y (k - 1).toNat ≤ 2933300 := by
  have := ahead_bd y h0 (by omega)
  have := cumN_bd y (k - 1).toNat
  omega

set_option maxHeartbeats 2000000 in
theorem days_any (y m d : Int) (w : World) : Calls Tryd.prog 14 #[.int .i64 y, .int .i64 m, .int .i64 d] w fun e w' => e = .returned (.tuple #[.int .i64 (dayV y m d), .bool (okD y m d)]) ∧ w = w' := by
  rcases (by omega : y < 0 ∨ 9999 < y ∨ ((0 ≤ y ∧ y ≤ 9999) ∧ m < 1) ∨ ((0 ≤ y ∧ y ≤ 9999) ∧ 12 < m) ∨ ((0 ≤ y ∧ y ≤ 9999) ∧ (1 ≤ m ∧ m ≤ 12) ∧ d < 1) ∨ ((0 ≤ y ∧ y ≤ 9999) ∧ (1 ≤ m ∧ m ≤ 12) ∧ 1 ≤ d)) with h | h | ⟨⟨h, h'⟩, g⟩ | ⟨⟨h, h'⟩, g⟩ | ⟨⟨h, h'⟩, ⟨g, g'⟩, k⟩ | ⟨⟨h, h'⟩, ⟨g, g'⟩, k⟩
  case inr.inr.inr.inr.inr =>
    obtain ⟨L, hL⟩ : ∃ L, longF y m = L := ⟨_, rfl⟩
    have hLb := longF_bd y m
    rw [hL] at hLb
    by_cases hd : d ≤ L
    · have Hd : Hid (d ≤ longF y m) := Lib.hid (by rw [hL]; exact hd)
      obtain ⟨a, ha⟩ : ∃ a, aheadF y = a := ⟨_, rfl⟩
      have hab := ahead_bd y h (by omega)
      rw [ha] at hab
      obtain ⟨hab1, hab2⟩ := hab
      have HM := Lib.hid (fun w => month_at y m L hL h (by omega) g g' w)
      have HA := Lib.hid (fun w => ahead_at y a ha h (by omega) w)
      have Ha := Lib.hid ha
      clear hL ha
      go_enter Tryd.func14, Tryd.ntmps14
      go_wp2_with fail
      refine (HM.out _).mono ?_
      rintro e w1 ⟨rfl, rfl⟩
      go_wp2_with fail
      refine (HA.out _).mono ?_
      rintro e w1 ⟨rfl, rfl⟩
      go_wp2_with fail
      refine (ahead_at 1970 719528 ahead_1970 (by omega) (by omega) _).mono ?_
      rintro e w1 ⟨rfl, rfl⟩
      go_wp2_with fail
      go_loopw [8, 9] (fun t8 t9 wr => ∃ i n : Int, 1 ≤ i ∧ i ≤ m ∧ t9 = .int .i64 i ∧ t8 = .int .i64 n ∧ -719528 ≤ n ∧ n ≤ 2933300 ∧ Hid (n = aheadF y - 719528 + cumN y (i - 1).toNat) ∧ w = wr) (fun _ t9 _ => (m - intOf t9).toNat)
      case atStart =>
        refine ⟨1, a - 719528, by omega, by omega, by go_num, by go_num, by omega, by omega, Lib.hid ?_, rfl⟩
        rw [Ha.out]
        have : cumN y ((1 : Int) - 1).toNat = 0 := rfl
        omega
      case round =>
        obtain ⟨i, n, hi1, hi2, rfl, rfl, hn1, hn2, Hn, rfl⟩ := hrel
        by_cases hlt : i < m
        · obtain ⟨l, hl⟩ : ∃ l, longF y i = l := ⟨_, rfl⟩
          have hlb := longF_bd y i
          rw [hl] at hlb
          obtain ⟨hl1, hl2⟩ := hlb
          have Hn2 : Hid (n + l = aheadF y - 719528 + cumN y (i + 1 - 1).toNat) := Lib.hid (by rw [cum_step y i hi1, hl]; have := Hn.out; omega)
          have HN3 := Lib.hid (part_bd y (i + 1) h h' (by omega) (by omega))
          have HM2 := Lib.hid (fun w => month_at y i l hl h (by omega) hi1 (by omega) w)
          clear hl
          go_wp2_with fail
          refine (HM2.out _).mono ?_
          rintro e w1 ⟨rfl, rfl⟩
          go_wp2
          go_roundw
          case rel =>
            have h1 := Hn2.out
            have h2 := HN3.out
            exact ⟨i + 1, n + l, by omega, by omega, by go_num, by go_num, by omega, by omega, Hn2, trivial⟩
          case measure => simp [intOf]; omega
        · obtain rfl : i = m := by omega
          go_wp2
          go_ret2
          obtain ⟨e1, e2⟩ := dayV_ok ⟨h, h'⟩ ⟨g, g'⟩ k Hd.out Hn.out
          exact ⟨ret_day (by omega) e2, rfl⟩
    · have Hr := Lib.hid (okD_not y m d (by rw [hL]; omega))
      have HM := Lib.hid (fun w => month_at y m L hL h (by omega) g g' w)
      clear hL
      go_enter Tryd.func14, Tryd.ntmps14
      go_wp2_with fail
      refine (HM.out _).mono ?_
      rintro e w1 ⟨rfl, rfl⟩
      go_wp2
      go_ret2
      obtain ⟨e1, e2⟩ := dayV_not Hr.out
      exact ⟨ret_day e1 e2, rfl⟩
  all_goals
    have Hr := Lib.hid (okD_not y m d (by omega))
    go_enter Tryd.func14, Tryd.ntmps14
    go_wp2
    go_ret2
    obtain ⟨e1, e2⟩ := dayV_not Hr.out
    exact ⟨ret_day e1 e2, rfl⟩
end Go.Proofs.YtijpbfafkdpolaaDoor
