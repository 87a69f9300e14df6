import Derived.Test.YtijpbfafkdpolaaDoorS17
namespace Go.Proofs.YtijpbfafkdpolaaDoor
open Go.RowKit Go.Shelf

set_option maxHeartbeats 2000000 in
theorem stampReads_walk (s : ByteArray) (w : World) (hs : s.size ≤ 140737488351232) : Calls Tryd.prog 3 #[.string s] w fun e w' => e = .returned (.bool true) ∧ Below w.heap.size w w' := by
  obtain ⟨n, hn⟩ : ∃ n, secV s = n := ⟨_, rfl⟩
  obtain ⟨b, hb⟩ : ∃ n, secOK s = n := ⟨_, rfl⟩
  have HS := Lib.hid (secs_at s n b hn hb (by omega))
  have HR := Lib.hid (rsecs_at s n b hn hb (by omega))
  have HI := Lib.hid (is_at s b hb (by omega))
  clear hn hb
  cases b
  all_goals
    go_enter Tryd.func3, Tryd.ntmps3
    go_wp2_with fail
    refine (HS.out _).mono ?_
    rintro e w1 ⟨rfl, hb1⟩
    have B1 := Lib.hid hb1
    have g1 := hb1.size
    clear hb1
    go_wp2_with fail
    refine (HR.out _).mono ?_
    rintro e w2 ⟨rfl, rfl⟩
    go_wp2_with fail
    refine (awake_any _).mono ?_
    rintro e w3 ⟨rfl, hb1⟩
    have B3 := Lib.hid (B1.out.trans (hb1.mono g1))
    have g3 := Nat.le_trans g1 hb1.size
    clear hb1
    go_wp2_with fail
    refine (HI.out _).mono ?_
    rintro e w4 ⟨rfl, hb1⟩
    have B4 := Lib.hid (B3.out.trans (hb1.mono g3))
    clear hb1
    go_wp2_with fail
    go_ret
    exact ⟨ret_bool' (by simp), B4.out⟩

theorem mk_some (n : Int) : ∃ v, IsMk n v := by
  cases h : inMk n with
  | false => exact ⟨_, .inl ⟨h, rfl⟩⟩
  | true =>
    obtain ⟨h1, h2⟩ := (inMk_iff n).1 h
    -- the year is one of ten thousand
    have key : ∀ k : Nat, k ≤ 10000 → n / 86400 + 719528 < aheadF k → ∃ y : Int, 0 ≤ y ∧ y < k ∧ aheadF y ≤ n / 86400 + 719528 ∧ n / 86400 + 719528 < aheadF (y + 1) := by
      intro k
      induction k with
      | zero => intro _ hk; have e : aheadF ((0 : Nat) : Int) = 0 := rfl; omega
      | succ k ih =>
        intro hk hlt
        by_cases hc : n / 86400 + 719528 < aheadF k
        · obtain ⟨y, a, b, c, d⟩ := ih (by omega) hc
          exact ⟨y, a, by omega, c, d⟩
        · exact ⟨k, by omega, by omega, by omega, by rw [show ((k + 1 : Nat) : Int) = (k : Int) + 1 by omega] at hlt; exact hlt⟩
    have e3 : aheadF ((10000 : Nat) : Int) = 3652425 := by decide
    obtain ⟨y, y0, y1, y2, y3⟩ := key 10000 (by omega) (by omega)
    obtain ⟨m, d, m0, m1, d0, d1, he⟩ := year_of y0 y2 y3
    refine ⟨_, .inr ⟨h, y, m, d, (okD_iff y m d).2 ⟨y0, by omega, m0, m1, d0, d1⟩, ?_, rfl⟩⟩
    unfold daysF
    omega

set_option maxHeartbeats 2000000 in
theorem stampMakes_walk (n : Int) (w : World) (hn : (-9223372036854775808 : Int) ≤ n ∧ n ≤ 9223372036854775807) : Calls Tryd.prog 5 #[.int .i64 n] w fun e w' => e = .returned (.bool true) ∧ Below w.heap.size w w' := by
  obtain ⟨v, hv⟩ := mk_some n
  have HM := Lib.hid (make_at n v hv hn)
  have HR := Lib.hid (rmake_at n v hv hn)
  have HE := eqS (rfl : v = v)
  clear hv
  go_enter Tryd.func5, Tryd.ntmps5
  go_wp2_with fail
  refine (awake_any _).mono ?_
  rintro e w1 ⟨rfl, hb1⟩
  have B1 := Lib.hid hb1
  have g1 := hb1.size
  clear hb1
  go_wp2_with fail
  refine (HM.out _).mono ?_
  rintro e w3 ⟨rfl, hb1⟩
  have B3 := Lib.hid (B1.out.trans (hb1.mono g1))
  have g3 := Nat.le_trans g1 hb1.size
  clear hb1
  go_wp2_with fail
  refine (HR.out _).mono ?_
  rintro e w4 ⟨rfl, hb1⟩
  have B4 := Lib.hid (B3.out.trans (hb1.mono g3))
  clear hb1
  go_wp2_with fail
  go_ret
  exact ⟨ret_bool' (by simp), B4.out⟩

set_option maxHeartbeats 2000000 in
theorem stampCompares_walk (a b : ByteArray) (w : World) (ha : a.size ≤ 140737488351232) (hb : b.size ≤ 140737488351232) : Calls Tryd.prog 6 #[.string a, .string b] w fun e w' => e = .returned (.bool true) ∧ Below w.heap.size w w' := by
  obtain ⟨v, hv⟩ : ∃ v, cmpV a b = v := ⟨_, rfl⟩
  have HM := Lib.hid (comp_at a b v hv (by omega) (by omega))
  have HR := Lib.hid (rcomp_at a b v hv (by omega) (by omega))
  clear hv
  go_enter Tryd.func6, Tryd.ntmps6
  go_wp2_with fail
  refine (awake_any _).mono ?_
  rintro e w1 ⟨rfl, hb1⟩
  have B1 := Lib.hid hb1
  have g1 := hb1.size
  clear hb1
  go_wp2_with fail
  refine (HM.out _).mono ?_
  rintro e w3 ⟨rfl, hb1⟩
  have B3 := Lib.hid (B1.out.trans (hb1.mono g1))
  clear hb1
  go_wp2_with fail
  refine (HR.out _).mono ?_
  rintro e w4 ⟨rfl, rfl⟩
  go_wp2_with fail
  go_ret
  exact ⟨ret_bool' (by simp), B3.out⟩
end Go.Proofs.YtijpbfafkdpolaaDoor
