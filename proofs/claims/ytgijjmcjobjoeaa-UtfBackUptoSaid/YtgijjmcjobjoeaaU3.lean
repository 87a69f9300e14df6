import Derived.Test.YtgijjmcjobjoeaaU2
namespace Go.Proofs.Ytgijjmcjobjoeaa
open Go.RowKit

theorem oneV_neg (s : ByteArray) (a : Int) (h : a < 0) : oneV s a = (0, 0) := by unfold oneV; rw [if_pos h]
theorem oneV_nat (s : ByteArray) (a : Nat) : oneV s (a : Int) = decF s a := by unfold oneV; rw [if_neg (by omega), Int.toNat_natCast]
theorem ret_two {k l : IntKind} {a b : Int} {r : Int × Int} (h : r = (a, b)) : Ending.returned (.tuple #[.int k a, .int l b]) = .returned (.tuple #[.int k r.1, .int l r.2]) := by rw [h]

set_option maxRecDepth 100000 in
set_option maxHeartbeats 1000000 in
theorem one_any (s : ByteArray) (at_ : Int) (hs : s.size ≤ 281474976710656) (ha : -9223372036854775808 ≤ at_ ∧ at_ ≤ 9223372036854775807) (w : World) :
    Calls Try.prog 18 #[.string s, .int .i64 at_] w fun e w' => e = .returned (.tuple #[.int .i32 (oneV s at_).1, .int .i64 (oneV s at_).2]) ∧ w = w' := by
  by_cases h1 : at_ < 0
  · have hv := Lib.hid (oneV_neg s at_ h1)
    go_enter Try.func18, Try.ntmps18
    go_wp2
    go_ret2
    exact ⟨ret_two hv.out, rfl⟩
  obtain ⟨a, rfl⟩ := Int.eq_ofNat_of_zero_le (by omega : 0 ≤ at_)
  have Hv := Lib.hid (oneV_nat s a)
  rw [Hv.out]
  by_cases h2 : s.size ≤ a
  · have hv := Lib.hid (dec_end s a h2)
    go_enter Try.func18, Try.ntmps18
    go_wp2
    go_ret2
    exact ⟨ret_two hv.out, rfl⟩
  have hlt : a < s.size := by omega
  have g0 := gb_eq s a hlt
  have b0 := gb_bd s a
  have n0 := szN_bd (gb s a)
  have p0 := szP_bd (gb s a) b0
  by_cases h3 : szN (gb s a) = 0
  · have t1 : (szN (gb s a) == 0) = true := by simp [h3]
    have hv := Lib.hid (dec_bad s a h3)
    clear h3
    go_enter Try.func18, Try.ntmps18
    go_wp2_with (first
      | (go_at_call 32; refine (size_any _ ?_ _).mono ?_; omega; rintro e w' ⟨rfl, rfl⟩))
    go_ret2
    exact ⟨ret_two hv.out, rfl⟩
  obtain ⟨n, hn⟩ := Int.eq_ofNat_of_zero_le n0.1
  have hn0 : n ≠ 0 := by omega
  have t1 : ((n : Int) == 0) = false := by simp; omega
  by_cases h4 : (s.size : Int) - a < n
  · have hv := Lib.hid (dec_short s a (by omega))
    go_enter Try.func18, Try.ntmps18
    go_wp2_with (first
      | (go_at_call 32; refine (size_any _ ?_ _).mono ?_; omega; rintro e w' ⟨rfl, rfl⟩))
    go_ret2
    exact ⟨ret_two hv.out, rfl⟩
  have Hn := Lib.hid hn
  have hacc1 : accF s a 1 = szP (gb s a) := rfl
  have Hacc1 := Lib.hid hacc1
  clear hacc1
  go_enter Try.func18, Try.ntmps18
  go_wp2_with (first
      | (go_at_call 32; refine (size_any _ ?_ _).mono ?_; omega; rintro e w' ⟨rfl, rfl⟩))
  go_loop [7, 8, 9] (fun t7 t8 t9 => ∃ k : Nat, 1 ≤ k ∧ k ≤ n ∧ t8 = .int .i64 k ∧ t7 = .int .i32 (accF s a k) ∧ (∀ j, 1 ≤ j → j < k → cont (gb s (a + j)))) (fun _ t8 _ => n - (intOf t8).toNat)
  case atStart => exact ⟨1, Nat.le_refl _, by omega, rfl, by rw [Hacc1.out], fun j h1 h2 => by omega⟩
  case round =>
    obtain ⟨k, hk1, hk2, rfl, rfl, hc⟩ := hrel
    have bd : 0 ≤ accF s a k ∧ accF s a k ≤ 16777215 ∧ (2 ≤ k + 1 → k ≤ 3 → accF s a k ≤ 131071) := by
      by_cases hk : k = 1
      · subst hk
        have := Hacc1.out
        omega
      · have h := accF_bd s a k hk1 (by omega) ⟨p0.2.2 (by rw [Hn.out]; omega), p0.1⟩ hc
        rcases (by omega : k = 2 ∨ k = 3 ∨ k = 4) with rfl | rfl | rfl
        all_goals simp only [Nat.add_one_sub_one, Int.reducePow, Int.reduceMul] at h
        all_goals omega
    have Hc := Lib.hid hc
    clear hc
    by_cases hkn : k < n
    · have hk' : a + k < s.size := by omega
      have gk := gb_eq s (a + k) hk'
      have bk := gb_bd s (a + k)
      have hb3 := bd.2.2 (by omega) (by omega)
      have Hbad : Hid (¬ cont (gb s (a + k)) → decF s a = (0, 0)) := Lib.hid (dec_cont s a k hk1 (by rw [Hn.out]; omega))
      have Hacc : Hid (accF s a (k + 1) = accF s a k * 64 + (gb s (a + k) - 128)) := Lib.hid (by
        obtain ⟨k', rfl⟩ : ∃ k', k = k' + 1 := ⟨k - 1, by omega⟩
        rfl)
      by_cases c1 : gb s (a + k) < 128
      · have hv := Lib.hid (Hbad.out (by unfold cont; omega))
        go_wp2
        go_ret2
        exact ⟨ret_two hv.out, rfl⟩
      by_cases c2 : 191 < gb s (a + k)
      · have hv := Lib.hid (Hbad.out (by unfold cont; omega))
        go_wp2
        go_ret2
        exact ⟨ret_two hv.out, rfl⟩
      go_wp2
      go_round
      case rel =>
        refine ⟨k + 1, by omega, by omega, by go_num, ?_, ?_⟩
        · rw [Hacc.out]; congr 1; omega
        · intro j j1 j2
          by_cases hj : j = k
          · subst hj; unfold cont; omega
          · exact Hc.out j j1 (by omega)
      case measure => simp [intOf]; omega
    · have hk : k = n := by omega
      subst hk
      have hall := dec_all s a k hlt Hn.out hn0 (by omega) Hc.out
      have Hall := Lib.hid hall
      clear hall
      by_cases hf : fitsF (accF s a k) k = true
      · have hv : decF s a = (accF s a k, (k : Int)) := by rw [Hall.out, if_pos hf]
        have Hv := Lib.hid hv
        clear hv
        go_wp2_with (first
          | (go_at_call 33; refine (fits_any _ _ ?_ ?_ _).mono ?_; omega; omega; rintro e w' ⟨rfl, rfl⟩))
        go_ret2
        exact ⟨ret_two Hv.out, rfl⟩
      · have hv : decF s a = (0, 0) := by rw [Hall.out, if_neg hf]
        have Hv := Lib.hid hv
        have hf2 : fitsF (accF s a k) k = false := by simpa using hf
        clear hv hf
        go_wp2_with (first
          | (go_at_call 33; refine (fits_any _ _ ?_ ?_ _).mono ?_; omega; omega; rintro e w' ⟨rfl, rfl⟩))
        go_ret2
        exact ⟨ret_two Hv.out, rfl⟩
end Go.Proofs.Ytgijjmcjobjoeaa
