import Derived.Test.YtgijjmcjobjoeaaU8
namespace Go.Proofs.Ytgijjmcjobjoeaa
open Go.RowKit

theorem uw1 : oneV ⟨#[195, 169]⟩ 0 = (233, 2) := by decide +kernel
theorem uw2 : oneV ⟨#[195, 169]⟩ 1 = (0, 0) := by decide +kernel
theorem uw3 : strOfNums (encL 8364) = ⟨#[226, 130, 172]⟩ := by decide +kernel
theorem uw4 : endF ⟨#[97, 192, 128]⟩ 0 = 1 := by decide +kernel
theorem uw5 : strOfNums (encL 55296) = ⟨#[]⟩ := by decide +kernel

set_option maxHeartbeats 1000000 in
theorem uawake_any (w : World) : Calls Try.prog 20 #[] w fun e w' => e = .returned (.bool true) ∧ Below w.heap.size w w' := by
  go_enter Try.func20, Try.ntmps20
  go_wp2_with fail
  refine (one_any ⟨#[195, 169]⟩ 0 (by decide) (by omega) _).mono ?_
  rw [uw1]
  rintro e w' ⟨rfl, rfl⟩
  go_wp2_with fail
  refine (one_any ⟨#[195, 169]⟩ 1 (by decide) (by omega) _).mono ?_
  rw [uw2]
  rintro e w' ⟨rfl, rfl⟩
  go_wp2_with fail
  refine (put_any 8364 (by omega) _).mono ?_
  rw [uw3]
  rintro e w1 ⟨rfl, hb1⟩
  have HB1 := Lib.hid hb1
  clear hb1
  go_wp2_with fail
  refine (bad_any ⟨#[97, 192, 128]⟩ (by decide) _).mono ?_
  rw [uw4]
  rintro e w' ⟨rfl, rfl⟩
  go_wp2_with fail
  refine (put_any 55296 (by omega) _).mono ?_
  rw [uw5]
  rintro e w2 ⟨rfl, hb2⟩
  have HB2 := Lib.hid (HB1.out.trans (hb2.mono HB1.out.size))
  clear hb2
  go_wp2_with fail
  go_ret
  exact ⟨rfl, HB2.out⟩

set_option maxHeartbeats 1000000 in
theorem utfOnes_walk (s : ByteArray) (at_ : Int) (w : World) (hs : s.size ≤ 140737488351232) (ha : -9223372036854775808 ≤ at_ ∧ at_ ≤ 9223372036854775807) :
    Calls Try.prog 8 #[.string s, .int .i64 at_] w fun e w' => e = .returned (.bool true) ∧ Below w.heap.size w w' := by
  obtain ⟨p, m, hv⟩ : ∃ p m, oneV s at_ = (p, m) := ⟨_, _, rfl⟩
  have hp : -2147483648 ≤ p ∧ p ≤ 2147483647 := by
    have h : oneV s at_ = (0, 0) ∨ oneV s at_ = decF s at_.toNat := by unfold oneV; split <;> simp
    rcases h with h | h
    · rw [hv] at h; injection h with h1 h2; omega
    · have hd := decF_ok s at_.toNat
      rw [← h, hv] at hd
      simp only at hd
      omega
  have Hv := Lib.hid hv
  clear hv
  go_enter Try.func8, Try.ntmps8
  go_wp2_with fail
  refine (one_any s at_ (by omega) ha _).mono ?_
  rw [Hv.out]
  rintro e w' ⟨rfl, rfl⟩
  go_wp2_with fail
  refine (rone_any s at_ (by omega) ha _).mono ?_
  rw [Hv.out]
  rintro e w1 ⟨rfl, hb1⟩
  have HB1 := Lib.hid hb1
  clear hb1
  go_wp2_with fail
  refine (uawake_any _).mono ?_
  rintro e w2 ⟨rfl, hb2⟩
  have HB2 := Lib.hid (HB1.out.trans (hb2.mono HB1.out.size))
  clear hb2
  go_wp2_with fail
  go_ret
  exact ⟨ret_bool (by simp), HB2.out⟩
end Go.Proofs.Ytgijjmcjobjoeaa
